/-
Contracts of the laws' own helpers: sz.. (how much an argument holds), to.. (a deep copy in new memory), eq.. (deep equality): by program (gen_laws.py), one text a make of type.
The order of tuples; tuples at places; search in a relation.
The library's contracts, laid at this seat's program. Written by the kit's lay-shelf and lay-plain: its numbers hold for that seat alone (shelf2.py).
Texts: bytes joined; decimal numbers; rows of texts; the library's Join. Contracts of dec, digits, spaced, Decimal.
Contracts: valid instances and formulas, the program's.
Texts of instances and formulas: plain, and contracts of the program's InstanceText and FormulaText.
Plain: texts cut at a byte; numbers, atoms and formulas read back from their texts.
Marks: what a write into all numbers of a datum's memory changes, and what the datum then reads as. No program is named here.
Plain mathematics of the search: the lists of values that begin with some and go all the way, in order; what a listener is told of them. No program is named here.
-/
import Derived.Test.YtmnjlhcbabhhlaaGreatDoorQAA
import Derived.Lib.QuietBelow
import Derived.Shelf.Strings.OnBuilder
import Derived.Shelf.Small.Wraps
import Derived.Shelf.Strconv.Itoa4
import Derived.Shelf.Strings.Cut
import Derived.Shelf.Strings.SplitShaped
import Derived.Test.YtmnjlhcbabhhlaaGreatDoorProg
import Derived.Lib.Join
import Derived.Lib.SplitLaws
import Derived.Lib.ParseIntB
import Derived.Deep.RegionHeldLaw
namespace Go.Proofs.YtmnjlhcbabhhlaaGreatDoor
open Go.RowKit Go.Sort

theorem elInt : ElT Tryz.prog 34 2 1 8 := .mk (z := .int .i64 0) Tryz.underlying34 (by kernel_rfl) rfl (by decide)
set_option maxHeartbeats 400000 in
theorem eqInt64S_quiet (w : World) {v u : Value} {xs ys : List Int} (h : intsT.Rd w [v] xs) (h' : intsT.Rd w [u] ys) :
  Calls Tryz.prog 54 #[v, u] w fun e w' => e = .returned (.bool (eqB xs ys)) ∧ Quiet w w' := by
 obtain ⟨ad, cap, hv, hl, hc, hcell⟩ := ints_ex h
 obtain ⟨ad', cap', hv', hl', hc', hcell'⟩ := ints_ex h'
 obtain rfl : v = _ := by simpa using hv
 obtain rfl : u = _ := by simpa using hv'
 clear h hv h' hv'
 cases hn : (((xs.length : Nat) : Int) != (ys.length : Nat))
 rotate_left
 ·go_enter Tryz.func54, Tryz.ntmps54
  go_wp2_with fail
  go_ret
  exact ⟨ret_bool (eqB_len (by simp at hn; omega)).symm, Quiet.refl _⟩
 ·have hn' : xs.length = ys.length := by simp at hn; omega
  have HN := Lib.hid hn'
  clear hn'
  go_enter Tryz.func54, Tryz.ntmps54
  go_wp2_with fail
  go_loopw [5] (fun i wr => ∃ k : Nat, k ≤ xs.length ∧ i = .int .i64 k ∧ xs.take k = ys.take k ∧ Quiet w wr) (fun i _ => xs.length - (intOf i).toNat)
  case atStart => exact ⟨0, Nat.zero_le _, rfl, rfl, Quiet.refl _⟩
  case round =>
   obtain ⟨k, hk, rfl, ht, nq, rfl⟩ := hrel
   have HT := Lib.hid ht
   clear ht hn
   by_cases hkl : k < xs.length
   ·have hkl' : k < ys.length := by have := HN.out; omega
    obtain ⟨b, o, rfl, hb, hce⟩ := hcell (by omega)
    obtain ⟨b', o', rfl, hb', hce'⟩ := hcell' (by omega)
    have d0 := (hce k hkl).2
    have d1 := (hce' k hkl').2
    clear hce hce' hcell hcell'
    cases hq : (xs[k] != ys[k])
    rotate_left
    ·go_wp2_with fail
     go_quiet (fail)
     go_wp2_with fail
     go_ret
     exact ⟨ret_bool (eqB_get hkl hkl' (by simpa using hq)).symm, (by first | exact Quiet.refl _ | exact Quiet.drewN _ _ | exact (Quiet.drewN _ _).then (Quiet.drewN _ _) | exact ((Quiet.drewN _ _).then (Quiet.drewN _ _)).then (Quiet.drewN _ _))⟩
    ·go_wp2_with fail
     go_quiet (fail)
     go_wp2_with fail
     go_roundw
     case rel => exact ⟨k + 1, by omega, by go_num, take_eq_succ hkl hkl' HT.out (by simpa using hq), (by first | exact Quiet.refl _ | exact Quiet.drewN _ _ | exact (Quiet.drewN _ _).then (Quiet.drewN _ _) | exact ((Quiet.drewN _ _).then (Quiet.drewN _ _)).then (Quiet.drewN _ _))⟩
     case measure => simp [intOf]; omega
   ·obtain rfl : k = xs.length := by omega
    go_wp2_with fail
    go_ret
    exact ⟨ret_bool (eqB_true (by have h1 := HT.out; have h2 := HN.out; rw [List.take_length, h2, List.take_length] at h1; exact h1)).symm, (by first | exact Quiet.refl _ | exact Quiet.drewN _ _ | exact (Quiet.drewN _ _).then (Quiet.drewN _ _) | exact ((Quiet.drewN _ _).then (Quiet.drewN _ _)).then (Quiet.drewN _ _))⟩
theorem eqInt64S_any (w : World) {v u : Value} {xs ys : List Int} (h : intsT.Rd w [v] xs) (h' : intsT.Rd w [u] ys) :
  Calls Tryz.prog 54 #[v, u] w fun e w' => e = .returned (.bool (eqB xs ys)) ∧ Below w.heap.size w w' := (eqInt64S_quiet w h h').mono fun _ _ ⟨a, b⟩ => ⟨a, b.below⟩

theorem eqAtom_any (w : World) {cs cs' : Array Value} {x y : Int × List Int} (h : opT.Rd w cs.toList x) (h' : opT.Rd w cs'.toList y) :
  Calls Tryz.prog 34 #[.agg cs, .agg cs'] w fun e w' => e = .returned (.bool (eqB x y)) ∧ Below w.heap.size w w' := by
 obtain ⟨v, hv, hI, hx⟩ := pair_ex h
 obtain rfl := agg_of hv
 obtain ⟨v', hv', hI', hx'⟩ := pair_ex h'
 obtain rfl := agg_of hv'
 clear h hv h' hv'
 cases hn : (x.1 != y.1)
 rotate_left
 ·go_enter Tryz.func34, Tryz.ntmps34
  go_wp2_with fail
  go_ret
  exact ⟨ret_bool (eqB_fst (by simpa using hn)).symm, (by repeat (first | exact Below.refl _ _ | exact bA | assumption | refine Below.setCell ?_ (by first | omega | (simp; try omega)) _ | refine Below.alloc ?_ (by first | omega | (simp; try omega)) _ | refine Below.drew ?_ | refine bDN ?_ | refine bthen ?_ (by assumption)))⟩
 have HN : Hid (x.1 = y.1) := by simpa [Hid] using hn
 cases hq : eqB x.2 y.2
 all_goals
  go_enter Tryz.func34, Tryz.ntmps34
  go_wp2_with fail
  refine (eqInt64S_any _ (hx.below (by repeat (first | exact Below.refl _ _ | exact bA | assumption | refine Below.setCell ?_ (by first | omega | (simp; try omega)) _ | refine Below.alloc ?_ (by first | omega | (simp; try omega)) _ | refine Below.drew ?_ | refine bDN ?_ | refine bthen ?_ (by assumption)))) (hx'.below (by repeat (first | exact Below.refl _ _ | exact bA | assumption | refine Below.setCell ?_ (by first | omega | (simp; try omega)) _ | refine Below.alloc ?_ (by first | omega | (simp; try omega)) _ | refine Below.drew ?_ | refine bDN ?_ | refine bthen ?_ (by assumption))))).mono ?_
  rintro e w1 ⟨rfl, hb1⟩
  rw [hq]
  go_wp2_with fail
  go_ret
  exact ⟨ret_bool (eqB_snd HN.out hq).symm, (by repeat (first | exact Below.refl _ _ | exact bA | assumption | refine Below.setCell ?_ (by first | omega | (simp; try omega)) _ | refine Below.alloc ?_ (by first | omega | (simp; try omega)) _ | refine Below.drew ?_ | refine bDN ?_ | refine bthen ?_ (by assumption)))⟩
theorem elAtomS : ElT Tryz.prog 22 36 2 32 := .mk (z := .agg #[.int .i64 0, .slice none 0 0]) Tryz.underlying22 (by kernel_rfl) rfl (by decide)
set_option maxHeartbeats 400000 in
theorem eqAtomS_any (w : World) {v u : Value} {xs ys : List (Int × List Int)} (h : opsT.Rd w [v] xs) (h' : opsT.Rd w [u] ys) :
  Calls Tryz.prog 17 #[v, u] w fun e w' => e = .returned (.bool (eqB xs ys)) ∧ Below w.heap.size w w' := by
 obtain ⟨ad, cap, hv, hl, hc, hcell⟩ := pairs_ex h
 obtain ⟨ad', cap', hv', hl', hc', hcell'⟩ := pairs_ex h'
 obtain rfl : v = _ := by simpa using hv
 obtain rfl : u = _ := by simpa using hv'
 clear h hv h' hv'
 cases hn : (((xs.length : Nat) : Int) != (ys.length : Nat))
 rotate_left
 ·go_enter Tryz.func17, Tryz.ntmps17
  go_wp2_with fail
  go_ret
  exact ⟨ret_bool (eqB_len (by simp at hn; omega)).symm, Below.refl _ _⟩
 ·have hn' : xs.length = ys.length := by simp at hn; omega
  have HN := Lib.hid hn'
  clear hn'
  go_enter Tryz.func17, Tryz.ntmps17
  go_wp2_with fail
  go_loopw [5] (fun i wr => ∃ k : Nat, k ≤ xs.length ∧ i = .int .i64 k ∧ xs.take k = ys.take k ∧ Below w.heap.size w wr) (fun i _ => xs.length - (intOf i).toNat)
  case atStart => exact ⟨0, Nat.zero_le _, rfl, rfl, Below.refl _ _⟩
  case round =>
   obtain ⟨k, hk, rfl, ht, hbel⟩ := hrel
   have HT := Lib.hid ht
   clear ht hn
   by_cases hkl : k < xs.length
   ·have hkl' : k < ys.length := by have := HN.out; omega
    obtain ⟨b, o, rfl, hb, hce⟩ := hcell (by omega)
    obtain ⟨b', o', rfl, hb', hce'⟩ := hcell' (by omega)
    obtain ⟨u, hu, hI, hc0, hc1⟩ := hce k hkl
    have d0 : wr.cell? ⟨b, o + k * 2, none⟩ = some (.int .i64 xs[k].1) := (hbel.cell hb).trans hc0
    have d1 : wr.cell? ⟨b, o + k * 2 + 1, none⟩ = some u := (hbel.cell hb).trans hc1
    have hx : opT.Rd wr #[.int .i64 xs[k].1, u].toList xs[k] := pair_mk hI (hu.below hbel)
    obtain ⟨u', hu', hI', hc0', hc1'⟩ := hce' k hkl'
    have d0' : wr.cell? ⟨b', o' + k * 2, none⟩ = some (.int .i64 ys[k].1) := (hbel.cell hb').trans hc0'
    have d1' : wr.cell? ⟨b', o' + k * 2 + 1, none⟩ = some u' := (hbel.cell hb').trans hc1'
    have hx' : opT.Rd wr #[.int .i64 ys[k].1, u'].toList ys[k] := pair_mk hI' (hu'.below hbel)
    have k0 := cell_regrown d0
    have k1 := cell_regrown d1
    have k0' := cell_regrown d0'
    have k1' := cell_regrown d1'
    have cQ : ∀ d os, Calls Tryz.prog 34 #[.agg #[.int .i64 xs[k].1, u], .agg #[.int .i64 ys[k].1, u']] (grow (redrawn wr d) os) fun e w'' => e = .returned (.bool (eqB xs[k] ys[k])) ∧ ∃ p : Regrown, w'' = grow (redrawn wr p.d) p.os := fun d os =>
     Calls.regrown_of (eqAtom_any _ (hx.below (below_regrown _ d os)) (hx'.below (below_regrown _ d os)))
    clear hce hce' hcell hcell' hc0 hc1 hc0' hc1' d0 d1 d0' d1'
    go_wp2_with fail
    refine wp_region_quiet_below (by kernel_rfl) (by kernel_rfl) ?_
    repeat (go_big_quiet_step (exact cQ _ _))
    refine wpQuiet_nil ?_
    rintro w2 ⟨p, rfl⟩
    have hb2 := below_regrown wr p.d p.os
    cases hq : eqB xs[k] ys[k]
    ·go_wp2_with fail
     go_ret
     exact ⟨ret_bool (eqB_get hkl hkl' (fun e => by rw [eqB_true e] at hq; cases hq)).symm, bthen hbel hb2⟩
    ·go_wp2_with fail
     go_roundw
     case rel => exact ⟨k + 1, by omega, by go_num, take_eq_succ hkl hkl' HT.out (eqB_iff.1 hq), bthen hbel hb2⟩
     case measure => simp [intOf]; omega
   ·obtain rfl : k = xs.length := by omega
    go_wp2_with fail
    go_ret
    exact ⟨ret_bool (eqB_true (by have h1 := HT.out; have h2 := HN.out; rw [List.take_length, h2, List.take_length] at h1; exact h1)).symm, hbel⟩
theorem eqFormula_any (w : World) {cs cs' : Array Value} {x y : Int × Int × List (Int × List Int)} (h : frmT.Rd w cs.toList x) (h' : frmT.Rd w cs'.toList y) :
  Calls Tryz.prog 6 #[.agg cs, .agg cs'] w fun e w' => e = .returned (.bool (eqB x y)) ∧ Below w.heap.size w w' := by
 obtain ⟨v, hv, hI, hI2, hx⟩ := trip_ex h
 obtain rfl := agg_of hv
 obtain ⟨v', hv', hI', hI2', hx'⟩ := trip_ex h'
 obtain rfl := agg_of hv'
 clear h hv h' hv'
 cases hn : (x.1 != y.1)
 rotate_left
 ·go_enter Tryz.func6, Tryz.ntmps6
  go_wp2_with fail
  go_ret
  exact ⟨ret_bool (eqB_fst (by simpa using hn)).symm, (by repeat (first | exact Below.refl _ _ | exact bA | assumption | refine Below.setCell ?_ (by first | omega | (simp; try omega)) _ | refine Below.alloc ?_ (by first | omega | (simp; try omega)) _ | refine Below.drew ?_ | refine bDN ?_ | refine bthen ?_ (by assumption)))⟩
 have HN : Hid (x.1 = y.1) := by simpa [Hid] using hn
 cases hm : (x.2.1 != y.2.1)
 rotate_left
 ·go_enter Tryz.func6, Tryz.ntmps6
  go_wp2_with fail
  go_ret
  exact ⟨ret_bool (eqB_snd HN.out (eqB_fst (by simpa using hm))).symm, (by repeat (first | exact Below.refl _ _ | exact bA | assumption | refine Below.setCell ?_ (by first | omega | (simp; try omega)) _ | refine Below.alloc ?_ (by first | omega | (simp; try omega)) _ | refine Below.drew ?_ | refine bDN ?_ | refine bthen ?_ (by assumption)))⟩
 have HM : Hid (x.2.1 = y.2.1) := by simpa [Hid] using hm
 cases hq : eqB x.2.2 y.2.2
 all_goals
  go_enter Tryz.func6, Tryz.ntmps6
  go_wp2_with fail
  refine (eqAtomS_any _ (hx.below (by repeat (first | exact Below.refl _ _ | exact bA | assumption | refine Below.setCell ?_ (by first | omega | (simp; try omega)) _ | refine Below.alloc ?_ (by first | omega | (simp; try omega)) _ | refine Below.drew ?_ | refine bDN ?_ | refine bthen ?_ (by assumption)))) (hx'.below (by repeat (first | exact Below.refl _ _ | exact bA | assumption | refine Below.setCell ?_ (by first | omega | (simp; try omega)) _ | refine Below.alloc ?_ (by first | omega | (simp; try omega)) _ | refine Below.drew ?_ | refine bDN ?_ | refine bthen ?_ (by assumption))))).mono ?_
  rintro e w1 ⟨rfl, hb1⟩
  rw [hq]
  go_wp2_with fail
  go_ret
  exact ⟨ret_bool (eqB_snd HN.out (eqB_snd HM.out hq)).symm, (by repeat (first | exact Below.refl _ _ | exact bA | assumption | refine Below.setCell ?_ (by first | omega | (simp; try omega)) _ | refine Below.alloc ?_ (by first | omega | (simp; try omega)) _ | refine Below.drew ?_ | refine bDN ?_ | refine bthen ?_ (by assumption)))⟩
end Go.Proofs.YtmnjlhcbabhhlaaGreatDoor
namespace Go.Proofs.YtmnjlhcbabhhlaaGreatDoor
open Go.RowKit Go.Sort
theorem Bl.own {α : Type} {E : Ty α} {e base top : Nat} {w : World} {v : Value} {ys : List α} (h : Bl E e base top w v ys) {g : Nat} (hg : v.ownBlock = some g) : base ≤ g := by
 obtain ⟨L, fps, h1, _⟩ := h
 exact (h1.lt g hg).1
theorem news1 {w : World} {u : Value} {T : TypeId} : ∀ j x, [u][j]? = some x → (w.alloc (.cells #[u] T)).cell? ((⟨w.heap.size, 0, none⟩ : Addr).add j) = some x := by
 intro j x h
 match j with
 | 0 => simp at h; subst h; simp [Addr.add]
 | j + 1 => simp at h
end Go.Proofs.YtmnjlhcbabhhlaaGreatDoor
namespace Go.Proofs
open Go.Shelf
def Tryz.lays156_ren : Go.Shelf.Ren := ⟨fun | 156 => 33 | 165 => 51 | 166 => 52 | 169 => 53 | 240 => 68 | 241 => 69 | 276 => 87 | 277 => 88 | n => n, fun | 31 => 30 | 9 => 9 | 3 => 3 | 4 => 4 | 0 => 0 | 20 => 20 | 72 => 76 | 76 => 78 | 70 => 74 | 37 => 66 | 75 => 53 | 127 => 97 | 164 => 112 | 5 => 5 | 80 => 80 | n => n, fun | n => n⟩
theorem Tryz.lays156 : Go.Proofs.Lays.n156 Tryz.prog Tryz.lays156_ren := {
 mixed := by kernel_rfl
 f156 := Tryz.func33.trans (congrArg some (by kernel_rfl))
 f165 := Tryz.func51.trans (congrArg some (by kernel_rfl))
 f166 := Tryz.func52.trans (congrArg some (by kernel_rfl))
 f169 := Tryz.func53.trans (congrArg some (by kernel_rfl))
 f240 := Tryz.func68.trans (congrArg some (by kernel_rfl))
 f241 := Tryz.func69.trans (congrArg some (by kernel_rfl))
 f276 := Tryz.func87.trans (congrArg some (by kernel_rfl))
 f277 := Tryz.func88.trans (congrArg some (by kernel_rfl))
 t0 := Tryz.underlying0
 a0 := Tryz.isAgg0
 z0 := Tryz.sizeOf0
 v0 := Tryz.zeroValue0
 t3 := Tryz.underlying3
 a3 := Tryz.isAgg3
 z3 := Tryz.sizeOf3
 v3 := Tryz.zeroValue3
 t4 := Tryz.underlying4
 a4 := Tryz.isAgg4
 z4 := Tryz.sizeOf4
 v4 := Tryz.zeroValue4
 t9 := Tryz.underlying9
 a9 := Tryz.isAgg9
 z9 := Tryz.sizeOf9
 v9 := Tryz.zeroValue9
 t20 := Tryz.underlying20
 a20 := Tryz.isAgg20
 z20 := Tryz.sizeOf20
 v20 := Tryz.zeroValue20
 t31 := Tryz.underlying30
 a31 := Tryz.isAgg30
 z31 := Tryz.sizeOf30
 v31 := Tryz.zeroValue30
 t37 := Tryz.underlying66
 a37 := Tryz.isAgg66
 z37 := Tryz.sizeOf66
 v37 := Tryz.zeroValue66
 t70 := Tryz.underlying74
 a70 := Tryz.isAgg74
 z70 := Tryz.sizeOf74
 v70 := Tryz.zeroValue74
 t72 := Tryz.underlying76
 a72 := Tryz.isAgg76
 z72 := Tryz.sizeOf76
 v72 := Tryz.zeroValue76
 t75 := Tryz.underlying53
 a75 := Tryz.isAgg53
 z75 := Tryz.sizeOf53
 v75 := Tryz.zeroValue53
 t76 := Tryz.underlying78
 a76 := Tryz.isAgg78
 z76 := Tryz.sizeOf78
 v76 := Tryz.zeroValue78
 t127 := Tryz.underlying97
 a127 := Tryz.isAgg97
 z127 := Tryz.sizeOf97
 v127 := Tryz.zeroValue97
 t164 := Tryz.underlying112
 a164 := Tryz.isAgg112
 z164 := Tryz.sizeOf112
 v164 := Tryz.zeroValue112 }
theorem Tryz.Builder_Extra_156 : Builder.Extra Tryz.prog Tryz.lays156_ren := {
 sizeBuilder := by kernel_rfl
 liesBuilder := by kernel_rfl
 t5 := Tryz.underlying5
 a5 := Tryz.isAgg5
 z5 := Tryz.sizeOf5
 v5 := Tryz.zeroValue5
 infoByte := by kernel_rfl
 cellsByte := by kernel_rfl
 sizeByte := by kernel_rfl
 neB5 := by decide }
open Go.RowKit in
/-- No element: the empty string; the world is as it was. (Whatever the slice's address and capacity: a nil slice too.) (LAID: no walk: one application.) -/
theorem Tryz.strings_Join_none (a : Option Addr) (c : Nat) (sep : ByteArray) (w : World) :
  Calls Tryz.prog 33 #[.slice a 0 c, .string sep] w fun e w' => e = .returned (.string ⟨#[]⟩) ∧ w' = w := Any.strings_Join_none Tryz.lays156 Tryz.Builder_Extra_156 a c sep w
open Go.RowKit in
/-- strings.Join: "Join concatenates the elements of its first argument to create a single string. The separator string sep is placed between elements in the resulting string.": HOWEVER MANY ELEMENTS. Below the heap's end the world is as it was. (LAID: no walk: one application.) -/
theorem Tryz.strings_Join (bk o c : Nat) (xs : List ByteArray) (sep : ByteArray) (w : World) (hcells : ∀ (j : Nat) x, xs[j]? = some x → w.cell? ⟨bk, o + j, none⟩ = some (.string x)) (hbk : bk < w.heap.size) (hN : xs.length ≤ 140737488355328) (hcap : xs.length ≤ c) (hlen : (Lib.join (xs.map (·.data.toList)) sep.data.toList).length ≤ 140737488355328) :
  Calls Tryz.prog 33 #[.slice (some ⟨bk, o, none⟩) xs.length c, .string sep] w fun e w' => e = .returned (.string ⟨(Lib.join (xs.map (·.data.toList)) sep.data.toList).toArray⟩) ∧ Below w.heap.size w w' := Any.strings_Join Tryz.lays156 Tryz.Builder_Extra_156 bk o c xs sep w hcells hbk hN hcap hlen
def Tryz.lays103_ren : Go.Shelf.Ren := ⟨fun | 103 => 30 | 210 => 44 | 206 => 65 | n => n, fun | 9 => 9 | 4 => 4 | 24 => 59 | 3 => 3 | n => n, fun | n => n⟩
theorem Tryz.lays103 : Go.Proofs.Lays.n103 Tryz.prog Tryz.lays103_ren := {
 mixed := by kernel_rfl
 f103 := Tryz.func30.trans (congrArg some (by kernel_rfl))
 f206 := Tryz.func65.trans (congrArg some (by kernel_rfl))
 f210 := Tryz.func44.trans (congrArg some (by kernel_rfl))
 t3 := Tryz.underlying3
 a3 := Tryz.isAgg3
 z3 := Tryz.sizeOf3
 v3 := Tryz.zeroValue3
 t4 := Tryz.underlying4
 a4 := Tryz.isAgg4
 z4 := Tryz.sizeOf4
 v4 := Tryz.zeroValue4
 t9 := Tryz.underlying9
 a9 := Tryz.isAgg9
 z9 := Tryz.sizeOf9
 v9 := Tryz.zeroValue9
 t24 := Tryz.underlying59
 a24 := Tryz.isAgg59
 z24 := Tryz.sizeOf59
 v24 := Tryz.zeroValue59 }
open Go.RowKit in
/-- strings.CutPrefix: "CutPrefix returns s without the provided leading prefix string and reports whether it found the prefix. If s doesn't start with prefix, CutPrefix returns s, false. If prefix is the empty string, CutPrefix returns s, true.": IT RETURNS '(Lib.trimPrefix s p, Lib.hasPrefix s p)'; the world is as it was. (LAID: no walk: one application.) -/
theorem Tryz.strings_CutPrefix (s p : ByteArray) (w : World) :
  Calls Tryz.prog 30 #[.string s, .string p] w fun e w' => e = .returned (.tuple #[.string ⟨(Lib.trimPrefix s.data.toList p.data.toList).toArray⟩, .bool (Lib.hasPrefix s.data.toList p.data.toList)]) ∧ w' = w := Any.strings_CutPrefix Tryz.lays103 s p w
def Tryz.laysM173_ren : Go.Shelf.Ren := ⟨fun | 173 => 42 | 246 => 64 | 283 => 80 | 284 => 81 | 285 => 82 | 286 => 83 | 129 => 93 | 317 => 92 | 318 => 94 | 319 => 95 | 320 => 96 | 337 => 98 | 338 => 99 | n => n, fun | 2 => 2 | 3 => 3 | 9 => 9 | 4 => 4 | 171 => 105 | 0 => 0 | 53 => 87 | 37 => 66 | 5 => 5 | 173 => 108 | 212 => 126 | 51 => 119 | 20 => 20 | 213 => 127 | 46 => 90 | 232 => 132 | 233 => 133 | n => n, fun | 17 => 5 | 18 => 6 | 19 => 7 | n => n⟩
theorem Tryz.laysM173 : Go.Proofs.LaysM.n173 Tryz.prog Tryz.laysM173_ren := {
 mixed := by kernel_rfl
 f129 := Tryz.func93.trans (congrArg some (by kernel_rfl))
 f173 := Tryz.func42.trans (congrArg some (by kernel_rfl))
 f246 := Tryz.func64.trans (congrArg some (by kernel_rfl))
 f283 := Tryz.func80.trans (congrArg some (by kernel_rfl))
 f284 := Tryz.func81.trans (congrArg some (by kernel_rfl))
 f285 := Tryz.func82.trans (congrArg some (by kernel_rfl))
 f286 := Tryz.func83.trans (congrArg some (by kernel_rfl))
 f317 := Tryz.func92.trans (congrArg some (by kernel_rfl))
 f318 := Tryz.func94.trans (congrArg some (by kernel_rfl))
 f319 := Tryz.func95.trans (congrArg some (by kernel_rfl))
 f320 := Tryz.func96.trans (congrArg some (by kernel_rfl))
 f337 := Tryz.func98.trans (congrArg some (by kernel_rfl))
 f338 := Tryz.func99.trans (congrArg some (by kernel_rfl))
 t0 := Tryz.underlying0
 a0 := Tryz.isAgg0
 z0 := Tryz.sizeOf0
 v0 := Tryz.zeroValue0
 t2 := Tryz.underlying2
 a2 := Tryz.isAgg2
 z2 := Tryz.sizeOf2
 v2 := Tryz.zeroValue2
 t3 := Tryz.underlying3
 a3 := Tryz.isAgg3
 z3 := Tryz.sizeOf3
 v3 := Tryz.zeroValue3
 t4 := Tryz.underlying4
 a4 := Tryz.isAgg4
 z4 := Tryz.sizeOf4
 v4 := Tryz.zeroValue4
 t5 := Tryz.underlying5
 a5 := Tryz.isAgg5
 z5 := Tryz.sizeOf5
 v5 := Tryz.zeroValue5
 t9 := Tryz.underlying9
 a9 := Tryz.isAgg9
 z9 := Tryz.sizeOf9
 v9 := Tryz.zeroValue9
 t20 := Tryz.underlying20
 a20 := Tryz.isAgg20
 z20 := Tryz.sizeOf20
 v20 := Tryz.zeroValue20
 t37 := Tryz.underlying66
 a37 := Tryz.isAgg66
 z37 := Tryz.sizeOf66
 v37 := Tryz.zeroValue66
 t46 := Tryz.underlying90
 a46 := Tryz.isAgg90
 z46 := Tryz.sizeOf90
 v46 := Tryz.zeroValue90
 t51 := Tryz.underlying119
 a51 := Tryz.isAgg119
 z51 := Tryz.sizeOf119
 v51 := Tryz.zeroValue119
 t53 := Tryz.underlying87
 a53 := Tryz.isAgg87
 z53 := Tryz.sizeOf87
 v53 := Tryz.zeroValue87
 t171 := Tryz.underlying105
 a171 := Tryz.isAgg105
 z171 := Tryz.sizeOf105
 v171 := Tryz.zeroValue105
 t173 := Tryz.underlying108
 a173 := Tryz.isAgg108
 z173 := Tryz.sizeOf108
 v173 := Tryz.zeroValue108
 t212 := Tryz.underlying126
 a212 := Tryz.isAgg126
 z212 := Tryz.sizeOf126
 v212 := Tryz.zeroValue126
 t213 := Tryz.underlying127
 a213 := Tryz.isAgg127
 z213 := Tryz.sizeOf127
 t232 := Tryz.underlying132
 a232 := Tryz.isAgg132
 z232 := Tryz.sizeOf132
 v232 := Tryz.zeroValue132
 t233 := Tryz.underlying133
 a233 := Tryz.isAgg133
 z233 := Tryz.sizeOf133
 v233 := Tryz.zeroValue133
 g17 := by kernel_rfl
 g18 := by kernel_rfl
 g19 := by kernel_rfl
 i0 := by kernel_rfl
 i2 := by kernel_rfl
 i3 := by kernel_rfl
 i4 := by kernel_rfl
 i5 := by kernel_rfl
 i9 := by kernel_rfl
 i20 := by kernel_rfl
 i37 := by kernel_rfl
 i46 := by kernel_rfl
 i51 := by kernel_rfl
 i53 := by kernel_rfl
 i171 := by kernel_rfl
 i173 := by kernel_rfl
 i212 := by kernel_rfl
 i232 := by kernel_rfl
 i233 := by kernel_rfl
 m17 := by kernel_rfl
 m18 := by kernel_rfl
 m19 := by kernel_rfl }
open Go.RowKit Go.Sort Go.Lib in
/-- strconv.FormatInt: "FormatInt returns the string representation of i in the given base": AT BASE 10: i's decimal numeral, for every int64. (LAID: no walk: one application.) -/
theorem Tryz.strconv_FormatInt_10 (n : Int) (h0 : -9223372036854775808 ≤ n) (h1 : n ≤ 9223372036854775807) (w : World) (htab : Lib.TabIs Tryz.prog w "internal/strconv.uint64pow10" .u64 Lib.pow10Tab) :
  Calls Tryz.prog 42 #[.int .i64 n, .int .i64 10] w fun e w' => e = .returned (.string ⟨(Lib.itoa n).toArray⟩) ∧ ∃ k os, w' = grow (w.drewN k) os := Any.strconv_FormatInt_10 Tryz.laysM173 n h0 h1 w htab
def Tryz.lays173_ren : Go.Shelf.Ren := ⟨fun | 173 => 42 | 246 => 64 | 283 => 80 | 284 => 81 | 285 => 82 | 286 => 83 | 129 => 93 | 317 => 92 | 318 => 94 | 319 => 95 | 320 => 96 | 337 => 98 | 338 => 99 | n => n, fun | 2 => 2 | 3 => 3 | 9 => 9 | 4 => 4 | 171 => 105 | 0 => 0 | 53 => 87 | 37 => 66 | 5 => 5 | 173 => 108 | 212 => 126 | 51 => 119 | 20 => 20 | 213 => 127 | 46 => 90 | 232 => 132 | 233 => 133 | n => n, fun | 17 => 5 | 18 => 6 | 19 => 7 | n => n⟩
theorem Tryz.lays173 : Go.Proofs.Lays.n173 Tryz.prog Tryz.lays173_ren := {
 mixed := by kernel_rfl
 f129 := Tryz.func93.trans (congrArg some (by kernel_rfl))
 f173 := Tryz.func42.trans (congrArg some (by kernel_rfl))
 f246 := Tryz.func64.trans (congrArg some (by kernel_rfl))
 f283 := Tryz.func80.trans (congrArg some (by kernel_rfl))
 f284 := Tryz.func81.trans (congrArg some (by kernel_rfl))
 f285 := Tryz.func82.trans (congrArg some (by kernel_rfl))
 f286 := Tryz.func83.trans (congrArg some (by kernel_rfl))
 f317 := Tryz.func92.trans (congrArg some (by kernel_rfl))
 f318 := Tryz.func94.trans (congrArg some (by kernel_rfl))
 f319 := Tryz.func95.trans (congrArg some (by kernel_rfl))
 f320 := Tryz.func96.trans (congrArg some (by kernel_rfl))
 f337 := Tryz.func98.trans (congrArg some (by kernel_rfl))
 f338 := Tryz.func99.trans (congrArg some (by kernel_rfl))
 t0 := Tryz.underlying0
 a0 := Tryz.isAgg0
 z0 := Tryz.sizeOf0
 v0 := Tryz.zeroValue0
 t2 := Tryz.underlying2
 a2 := Tryz.isAgg2
 z2 := Tryz.sizeOf2
 v2 := Tryz.zeroValue2
 t3 := Tryz.underlying3
 a3 := Tryz.isAgg3
 z3 := Tryz.sizeOf3
 v3 := Tryz.zeroValue3
 t4 := Tryz.underlying4
 a4 := Tryz.isAgg4
 z4 := Tryz.sizeOf4
 v4 := Tryz.zeroValue4
 t5 := Tryz.underlying5
 a5 := Tryz.isAgg5
 z5 := Tryz.sizeOf5
 v5 := Tryz.zeroValue5
 t9 := Tryz.underlying9
 a9 := Tryz.isAgg9
 z9 := Tryz.sizeOf9
 v9 := Tryz.zeroValue9
 t20 := Tryz.underlying20
 a20 := Tryz.isAgg20
 z20 := Tryz.sizeOf20
 v20 := Tryz.zeroValue20
 t37 := Tryz.underlying66
 a37 := Tryz.isAgg66
 z37 := Tryz.sizeOf66
 v37 := Tryz.zeroValue66
 t46 := Tryz.underlying90
 a46 := Tryz.isAgg90
 z46 := Tryz.sizeOf90
 v46 := Tryz.zeroValue90
 t51 := Tryz.underlying119
 a51 := Tryz.isAgg119
 z51 := Tryz.sizeOf119
 v51 := Tryz.zeroValue119
 t53 := Tryz.underlying87
 a53 := Tryz.isAgg87
 z53 := Tryz.sizeOf87
 v53 := Tryz.zeroValue87
 t171 := Tryz.underlying105
 a171 := Tryz.isAgg105
 z171 := Tryz.sizeOf105
 v171 := Tryz.zeroValue105
 t173 := Tryz.underlying108
 a173 := Tryz.isAgg108
 z173 := Tryz.sizeOf108
 v173 := Tryz.zeroValue108
 t212 := Tryz.underlying126
 a212 := Tryz.isAgg126
 z212 := Tryz.sizeOf126
 v212 := Tryz.zeroValue126
 t213 := Tryz.underlying127
 a213 := Tryz.isAgg127
 z213 := Tryz.sizeOf127
 t232 := Tryz.underlying132
 a232 := Tryz.isAgg132
 z232 := Tryz.sizeOf132
 v232 := Tryz.zeroValue132
 t233 := Tryz.underlying133
 a233 := Tryz.isAgg133
 z233 := Tryz.sizeOf133
 v233 := Tryz.zeroValue133
 g17 := by kernel_rfl
 g18 := by kernel_rfl
 g19 := by kernel_rfl }
open Go.RowKit Go.Sort Go.Lib in
/-- THE ROAD WITHOUT THE TABLE: 0 <= i < 100. (LAID: no walk: one application.) -/
theorem Tryz.strconv_FormatInt_10_small (i : Nat) (hi : i < 100) (w : World) :
  Calls Tryz.prog 42 #[.int .i64 i, .int .i64 10] w fun e w' => e = .returned (.string ⟨(Lib.decDigits i).toArray⟩) ∧ w' = w := Any.strconv_FormatInt_10_small Tryz.lays173 i hi w
def Tryz.lays145_ren : Go.Shelf.Ren := ⟨fun | 145 => 28 | 220 => 43 | 219 => 58 | 217 => 71 | 225 => 72 | 224 => 73 | 267 => 74 | 266 => 89 | 314 => 90 | n => n, fun | 9 => 9 | 4 => 4 | 59 => 56 | 3 => 3 | 5 => 5 | 46 => 90 | 146 => 120 | 51 => 119 | n => n, fun | 1 => 0 | n => n⟩
theorem Tryz.lays145 : Go.Proofs.Lays.n145 Tryz.prog Tryz.lays145_ren := {
 mixed := by kernel_rfl
 f145 := Tryz.func28.trans (congrArg some (by kernel_rfl))
 f217 := Tryz.func71.trans (congrArg some (by kernel_rfl))
 f219 := Tryz.func58.trans (congrArg some (by kernel_rfl))
 f220 := Tryz.func43.trans (congrArg some (by kernel_rfl))
 f224 := Tryz.func73.trans (congrArg some (by kernel_rfl))
 f225 := Tryz.func72.trans (congrArg some (by kernel_rfl))
 f266 := Tryz.func89.trans (congrArg some (by kernel_rfl))
 f267 := Tryz.func74.trans (congrArg some (by kernel_rfl))
 f314 := Tryz.func90.trans (congrArg some (by kernel_rfl))
 t3 := Tryz.underlying3
 a3 := Tryz.isAgg3
 z3 := Tryz.sizeOf3
 v3 := Tryz.zeroValue3
 t4 := Tryz.underlying4
 a4 := Tryz.isAgg4
 z4 := Tryz.sizeOf4
 v4 := Tryz.zeroValue4
 t5 := Tryz.underlying5
 a5 := Tryz.isAgg5
 z5 := Tryz.sizeOf5
 v5 := Tryz.zeroValue5
 t9 := Tryz.underlying9
 a9 := Tryz.isAgg9
 z9 := Tryz.sizeOf9
 v9 := Tryz.zeroValue9
 t46 := Tryz.underlying90
 a46 := Tryz.isAgg90
 z46 := Tryz.sizeOf90
 v46 := Tryz.zeroValue90
 t51 := Tryz.underlying119
 a51 := Tryz.isAgg119
 z51 := Tryz.sizeOf119
 v51 := Tryz.zeroValue119
 t59 := Tryz.underlying56
 a59 := Tryz.isAgg56
 z59 := Tryz.sizeOf56
 v59 := Tryz.zeroValue56
 t146 := Tryz.underlying120
 a146 := Tryz.isAgg120
 z146 := Tryz.sizeOf120
 v146 := Tryz.zeroValue120
 g1 := by kernel_rfl }
open Go.RowKit Go.Lib in
/-- strings.Cut: "Cut slices s around the first instance of sep, returning the text before and after sep. The found result reports whether sep appears in s. If sep does not appear in s, cut returns s, "", false.": IT RETURNS 'Lib.cut s sep'; the world is as it was but for the count of draws. (LAID: no walk: one application.) -/
theorem Tryz.strings_Cut (s sep : ByteArray) (m : Int) (w : World) (hs : s.size < 4294967281) (hm : w.cell? ⟨0, 0, none⟩ = some (.int .i64 m)) :
  Calls Tryz.prog 28 #[.string s, .string sep] w fun e w' => e = .returned (.tuple #[.string ⟨(Lib.cut s.data.toList sep.data.toList).1.toArray⟩, .string ⟨(Lib.cut s.data.toList sep.data.toList).2.1.toArray⟩, .bool (Lib.cut s.data.toList sep.data.toList).2.2]) ∧ ∃ n, w' = w.drewN n := Any.strings_Cut Tryz.lays145 s sep m w hs hm
def Tryz.lays146_ren : Go.Shelf.Ren := ⟨fun | 146 => 13 | 221 => 25 | 268 => 37 | 138 => 38 | 143 => 39 | 195 => 55 | 197 => 56 | 218 => 57 | 219 => 58 | 260 => 70 | 217 => 71 | 225 => 72 | 224 => 73 | 267 => 74 | 266 => 89 | 314 => 90 | n => n, fun | 9 => 9 | 31 => 30 | 3 => 3 | 4 => 4 | 0 => 0 | 105 => 83 | 21 => 21 | 5 => 5 | 46 => 90 | 119 => 115 | 139 => 118 | 138 => 117 | 146 => 120 | 51 => 119 | n => n, fun | 1 => 0 | 3 => 3 | 4 => 4 | n => n⟩
theorem Tryz.lays146 : Go.Proofs.Lays.n146 Tryz.prog Tryz.lays146_ren := {
 mixed := by kernel_rfl
 f138 := Tryz.func38.trans (congrArg some (by kernel_rfl))
 f143 := Tryz.func39.trans (congrArg some (by kernel_rfl))
 f146 := Tryz.func13.trans (congrArg some (by kernel_rfl))
 f195 := Tryz.func55.trans (congrArg some (by kernel_rfl))
 f197 := Tryz.func56.trans (congrArg some (by kernel_rfl))
 f217 := Tryz.func71.trans (congrArg some (by kernel_rfl))
 f218 := Tryz.func57.trans (congrArg some (by kernel_rfl))
 f219 := Tryz.func58.trans (congrArg some (by kernel_rfl))
 f221 := Tryz.func25.trans (congrArg some (by kernel_rfl))
 f224 := Tryz.func73.trans (congrArg some (by kernel_rfl))
 f225 := Tryz.func72.trans (congrArg some (by kernel_rfl))
 f260 := Tryz.func70.trans (congrArg some (by kernel_rfl))
 f266 := Tryz.func89.trans (congrArg some (by kernel_rfl))
 f267 := Tryz.func74.trans (congrArg some (by kernel_rfl))
 f268 := Tryz.func37.trans (congrArg some (by kernel_rfl))
 f314 := Tryz.func90.trans (congrArg some (by kernel_rfl))
 t0 := Tryz.underlying0
 a0 := Tryz.isAgg0
 z0 := Tryz.sizeOf0
 v0 := Tryz.zeroValue0
 t3 := Tryz.underlying3
 a3 := Tryz.isAgg3
 z3 := Tryz.sizeOf3
 v3 := Tryz.zeroValue3
 t4 := Tryz.underlying4
 a4 := Tryz.isAgg4
 z4 := Tryz.sizeOf4
 v4 := Tryz.zeroValue4
 t5 := Tryz.underlying5
 a5 := Tryz.isAgg5
 z5 := Tryz.sizeOf5
 v5 := Tryz.zeroValue5
 t9 := Tryz.underlying9
 a9 := Tryz.isAgg9
 z9 := Tryz.sizeOf9
 v9 := Tryz.zeroValue9
 t21 := Tryz.underlying21
 a21 := Tryz.isAgg21
 z21 := Tryz.sizeOf21
 v21 := Tryz.zeroValue21
 t31 := Tryz.underlying30
 a31 := Tryz.isAgg30
 z31 := Tryz.sizeOf30
 v31 := Tryz.zeroValue30
 t46 := Tryz.underlying90
 a46 := Tryz.isAgg90
 z46 := Tryz.sizeOf90
 v46 := Tryz.zeroValue90
 t51 := Tryz.underlying119
 a51 := Tryz.isAgg119
 z51 := Tryz.sizeOf119
 v51 := Tryz.zeroValue119
 t105 := Tryz.underlying83
 a105 := Tryz.isAgg83
 z105 := Tryz.sizeOf83
 v105 := Tryz.zeroValue83
 t119 := Tryz.underlying115
 a119 := Tryz.isAgg115
 z119 := Tryz.sizeOf115
 t138 := Tryz.underlying117
 a138 := Tryz.isAgg117
 z138 := Tryz.sizeOf117
 v138 := Tryz.zeroValue117
 t139 := Tryz.underlying118
 a139 := Tryz.isAgg118
 z139 := Tryz.sizeOf118
 v139 := Tryz.zeroValue118
 t146 := Tryz.underlying120
 a146 := Tryz.isAgg120
 z146 := Tryz.sizeOf120
 v146 := Tryz.zeroValue120
 g1 := by kernel_rfl
 g3 := by kernel_rfl
 g4 := by kernel_rfl }
open Go.RowKit Go.Lib in
/-- strings.Split. (LAID: no walk: one application.) -/
theorem Tryz.strings_Split (s sep : ByteArray) (m : Int) (w : World) (hs : s.size < 4294967281) (hm : w.cell? ⟨0, 0, none⟩ = some (.int .i64 m)) (h1 : 1 ≤ sep.size) :
  Calls Tryz.prog 13 #[.string s, .string sep] w fun e w' =>
   e = .returned (.slice (some ⟨w.heap.size, 0, none⟩) (Lib.countB s sep + 1) (Lib.countB s sep + 1)) ∧ w' = w.alloc (.cells ((Lib.splitB sep 0 (Lib.countB s sep) s).map Value.string).toArray 9) := Any.strings_Split Tryz.lays146 (by kernel_rfl) s sep m w hs hm h1
end Go.Proofs
namespace Go.Proofs.YtmnjlhcbabhhlaaGreatDoor
open Go.RowKit Go.Sort
theorem ex_sl {α : Type} {E : Ty α} {base : Nat} {w : World} {u : Value} {x : List α} (h : (Ty.slice E).Fr base w [u] x) : ∃ ad n cap, u = .slice ad n cap := let ⟨a, c, h⟩ := fr_slice h; ⟨a, _, c, h⟩
theorem news1s {w : World} {u : Value} {T : TypeId} {B : Nat} (hB : B = w.heap.size) : ∀ j x, [u][j]? = some x → (w.alloc (.cells #[u] T)).cell? ((⟨B, 0, none⟩ : Addr).add j) = some x := by subst hB; exact news1
/-- bytes joined, behind a name -/
def cat (a b : List UInt8) : List UInt8 := a ++ b
theorem cat_len {a b : List UInt8} : (cat a b).length = a.length + b.length := List.length_append
theorem add_cat {P : Program} (w : World) (a b : List UInt8) (h : a.length + b.length ≤ 1000000000) : (Op.stringOp .add ⟨a.toArray⟩ ⟨b.toArray⟩).run P w = .ok (.string ⟨(cat a b).toArray⟩) w := by
 have h1 : (ByteArray.mk a.toArray).size = a.length := by show a.toArray.size = _; simp
 have h2 : (ByteArray.mk b.toArray).size = b.length := by show b.toArray.size = _; simp
 rw [run_string_add_sum w _ _ (by rw [h1, h2]; omega), ByteArray.mk_append_mk]
 simp [cat]
/-- a number's digits -/
def decB (n : Int) : List UInt8 := Lib.decDigits n.toNat
theorem dec_one {n : Int} (h0 : 0 ≤ n) (h1 : n < 10) : decB n = [UInt8.ofNat (48 + n.toNat)] := Lib.decDigits_one (by omega)
theorem dec_two {n : Int} (h0 : 10 ≤ n) (h1 : n < 100) : decB n = cat (decB (n / 10)) [UInt8.ofNat (48 + (n % 10).toNat)] := by
 unfold decB cat
 rw [Lib.decDigits, dif_neg (by omega), show (n / 10).toNat = n.toNat / 10 by omega, show (n % 10).toNat = n.toNat % 10 by omega]
theorem dec_len {n : Int} (h1 : n < 100) : 1 ≤ (decB n).length ∧ (decB n).length ≤ 2 := by
 by_cases h : n < 10
 ·unfold decB; rw [Lib.decDigits_one (by omega)]; simp
 ·rw [dec_two (by omega) h1, cat_len, dec_one (by omega) (by omega)]; simp
/-- a text, and behind it each one's part -/
def catL {α : Type} (f : α → List UInt8) (hd : List UInt8) (xs : List α) : List UInt8 := hd ++ (xs.map f).flatten
section
variable {α : Type} {f : α → List UInt8} {hd : List UInt8} {xs : List α}
theorem catL_zero : catL f hd (xs.take 0) = hd := by simp [catL]
theorem catL_succ {k : Nat} (h : k < xs.length) : catL f hd (xs.take (k + 1)) = cat (catL f hd (xs.take k)) (f xs[k]) := by
 unfold catL cat
 rw [List.take_succ_eq_append_getElem h, List.map_append, List.flatten_append]
 simp only [List.map_cons, List.map_nil, List.flatten_cons, List.flatten_nil, List.append_nil, List.append_assoc]
theorem flatB_len {B : Nat} : ∀ {ys : List α}, (∀ x ∈ ys, (f x).length ≤ B) → ((ys.map f).flatten).length ≤ ys.length * B
 | [], _ => by simp
 | y :: ys, hB => by
  have h1 := hB y (List.mem_cons_self ..)
  have h2 := flatB_len fun z hz => hB z (List.mem_cons_of_mem _ hz)
  simp only [List.map_cons, List.flatten_cons, List.length_append, List.length_cons, Nat.succ_mul]
  omega
theorem catL_len {B : Nat} (hB : ∀ x ∈ xs, (f x).length ≤ B) : (catL f hd xs).length ≤ hd.length + xs.length * B := by
 unfold catL
 rw [List.length_append]
 have := flatB_len hB
 omega
end
def Ty.str : Ty (List UInt8) where
 sz := 1
 rd := fun _ cs l fp => cs = [.string ⟨l.toArray⟩] ∧ fp = []
 len := by rintro _ _ _ _ ⟨rfl, _⟩; rfl
 same := fun h _ => h
 lt := by rintro _ _ _ _ ⟨rfl, rfl⟩ k hk; cases hk
 one := by rintro _ _ _ _ ⟨rfl, _⟩ u hu; simp at hu; subst hu; rfl
theorem fr_str {base : Nat} {w : World} {l : List UInt8} : Ty.str.Fr base w [.string ⟨l.toArray⟩] l := ⟨[], ⟨rfl, rfl⟩, List.nodup_nil, by simp, fun b hb => by cases hb⟩
theorem strs_ex {w : World} {cs : List Value} {xs : List (List UInt8)} (h : (Ty.slice Ty.str).Rd w cs xs) :
  ∃ ad cap, cs = [.slice ad xs.length cap] ∧ xs.length ≤ cap ∧ xs.length ≤ 140737488351232 ∧
   (0 < xs.length → ∃ b o, ad = some ⟨b, o, none⟩ ∧ b < w.heap.size ∧ ∀ i (h : i < xs.length), w.cell? ⟨b, o + i, none⟩ = some (.string ⟨(xs[i]).toArray⟩)) := by
 obtain ⟨ad, cap, h1, h2, h3, h4⟩ := Ty.slice_ex h
 refine ⟨ad, cap, h1, h2, h3, fun hp => ?_⟩
 obtain ⟨b, o, h5, h6, h7⟩ := h4 hp
 refine ⟨b, o, h5, h6, fun i hi => ?_⟩
 obtain ⟨cs, ⟨fp, rfl, h9⟩, h10⟩ := h7 i hi
 simpa [Ty.str] using h10 0 (by simp)
theorem elStr : ElT Tryz.prog 30 9 1 16 := .mk (z := .string ⟨#[]⟩) Tryz.underlying30 (by kernel_rfl) rfl (by decide)
theorem Join_any (w : World) {v : Value} {xs : List (List UInt8)} (h : (Ty.slice Ty.str).Rd w [v] xs) (sep : List UInt8) (hl : (Lib.join xs sep).length ≤ 1000000000) :
  Calls Tryz.prog 33 #[v, .string ⟨sep.toArray⟩] w fun e w' => e = .returned (.string ⟨(Lib.join xs sep).toArray⟩) ∧ Below w.heap.size w w' := by
 obtain ⟨ad, cap, hv, h1, h2, h3⟩ := strs_ex h
 obtain rfl : v = _ := by simpa using hv
 rcases Nat.eq_zero_or_pos xs.length with h0 | h0
 ·obtain rfl := List.length_eq_zero_iff.1 h0
  refine (Tryz.strings_Join_none ad cap ⟨sep.toArray⟩ w).mono ?_
  rintro e w' ⟨rfl, rfl⟩
  exact ⟨rfl, Below.refl _ _⟩
 ·obtain ⟨b, o, rfl, hb, hc⟩ := h3 h0
  have e1 : (xs.map fun l => (⟨l.toArray⟩ : ByteArray)).map (·.data.toList) = xs := by rw [List.map_map]; exact (List.map_congr_left fun l _ => by simp).trans (List.map_id xs)
  have key := Tryz.strings_Join b o cap (xs.map fun l => ⟨l.toArray⟩) ⟨sep.toArray⟩ w (fun j x hj => by
   rw [List.getElem?_map] at hj
   obtain ⟨y, hy, rfl⟩ := Option.map_eq_some_iff.1 hj
   obtain ⟨hj', rfl⟩ := List.getElem?_eq_some_iff.1 hy
   exact hc j hj') hb (by rw [List.length_map]; omega) (by rw [List.length_map]; exact h1) (by rw [e1]; show (Lib.join xs sep.toArray.toList).length ≤ _; simp; omega)
  rw [List.length_map, e1] at key
  refine key.mono ?_
  rintro e w' ⟨rfl, hb'⟩
  exact ⟨rfl, hb'⟩
theorem dec_any (w : World) {n : Int} (h0 : 0 ≤ n) (h1 : n < 100) : Calls Tryz.prog 27 #[.int .i64 n] w fun e w' => e = .returned (.string ⟨(decB n).toArray⟩) ∧ w = w' := by
 obtain ⟨k, rfl⟩ : ∃ k : Nat, n = k := ⟨n.toNat, by omega⟩
 have HK : Hid (Lib.decDigits k = decB k) := rfl
 go_enter Tryz.func27, Tryz.ntmps27
 go_wp2_with (go_at_call 42; refine (Tryz.strconv_FormatInt_10_small k (by omega) _).mono ?_; rintro e w' ⟨rfl, rfl⟩)
 go_ret
 exact ⟨by rw [HK.out]; rfl, rfl⟩
theorem digits_any (w : World) {v : Value} {xs : List Int} (h : intsT.Rd w [v] xs) (hx : ∀ a ∈ xs, 0 ≤ a ∧ a < 100) (hl : xs.length ≤ 1000) :
  Calls Tryz.prog 32 #[v] w fun e w' => e = .returned (.string ⟨(catL decB [] xs).toArray⟩) ∧ w = w' := by
 obtain ⟨ad, cap, hv, -, -, hc⟩ := ints_ex h
 obtain rfl : v = _ := by simpa using hv
 clear h hv
 go_enter Tryz.func32, Tryz.ntmps32
 go_wp2_with fail
 go_loopw [3, 8] (fun c i wr => ∃ k : Nat, k ≤ xs.length ∧ i = .int .i64 k ∧ c = .string ⟨(catL decB [] (xs.take k)).toArray⟩ ∧ wr = w) (fun _ i _ => xs.length - (intOf i).toNat)
 case atStart => exact ⟨0, Nat.zero_le _, rfl, by simp [catL], rfl⟩
 case round =>
  obtain ⟨k, hk, rfl, rfl, rfl⟩ := hrel
  by_cases hkl : k < xs.length
  ·obtain ⟨b, o, rfl, hb, hce⟩ := hc (by omega)
   obtain ⟨hI, hck⟩ := hce k hkl
   have hin := hx _ (List.getElem_mem hkl)
   have HS := Lib.hid (catL_succ (f := decB) (hd := []) hkl)
   have hlen := catL_len (f := decB) (hd := []) (xs := xs.take k) (B := 2) fun y hy => (dec_len (hx y (List.mem_of_mem_take hy)).2).2
   have hl1 := dec_len hin.2
   rw [List.length_take] at hlen
   generalize hz : xs[k] = z at *
   have hlen' : (catL decB [] (xs.take k)).length ≤ 10000 := by simp at hlen; omega
   generalize catL decB [] (xs.take k) = C at *
   have hadd : ∀ W : World, (Op.stringOp .add ⟨C.toArray⟩ ⟨(decB z).toArray⟩).run Tryz.prog W = .ok (.string ⟨(cat C (decB z)).toArray⟩) W := fun W => add_cat W _ _ (by omega)
   clear hz hlen hlen' hl1 hce
   go_wp2_with (go_at_call 27; refine (dec_any _ hin.1 hin.2).mono ?_; rintro e w' ⟨rfl, rfl⟩)
   go_roundw
   case rel => exact ⟨k + 1, by omega, by go_num, by rw [HS.out], trivial⟩
   case measure => simp [intOf]; omega
  ·obtain rfl : k = xs.length := by omega
   have HF : Hid (xs.take xs.length = xs) := List.take_length
   go_wp2_with fail
   go_ret
   exact ⟨by rw [HF.out]; rfl, rfl⟩
theorem cvt_at (W : World) (b : Nat) {n : Int} (h0 : 0 ≤ n) (h1 : n < 10) (hc : W.cell? ⟨b, 0, none⟩ = some (.int .u8 (48 + n))) : (convert 66 9 (.slice (some ⟨b, 0, none⟩) 1 1)).run Tryz.prog W = .ok (.string ⟨(decB n).toArray⟩) W := by
 have e := dec_one h0 h1
 have hl : (decB n).length = 1 := by rw [e]; rfl
 have := run_convert_bytes_back (P := Tryz.prog) W 66 9 5 ⟨b, 0, none⟩ 1 (decB n) Tryz.underlying66 Tryz.underlying5 Tryz.underlying9 (fun j hj => by
  rw [hl] at hj
  obtain rfl : j = 0 := by omega
  have e2 : (((decB n)[0]).toNat : Int) = 48 + n := by
   simp only [e, List.getElem_cons_zero]
   rw [UInt8.toNat_ofNat_of_lt' (by show 48 + n.toNat < 256; omega)]
   omega
  rw [e2]
  exact hc)
 rw [hl] at this
 exact this
theorem cvt_dec (w : World) {n : Int} (h0 : 0 ≤ n) (h1 : n < 10) : (convert 66 9 (.slice (some ⟨w.heap.size, 0, none⟩) 1 1)).run Tryz.prog (w.alloc (.cells #[.int .u8 (48 + n)] 5)) = .ok (.string ⟨(decB n).toArray⟩) (w.alloc (.cells #[.int .u8 (48 + n)] 5)) :=
 cvt_at _ _ h0 h1 (by simp [go_sem])
set_option maxHeartbeats 1600000 in
set_option maxRecDepth 100000 in
theorem Decimal1_any (w : World) {n : Int} (h0 : 0 ≤ n) (h1 : n < 10) : Calls Tryz.prog 24 #[.int .i64 n] w fun e w' => e = .returned (.string ⟨(decB n).toArray⟩) ∧ Below w.heap.size w w' := by
 have HC := cvt_dec w h0 h1
 go_enter Tryz.func24, Tryz.ntmps24
 go_wp2_with fail
 go_ret
 exact ⟨rfl, bA⟩
set_option maxHeartbeats 1600000 in
set_option maxRecDepth 100000 in
theorem Decimal_any (w : World) {n : Int} (h0 : 0 ≤ n) (h1 : n ≤ 10) : Calls Tryz.prog 24 #[.int .i64 n] w fun e w' => e = .returned (.string ⟨(decB n).toArray⟩) ∧ Below w.heap.size w w' := by
 rcases ilt n 10 with h | h
 ·exact Decimal1_any w h0 h
 obtain rfl : n = 10 := by omega
 have HD : Hid (cat (decB 1) (decB 0) = decB 10) := ((dec_two (n := 10) (by omega) (by omega)).trans (by rw [show (10 : Int) / 10 = 1 by decide, show (10 : Int) % 10 = 0 by decide, dec_one (n := 0) (by omega) (by omega)])).symm
 have hcv : ∀ (W : World) (b : Nat), W.cell? ⟨b, 0, none⟩ = some (.int .u8 48) → (convert 66 9 (.slice (some ⟨b, 0, none⟩) 1 1)).run Tryz.prog W = .ok (.string ⟨(decB 0).toArray⟩) W := fun W b hc => cvt_at W b (n := 0) (by omega) (by omega) hc
 have hadd : ∀ W : World, (Op.stringOp .add ⟨(decB 1).toArray⟩ ⟨(decB 0).toArray⟩).run Tryz.prog W = .ok (.string ⟨(cat (decB 1) (decB 0)).toArray⟩) W := fun W => add_cat W _ _ (by have := @dec_len 1 (by omega); have := @dec_len 0 (by omega); omega)
 clear h h0 h1
 go_enter Tryz.func24, Tryz.ntmps24
 go_wp2_with fail
 have hw1 : IntKind.i64.wrap 1 = 1 := by decide
 have hw2 : IntKind.i64.wrap 48 = 48 := by decide
 have hw3 : IntKind.u8.wrap 48 = 48 := by decide
 have hc0 : ∀ W : World, (convert 66 9 (.slice (some ⟨W.heap.size, 0, none⟩) 1 1)).run Tryz.prog (W.alloc (.cells #[.int .u8 48] 5)) = .ok (.string ⟨(decB 0).toArray⟩) (W.alloc (.cells #[.int .u8 48] 5)) := fun W => hcv _ _ (by simp [go_sem])
 have hE : ∀ W : World, RowKit.Below (w.drew.alloc (.cells #[.int .u8 48] 5)).heap.size (w.drew.alloc (.cells #[.int .u8 48] 5)) W → (convert 66 9 (.slice (some ⟨w.heap.size, 0, none⟩) 1 1)).run Tryz.prog W = .ok (.string ⟨(decB 0).toArray⟩) W := fun W h => hcv W _ ((cellB h (by simp)).trans (by simp [go_sem]))
 have hE' : ∀ W : World, RowKit.Below (w.alloc (.cells #[.int .u8 48] 5)).drew.heap.size (w.alloc (.cells #[.int .u8 48] 5)).drew W → (convert 66 9 (.slice (some ⟨w.heap.size, 0, none⟩) 1 1)).run Tryz.prog W = .ok (.string ⟨(decB 0).toArray⟩) W := fun W h => hcv W _ ((cellB h (by simp)).trans (by simp [go_sem]))
 have HE := Lib.hid hE
 have HE' := Lib.hid hE'
 have hcd := hcv (w.alloc (.cells #[.int .u8 48] 5)).drew w.heap.size (by simp [go_sem])
 have hcd' := hcv (w.drew.alloc (.cells #[.int .u8 48] 5)) w.heap.size (by simp [go_sem])
 clear hE hE' hcv
 go_region_with (go_at_call 24; refine (Decimal1_any _ (n := 1) (by omega) (by omega)).mono ?_; rintro e w1 ⟨rfl, hb1⟩; first | (have hc1 := HE.out _ hb1) | (have hc1 := HE'.out _ hb1) | skip)
 all_goals
  go_wp2_with fail
  go_ret
  exact ⟨by rw [HD.out]; rfl, by first | exact bthen bD (bthen hb1 bA) | exact bthen (bthen bD bA) hb1 | exact bthen (bthen bA bD) hb1⟩
end Go.Proofs.YtmnjlhcbabhhlaaGreatDoor
namespace Go.Proofs.YtmnjlhcbabhhlaaGreatDoor
open Go.RowKit Go.Sort
end Go.Proofs.YtmnjlhcbabhhlaaGreatDoor
namespace Go.Proofs.YtmnjlhcbabhhlaaGreatDoor
open Go.RowKit Go.Sort
/-- what stands in a text may be written: its relation, its places -/
def shC (v lo : Int) (c : Int × List Int) : Prop := (lo ≤ c.1 ∧ c.1 ≤ 5) ∧ (1 ≤ (c.2.length : Int) ∧ (c.2.length : Int) ≤ 4) ∧ rowOk v c.2.length c.2
def shF (f : Int × Int × List (Int × List Int)) : Prop := frameOk f ∧ ∀ a ∈ f.2.2, shC f.2.1 (-1) a
def atP (a : Int × List Int) : List UInt8 := match a.1 == -1 with
 | true => [32, 61, 58]
 | false => cat (cat [32, 82] (decB a.1)) [58]
def atT (a : Int × List Int) : List UInt8 := catL decB (atP a) a.2
def fmH (f : Int × Int × List (Int × List Int)) : List UInt8 := cat (cat (cat [102, 111, 114, 109, 117, 108, 97, 32] (decB f.1)) [32]) (decB f.2.1)
def txF (f : Int × Int × List (Int × List Int)) : List UInt8 := catL atT (fmH f) f.2.2
noncomputable def ftV (f : Int × Int × List (Int × List Int)) : List UInt8 := match tb (shF f) with
 | true => txF f
 | false => []
theorem ft_no {x : Int × Int × List (Int × List Int)} (h : ¬ shF x) : ftV x = [] := by unfold ftV; rw [tb_false h]
theorem ft_yes {x : Int × Int × List (Int × List Int)} (h : shF x) : ftV x = txF x := by unfold ftV; rw [tb_true h]
theorem shC_dec {v lo : Int} {c : Int × List Int} (h : shC v lo c) (hv : v ≤ 10) : ∀ a ∈ c.2, 0 ≤ a ∧ a < 10 := fun a ha => by
 have := h.2.2.2 a ha
 omega
/-- an atom's word as the program puts it together -/
def wdP (a : Int × List Int) : List UInt8 := match a.1 != -1 with
 | true => cat [82] (decB a.1)
 | false => [61]
def wdT (a : Int × List Int) : List UInt8 := cat (cat (wdP a) [58]) (catL decB [] a.2)
theorem wd_at (a : Int × List Int) : cat [32] (wdT a) = atT a := by
 unfold wdT atT wdP atP
 cases h : (a.1 == -1)
 ·simp [bne, h, cat, catL]
 ·simp [bne, h, cat, catL]
theorem frm_join (f : Int × Int × List (Int × List Int)) : Lib.join ([102, 111, 114, 109, 117, 108, 97] :: decB f.1 :: decB f.2.1 :: f.2.2.map wdT) [32] = txF f := by
 rw [Lib.join_cons]
 unfold Lib.joinTail txF fmH
 have : (f.2.2.map wdT).map (fun x => ([32] : List UInt8) ++ x) = f.2.2.map atT := by
  rw [List.map_map]
  exact List.map_congr_left fun a _ => wd_at a
 simp only [List.map_cons, List.flatten_cons]
 rw [this]
 simp [cat, catL]
theorem atP_len {a : Int × List Int} (h : a.1 ≤ 5) : (atP a).length ≤ 10 := by
 unfold atP
 split
 ·simp
 ·rw [cat_len, cat_len]
  have h2 := (@dec_len a.1 (by omega)).2
  simp only [List.length_cons, List.length_nil]
  omega
theorem atT_len {v lo : Int} {c : Int × List Int} (h : shC v lo c) (hv : v ≤ 10) : (atT c).length ≤ 20 := by
 unfold atT
 have h1 := catL_len (f := decB) (hd := atP c) (xs := c.2) (B := 2) fun a ha => by
  have := shC_dec h hv a ha
  exact (@dec_len a (by omega)).2
 have h2 := atP_len (a := c) h.1.2
 have h3 := h.2.1
 omega
theorem fmH_len {f : Int × Int × List (Int × List Int)} (h : frameOk f) : (fmH f).length ≤ 20 := by
 unfold fmH
 rw [cat_len, cat_len, cat_len]
 have h1 := (@dec_len f.1 (by have := h.1; omega)).2
 have h2 := (@dec_len f.2.1 (by have := h.2.1; omega)).2
 simp only [List.length_cons, List.length_nil]
 omega
theorem shF_v {f : Int × Int × List (Int × List Int)} (h : frameOk f) : 0 ≤ f.1 ∧ f.1 ≤ 4 ∧ 0 ≤ f.2.1 ∧ f.2.1 ≤ 8 ∧ f.2.2.length ≤ 16 := by
 obtain ⟨h1, h2, h3⟩ := h
 omega
theorem txF_len {f : Int × Int × List (Int × List Int)} (h : shF f) (k : Nat) : (catL atT (fmH f) (f.2.2.take k)).length ≤ 1000 := by
 have h0 := shF_v h.1
 have h1 := catL_len (f := atT) (hd := fmH f) (xs := f.2.2.take k) (B := 20) fun c hc => atT_len (h.2 c (List.mem_of_mem_take hc)) (by omega)
 have h2 := fmH_len h.1
 rw [List.length_take] at h1
 have : min k f.2.2.length ≤ 16 := by omega
 omega
set_option maxHeartbeats 1600000 in
set_option maxRecDepth 100000 in
theorem isWritten1_any (w : World) {cs : Array Value} {c : Int × List Int} (h : opT.Rd w cs.toList c) {vx : Value} {x : Int × Int × List (Int × List Int)} (hxp : frmT.Pt w vx x) (h0 : 0 ≤ x.2.1) (h1 : x.2.1 ≤ 1000000000000) :
  Calls Tryz.prog 47 #[.agg cs, vx] w fun e w' => e = .returned (.bool (!tb (shC x.2.1 (-1) c))) ∧ Below w.heap.size w w' := by
 have hc := h
 obtain ⟨u, hv, hI, hu⟩ := pair_ex h
 obtain rfl := agg_of hv
 obtain ⟨ad, cap, rfl⟩ := rd_slice hu
 obtain ⟨b, o, ad', cap', rfl, hb, -, -, c0, c1, c2, -⟩ := pt_trip hxp
 have e0 : ∀ q, (w.alloc q).cell? ⟨b, o + 1, none⟩ = some (.int .i64 x.2.1) := fun q => (cellB bA hb).trans c1
 have HC := Lib.hid hc
 clear h hv hxp hu c0 c1 c2 hc
 cases h2 : inB c.1 (-1) 5
 ·have HR : Hid (true = !tb (shC x.2.1 (-1) c)) := by
   unfold Hid
   rw [tb_false fun hh => by have := inB_true.2 hh.1; rw [h2] at this; cases this]; rfl
  go_enter Tryz.func47, Tryz.ntmps47
  go_wp2_with (go_at_call 48; refine (within_any _ _ _ _).mono ?_; rintro e w' ⟨rfl, rfl⟩; rw [h2])
  go_ret
  exact ⟨ret_bool HR.out, bA⟩
 cases h3 : inB (c.2.length : Int) 1 4
 ·have HR : Hid (true = !tb (shC x.2.1 (-1) c)) := by
   unfold Hid
   rw [tb_false fun hh => by have := inB_true.2 hh.2.1; rw [h3] at this; cases this]; rfl
  go_enter Tryz.func47, Tryz.ntmps47
  go_wp2_with (first | (go_at_call 48; refine (within_any _ _ _ _).mono ?_; rintro e w' ⟨rfl, rfl⟩; rw [h2]) | (go_at_call 49; refine (isArity_any _ _).mono ?_; rintro e w' ⟨rfl, rfl⟩; rw [h3]))
  go_ret
  exact ⟨ret_bool HR.out, bA⟩
 have HR : Hid ((!tb (rowOk x.2.1 c.2.length c.2)) = !tb (shC x.2.1 (-1) c)) := by
  unfold Hid
  congr 1
  exact tb_congr ⟨fun hh => ⟨inB_true.1 h2, inB_true.1 h3, hh⟩, fun hh => hh.2.2⟩
 go_enter Tryz.func47, Tryz.ntmps47
 go_wp2_with (first | (go_at_call 48; refine (within_any _ _ _ _).mono ?_; rintro e w' ⟨rfl, rfl⟩; rw [h2]) | (go_at_call 49; refine (isArity_any _ _).mono ?_; rintro e w' ⟨rfl, rfl⟩; rw [h3]) | (go_at_call 50; refine (isAtom_any _ (cs := #[.int .i64 c.1, .slice ad c.2.length cap]) (HC.out.below bA) _ _ h0 h1).mono ?_; rintro e w1 ⟨rfl, hb1⟩))
 go_ret
 exact ⟨ret_bool HR.out, bthen bA hb1⟩
end Go.Proofs.YtmnjlhcbabhhlaaGreatDoor
namespace Go.Proofs.YtmnjlhcbabhhlaaGreatDoor
open Go.RowKit Go.Sort
theorem idx_free {b : UInt8} : ∀ {w r : List UInt8}, b ∉ w → Lib.index (w ++ b :: r) [b] = (w.length : Int)
 | [], r, _ => by simp [Lib.index]
 | x :: w, r, h => by
  have hx : ¬ b = x := fun e => h (by simp [e])
  have ih := idx_free (r := r) (fun hm => h (List.mem_cons_of_mem _ hm) : b ∉ w)
  have hp : ([b] : List UInt8).isPrefixOf (x :: (w ++ b :: r)) = false := by simp [List.isPrefixOf, hx]
  have hne : ((w.length : Int) == -1) = false := by rw [beq_eq_false_iff_ne]; omega
  show Lib.index (x :: (w ++ b :: r)) [b] = _
  unfold Lib.index
  rw [hp, ih, hne]
  simp
theorem cnt_free {b : UInt8} {w : List UInt8} (h : b ∉ w) : Lib.count w [b] = 0 := by rw [Lib.count_one]; exact List.count_eq_zero.2 h
theorem join_two {w v : List UInt8} {r : List (List UInt8)} {b : UInt8} : Lib.join (w :: v :: r) [b] = w ++ b :: Lib.join (v :: r) [b] := by
 rw [Lib.join_cons, Lib.join_cons]
 unfold Lib.joinTail
 simp
/-- words joined are cut again -/
theorem split_join {b : UInt8} : ∀ {w : List UInt8} {r : List (List UInt8)}, (∀ x ∈ w :: r, b ∉ x) → Lib.split (Lib.join (w :: r) [b]) [b] = w :: r
 | w, [], h => by
  have h0 := h w (List.mem_cons_self ..)
  have e : Lib.join [w] [b] = w := by rw [Lib.join_cons]; simp [Lib.joinTail]
  unfold Lib.split
  rw [e, cnt_free h0]
  rfl
 | w, v :: r, h => by
  have h0 := h w (List.mem_cons_self ..)
  have ih := split_join (w := v) (r := r) fun x hx => h x (List.mem_cons_of_mem _ hx)
  unfold Lib.split at ih ⊢
  rw [join_two]
  have hc : Lib.count (w ++ b :: Lib.join (v :: r) [b]) [b] = Lib.count (Lib.join (v :: r) [b]) [b] + 1 := by
   rw [Lib.count_one, Lib.count_one, List.count_append, List.count_eq_zero.2 h0, List.count_cons_self]
   omega
  have hne : ((w.length : Int) == -1) = false := by rw [beq_eq_false_iff_ne]; omega
  rw [hc]
  show (if Lib.index _ [b] == -1 then _ else _) = _
  rw [idx_free h0, hne]
  simp only [Bool.false_eq_true, if_false, Int.toNat_natCast, Nat.add_zero]
  rw [List.take_left' rfl]
  congr 1
  have : (w ++ b :: Lib.join (v :: r) [b]).drop (w.length + ([b] : List UInt8).length) = Lib.join (v :: r) [b] := by
   rw [← List.drop_drop, List.drop_left' rfl]
   simp
  rw [this]
  exact ih
theorem cut_free {b : UInt8} {w r : List UInt8} (h : b ∉ w) : Lib.cut (w ++ b :: r) [b] = (w, r, true) := by
 unfold Lib.cut
 rw [idx_free h, if_pos (by omega), Int.toNat_natCast]
 have : (w ++ b :: r).drop (w.length + ([b] : List UInt8).length) = r := by
  rw [← List.drop_drop, List.drop_left' rfl]
  simp
 rw [this, List.take_left' rfl]
/-- the same cut, a byte at a time: the pieces that are done, the piece under way -/
def cutStep (b : UInt8) (st : List (List UInt8) × List UInt8) (x : UInt8) : List (List UInt8) × List UInt8 := match x == b with
 | true => (st.1 ++ [st.2], [])
 | false => (st.1, st.2 ++ [x])
def cutTo (b : UInt8) (s : List UInt8) : List (List UInt8) × List UInt8 := s.foldl (cutStep b) ([], [])
def cutS (b : UInt8) (s : List UInt8) : List (List UInt8) := (cutTo b s).1 ++ [(cutTo b s).2]
theorem cut_word {b : UInt8} : ∀ {w : List UInt8} {D : List (List UInt8)} {c : List UInt8}, b ∉ w → w.foldl (cutStep b) (D, c) = (D, c ++ w)
 | [], D, c, _ => by simp
 | x :: w, D, c, h => by
  have hx : (x == b) = false := by rw [beq_eq_false_iff_ne]; exact fun e => h (by simp [e])
  rw [List.foldl_cons]
  have : cutStep b (D, c) x = (D, c ++ [x]) := by simp [cutStep, hx]
  rw [this, cut_word (fun hm => h (List.mem_cons_of_mem _ hm))]
  simp
theorem cutS_go {b : UInt8} : ∀ {w : List UInt8} {r : List (List UInt8)} {D : List (List UInt8)}, (∀ x ∈ w :: r, b ∉ x) → (let q := (Lib.join (w :: r) [b]).foldl (cutStep b) (D, []); q.1 ++ [q.2]) = D ++ w :: r
 | w, [], D, h => by
  have e : Lib.join [w] [b] = w := by rw [Lib.join_cons]; simp [Lib.joinTail]
  rw [e, cut_word (h w (List.mem_cons_self ..))]
  simp
 | w, v :: r, D, h => by
  rw [join_two, List.foldl_append, cut_word (h w (List.mem_cons_self ..)), List.foldl_cons]
  have : cutStep b (D, [] ++ w) b = (D ++ [w], []) := by simp [cutStep]
  rw [this]
  have := cutS_go (b := b) (w := v) (r := r) (D := D ++ [w]) fun x hx => h x (List.mem_cons_of_mem _ hx)
  rw [this]
  simp
theorem cutS_join {b : UInt8} {w : List UInt8} {r : List (List UInt8)} (h : ∀ x ∈ w :: r, b ∉ x) : cutS b (Lib.join (w :: r) [b]) = w :: r := by
 have := cutS_go (D := []) h
 simpa [cutS, cutTo] using this
/-- digits -/
theorem dec_cases {n : Int} (h0 : 0 ≤ n) (h1 : n < 100) : (n < 10 ∧ decB n = [UInt8.ofNat (48 + n.toNat)]) ∨ (10 ≤ n ∧ decB n = [UInt8.ofNat (48 + (n / 10).toNat), UInt8.ofNat (48 + (n % 10).toNat)]) := by
 by_cases h : n < 10
 ·exact .inl ⟨h, dec_one h0 h⟩
 ·refine .inr ⟨by omega, ?_⟩
  rw [dec_two (by omega) h1, dec_one (by omega) (by omega)]
  rfl
theorem dig_nat {k : Nat} (h : k < 10) : (UInt8.ofNat (48 + k)).toNat = 48 + k := by
 rw [UInt8.toNat_ofNat']
 omega
theorem dec_digit {n : Int} (h0 : 0 ≤ n) (h1 : n < 100) : ∀ x ∈ decB n, 48 ≤ x.toNat ∧ x.toNat ≤ 57 := by
 rcases dec_cases h0 h1 with ⟨h, e⟩ | ⟨h, e⟩ <;> rw [e] <;> intro x hx
 ·rw [List.mem_singleton.1 hx, dig_nat (by omega)]; omega
 ·rcases List.mem_cons.1 hx with rfl | hx
  ·rw [dig_nat (by omega)]; omega
  ·rw [List.mem_singleton.1 hx, dig_nat (by omega)]; omega
/-- a number that is read: what ParseInt and the text of the number say -/
def numI (w : List UInt8) : Int := match Lib.parseIntB 64 w with
 | .ok v => match decide (v < 0) with
  | true => -2
  | false => match decB v == w with
   | true => v
   | false => -2
 | _ => -2
theorem parse_dec {n : Int} (h0 : 0 ≤ n) (h1 : n < 100) : Lib.parseIntB 64 (decB n) = .ok n := by
 rcases dec_cases h0 h1 with ⟨h, e⟩ | ⟨h, e⟩
 ·have hd := dig_nat (k := n.toNat) (by omega)
  rw [e]
  have hu : Lib.parseUintB 64 [UInt8.ofNat (48 + n.toNat)] = .ok n.toNat := by
   unfold Lib.parseUintB
   rw [if_neg (by simp)]
   simp only [Lib.parseUintM, hd]
   rw [if_pos (by omega), if_neg (by omega), if_neg (by omega)]
   congr 1
   omega
  unfold Lib.parseIntB
  simp only [hd]
  rw [if_neg (show ¬ (48 + n.toNat = 43 ∨ 48 + n.toNat = 45) by omega), hu]
  simp only
  rw [if_neg (by omega), if_neg (by omega), if_neg (by omega)]
  congr 1
  omega
 ·have hd := dig_nat (k := (n / 10).toNat) (by omega)
  have hd2 := dig_nat (k := (n % 10).toNat) (by omega)
  rw [e]
  have hu : Lib.parseUintB 64 [UInt8.ofNat (48 + (n / 10).toNat), UInt8.ofNat (48 + (n % 10).toNat)] = .ok n.toNat := by
   unfold Lib.parseUintB
   rw [if_neg (by simp)]
   simp only [Lib.parseUintM, hd, hd2]
   rw [if_pos (by omega), if_neg (by omega), if_neg (by omega), if_pos (by omega), if_neg (by omega), if_neg (by omega)]
   congr 1
   omega
  unfold Lib.parseIntB
  simp only [hd]
  rw [if_neg (show ¬ (48 + (n / 10).toNat = 43 ∨ 48 + (n / 10).toNat = 45) by omega), hu]
  simp only
  rw [if_neg (by omega), if_neg (by omega), if_neg (by omega)]
  congr 1
  omega
theorem numI_dec {n : Int} (h0 : 0 ≤ n) (h1 : n < 100) : numI (decB n) = n := by
 unfold numI
 rw [parse_dec h0 h1]
 have : decide (n < 0) = false := by simpa using h0
 simp only [this, beq_self_eq_true]
end Go.Proofs.YtmnjlhcbabhhlaaGreatDoor
namespace Go.Proofs.YtmnjlhcbabhhlaaGreatDoor
open Go.RowKit

/-- all blocks but some are as before -/
structure TchF (fp : List Nat) (w w' : World) : Prop where
 os : w'.os = w.os
 tape : w'.tape = w.tape
 output : w'.output = w.output
 size : w.heap.size ≤ w'.heap.size
 block : ∀ k, k < w.heap.size → k ∉ fp → w'.heap[k]? = w.heap[k]?
theorem TchF.refl (fp : List Nat) (w : World) : TchF fp w w := ⟨rfl, rfl, rfl, Nat.le_refl _, fun _ _ _ => rfl⟩
theorem TchF.trans {fp : List Nat} {w w' w'' : World} (h : TchF fp w w') (k : TchF fp w' w'') : TchF fp w w'' :=
 ⟨k.os.trans h.os, k.tape.trans h.tape, k.output.trans h.output, Nat.le_trans h.size k.size, fun i hi hb => (k.block i (Nat.lt_of_lt_of_le hi h.size) hb).trans (h.block i hi hb)⟩
theorem TchF.mono {fp fp' : List Nat} {w w' : World} (h : TchF fp w w') (hs : ∀ k ∈ fp, k ∈ fp') : TchF fp' w w' := ⟨h.os, h.tape, h.output, h.size, fun k hk hn => h.block k hk fun hm => hn (hs k hm)⟩
theorem Below.tchF {w w' : World} (h : Below w.heap.size w w') (fp : List Nat) : TchF fp w w' := ⟨h.os, h.tape, h.output, h.size, fun k hk _ => h.block k hk⟩
theorem TchF.setCell {fp : List Nat} {b : Nat} (hb : b ∈ fp) (o : Nat) (w : World) (u : Value) : TchF fp w (w.setCell ⟨b, o, none⟩ u) :=
 ⟨rfl, rfl, rfl, by simp [World.setCell], fun k _ hk => Below.heap_setCell _ _ _ _ (fun e => hk (by rw [e]; exact hb))⟩
theorem TchF.same {fp g : List Nat} {w w' : World} (h : TchF fp w w') (hg : ∀ k ∈ g, k < w.heap.size ∧ k ∉ fp) : Same g w w' := fun k hk => h.block k (hg k hk).1 (hg k hk).2
theorem TchF.cell {fp : List Nat} {w w' : World} (h : TchF fp w w') {b o : Nat} (hb : b < w.heap.size) (hn : b ∉ fp) : w'.cell? ⟨b, o, none⟩ = w.cell? ⟨b, o, none⟩ := World.cell?_of_block (w := w) (h.block b hb hn)
theorem TchF.frozen {fp : List Nat} {w w' : World} (h : TchF fp w w') {b o : Nat} (hb : b < w.heap.size) (hn : b ∉ fp) : w'.frozen? ⟨b, o, none⟩ = w.frozen? ⟨b, o, none⟩ := World.frozen?_of_block (w := w) (h.block b hb hn)

/-- the marks: f says how an element is marked from a number on, c how many marks it takes -/
def mkL {α : Type} (f : Int → α → α) (c : α → Int) : Int → List α → List α
 | _, [] => []
 | k, x :: r => f k x :: mkL f c (k + c x) r
theorem mkL_len {α : Type} {f : Int → α → α} {c : α → Int} : ∀ {xs : List α} {k : Int}, (mkL f c k xs).length = xs.length
 | [], _ => rfl
 | x :: r, k => by simp [mkL, mkL_len (xs := r)]
theorem mkL_get {α : Type} {f : Int → α → α} {c : α → Int} : ∀ {xs : List α} {k : Int} {i : Nat} (h : i < xs.length) (h' : i < (mkL f c k xs).length), (mkL f c k xs)[i] = f (k + sumL c (xs.take i)) xs[i]
 | x :: r, k, 0, h, h' => by simp [mkL, sumL]
 | x :: r, k, i + 1, h, h' => by
  simp only [mkL, List.getElem_cons_succ, List.take_succ_cons, sumL]
  rw [mkL_get (xs := r) (by simpa using h), Int.add_assoc]
/-- marked up to a place -/
def mkAt {α : Type} (f : Int → α → α) (c : α → Int) (k : Int) (xs : List α) (i : Nat) : List α := (mkL f c k xs).take i ++ xs.drop i
section
variable {α : Type} {f : Int → α → α} {c : α → Int} {k : Int} {xs : List α} {i : Nat}
theorem mkAt_zero : mkAt f c k xs 0 = xs := by simp [mkAt]
theorem mkAt_full : mkAt f c k xs xs.length = mkL f c k xs := by
 unfold mkAt
 rw [List.drop_length, List.append_nil, List.take_of_length_le (by rw [mkL_len]; exact Nat.le_refl _)]
theorem mkAt_len : (mkAt f c k xs i).length = xs.length := by
 simp [mkAt, mkL_len]; omega
theorem mkAt_get (h : i < xs.length) (h' : i < (mkAt f c k xs i).length) : (mkAt f c k xs i)[i] = xs[i] := by
 have hl : ((mkL f c k xs).take i).length = i := by rw [List.length_take, mkL_len]; omega
 simp only [mkAt]
 rw [List.getElem_append_right (by omega)]
 simp [hl]
theorem mkAt_set (h : i < xs.length) : (mkAt f c k xs i).set i (f (k + sumL c (xs.take i)) xs[i]) = mkAt f c k xs (i + 1) := by
 have hl : ((mkL f c k xs).take i).length = i := by rw [List.length_take, mkL_len]; omega
 have h2 : i < (mkL f c k xs).length := by rw [mkL_len]; exact h
 unfold mkAt
 rw [List.take_succ_eq_append_getElem h2, mkL_get h, List.set_append, if_neg (by omega), hl, Nat.sub_self, List.append_assoc]
 congr 1
 rw [List.drop_eq_getElem_cons h]
 rfl
end
theorem sumL_one {α : Type} (xs : List α) : sumL (fun _ => 1) xs = xs.length := by
 induction xs with
 | nil => rfl
 | cons x r ih => simp only [sumL, ih, List.length_cons]; omega

def cntI (xs : List Int) : Int := xs.length
def cntOp1 (x : Int × List Int) : Int := 1 + cntI x.2
def cntOps (xs : List (Int × List Int)) : Int := sumL cntOp1 xs
def cntFrm (x : Int × Int × List (Int × List Int)) : Int := cntOps x.2.2
theorem cntI_nn (xs : List Int) : 0 ≤ cntI xs := by unfold cntI; omega
theorem cntOp1_nn (x : Int × List Int) : 0 ≤ cntOp1 x := by have := cntI_nn x.2; unfold cntOp1; omega
theorem cntOps_nn (xs : List (Int × List Int)) : 0 ≤ cntOps xs := sumL_nonneg cntOp1_nn xs
def mkI (k : Int) (xs : List Int) : List Int := mkL (fun k _ => k) (fun _ => 1) k xs
def mkOp1 (k : Int) (x : Int × List Int) : Int × List Int := (k, mkI (k + 1) x.2)
def mkOps (k : Int) (xs : List (Int × List Int)) : List (Int × List Int) := mkL mkOp1 cntOp1 k xs
def mkFrm (k : Int) (x : Int × Int × List (Int × List Int)) : Int × Int × List (Int × List Int) := (x.1, x.2.1, mkOps k x.2.2)
/-! one element of a row -/
theorem nodup_flat {b n i : Nat} {fps : Nat → List Nat} (h : (b :: (List.range n).flatMap fps).Nodup) (hi : i < n) :
  (fps i).Nodup ∧ b ∉ fps i ∧ ∀ j, j < n → j ≠ i → ∀ k ∈ fps j, k ∉ fps i := by
 rw [List.nodup_cons] at h
 obtain ⟨h1, h2⟩ := h
 have h3 := List.pairwise_flatMap.1 h2
 refine ⟨h3.1 i (by simpa using hi), fun hb => h1 (List.mem_flatMap.2 ⟨i, by simpa using hi, hb⟩), fun j hj hne k hk hk' => ?_⟩
 have h4 := h3.2
 rw [List.pairwise_iff_getElem] at h4
 rcases Nat.lt_or_ge j i with hlt | hge
 ·have := h4 j i (by simpa using hj) (by simpa using hi) hlt k (by simpa using hk) k (by simpa using hk')
  exact this rfl
 ·have := h4 i j (by simpa using hi) (by simpa using hj) (by omega) k (by simpa using hk') k (by simpa using hk)
  exact this rfl

theorem rowRd.put {α : Type} {E : Ty α} {w w' : World} {b o : Nat} {xs : List α} {fps : Nat → List Nat} {i : Nat} {y : α} (h : rowRd E w b o xs fps) (_hi : i < xs.length)
  (hother : ∀ j, j < xs.length → j ≠ i → Same (fps j) w w' ∧ ∀ q, q < E.sz → w'.cell? ⟨b, o + j * E.sz + q, none⟩ = w.cell? ⟨b, o + j * E.sz + q, none⟩)
  (hthis : ∃ cs, E.rd w' cs y (fps i) ∧ ∀ j (hj : j < cs.length), w'.cell? ⟨b, o + i * E.sz + j, none⟩ = some cs[j]) : rowRd E w' b o (xs.set i y) fps := by
 intro j hj
 by_cases e : i = j
 ·subst e
  simpa using hthis
 ·have hj' : j < xs.length := by simpa using hj
  obtain ⟨cs, h1, h2⟩ := h j hj'
  obtain ⟨h3, h4⟩ := hother j hj' (fun e' => e e'.symm)
  refine ⟨cs, by rw [List.getElem_set_ne e]; exact E.same h1 h3, fun q hq => ?_⟩
  rw [h4 q (by rw [← E.len h1]; exact hq)]
  exact h2 q hq

theorem sl_open {α : Type} {E : Ty α} {w : World} {v : Value} {xs : List α} {fp : List Nat} (h : (Ty.slice E).rd w [v] xs fp) {i : Nat} (hi : i < xs.length) :
  ∃ b o cap fps, v = .slice (some ⟨b, o, none⟩) xs.length cap ∧ b < w.heap.size ∧ fp = b :: (List.range xs.length).flatMap fps ∧ rowRd E w b o xs fps ∧
   ∀ w' ys, rowRd E w' b o ys fps → ys.length = xs.length → b < w'.heap.size → (Ty.slice E).rd w' [v] ys fp := by
 obtain ⟨ad, cap, hv, h1, h2, h3⟩ := h
 obtain rfl : v = _ := by simpa using hv
 rcases h3 with h3 | ⟨h3, b, o, fps, rfl, hb, rfl, h4⟩
 ·omega
 ·refine ⟨b, o, cap, fps, rfl, hb, rfl, h4, fun w' ys hr hl hb' => ⟨some ⟨b, o, none⟩, cap, by rw [hl], by omega, by omega, .inr ⟨by omega, b, o, fps, rfl, hb', by rw [hl], hr⟩⟩⟩

/-- a number of a row: its cell, and the row behind a write -/
theorem ints_mark {w : World} {v : Value} {xs : List Int} {fp : List Nat} (h : intsT.rd w [v] xs fp) (_hn : fp.Nodup) (hu : Unf w fp) {i : Nat} (hi : i < xs.length) :
  ∃ b o cap, v = .slice (some ⟨b, o, none⟩) xs.length cap ∧ b < w.heap.size ∧ w.cell? ⟨b, o + i, none⟩ = some (.int .i64 xs[i]) ∧ w.frozen? ⟨b, o + i, none⟩ = false ∧
   ∀ n, I64 n → intsT.rd (w.setCell ⟨b, o + i, none⟩ (.int .i64 n)) [v] (xs.set i n) fp ∧ Unf (w.setCell ⟨b, o + i, none⟩ (.int .i64 n)) fp ∧ TchF fp w (w.setCell ⟨b, o + i, none⟩ (.int .i64 n)) := by
 obtain ⟨b, o, cap, fps, hv, hb, rfl, hr, hc⟩ := sl_open h hi
 have hcell : w.cell? ⟨b, o + i, none⟩ = some (.int .i64 xs[i]) := by
  obtain ⟨cs, ⟨rfl, _, _⟩, h2⟩ := hr i hi
  simpa [Ty.int] using h2 0 (by simp)
 refine ⟨b, o, cap, hv, hb, hcell, hu b (List.mem_cons_self ..) _, fun n hn => ⟨hc _ _ (hr.put hi (fun j hj hne => ⟨?_, fun q hq => ?_⟩) ⟨[.int .i64 n], ⟨rfl, hn, ?_⟩, fun j hj => ?_⟩) (by simp) (by simpa [World.setCell] using hb), fun k hk q => ?_, TchF.setCell (List.mem_cons_self ..) _ _ _⟩⟩
 ·obtain ⟨cs, ⟨_, _, hf⟩, _⟩ := hr j hj
  rw [hf]; intro k hk; cases hk
 ·refine World.cell?_setCell_other _ _ _ _ (fun e => ?_)
  have : q = 0 := by simpa [Ty.int] using hq
  simp [Ty.int] at e
  omega
 ·obtain ⟨cs, ⟨_, _, hf⟩, _⟩ := hr i hi
  exact hf
 ·obtain rfl : j = 0 := by simpa using hj
  simpa [Ty.int] using World.cell?_setCell_same _ _ (.int .i64 n) hcell
 ·rw [World.frozen?_setCell]; exact hu k hk q

/-- a struct of a row: its number is written first, then its slice -/
theorem pairs_mark {α : Type} {E : Ty α} {w : World} {v : Value} {xs : List (Int × List α)} {fp : List Nat} (h : (Ty.slice (Ty.cons (Ty.slice E))).rd w [v] xs fp) (hn : fp.Nodup) (hu : Unf w fp) {i : Nat} (hi : i < xs.length) :
  ∃ b o cap u f, v = .slice (some ⟨b, o, none⟩) xs.length cap ∧ b < w.heap.size ∧ w.cell? ⟨b, o + i * 2, none⟩ = some (.int .i64 xs[i].1) ∧ w.cell? ⟨b, o + i * 2 + 1, none⟩ = some u ∧ w.frozen? ⟨b, o + i * 2, none⟩ = false ∧
   ∀ n, I64 n → ∃ w1, w1 = w.setCell ⟨b, o + i * 2, none⟩ (.int .i64 n) ∧ w1.cell? ⟨b, o + i * 2 + 1, none⟩ = some u ∧ (Ty.slice E).rd w1 [u] xs[i].2 f ∧ f.Nodup ∧ Unf w1 f ∧ w1.heap.size = w.heap.size ∧
   ∀ w' y, TchF f w1 w' → (Ty.slice E).rd w' [u] y f → Unf w' f → (Ty.slice (Ty.cons (Ty.slice E))).rd w' [v] (xs.set i (n, y)) fp ∧ Unf w' fp ∧ TchF fp w w' := by
 obtain ⟨b, o, cap, fps, hv, hb, rfl, hr, hc⟩ := sl_open h hi
 obtain ⟨n1, n2, n3⟩ := nodup_flat hn hi
 obtain ⟨cs, ⟨cs', rfl, hI, h1⟩, h2⟩ := hr i hi
 obtain ⟨_, _, rfl, _⟩ := id h1
 have hcell0 := h2 0 (by simp)
 have hcell1 := h2 1 (by simp)
 simp [Ty.slice, Ty.cons] at hcell0 hcell1
 have hsub : ∀ k ∈ fps i, k ∈ b :: (List.range xs.length).flatMap fps := fun k hk => List.mem_cons_of_mem _ (List.mem_flatMap.2 ⟨i, by simpa using hi, hk⟩)
 refine ⟨b, o, cap, _, fps i, hv, hb, hcell0, hcell1, hu b (List.mem_cons_self ..) _, fun n hI' => ⟨_, rfl, ?_, ?_, n1, ?_, by simp [World.setCell], fun w' y ht hy hu' => ?_⟩⟩
 ·rw [World.cell?_setCell_other _ _ _ _ (fun e => by simp at e)]; exact hcell1
 ·exact (Ty.slice E).same h1 (same_set fun k hk e => n2 (by rw [e]; exact hk))
 ·exact fun k hk q => by rw [World.frozen?_setCell]; exact hu k (hsub k hk) q
 have hsz : (w.setCell ⟨b, o + i * 2, none⟩ (.int .i64 n)).heap.size = w.heap.size := by simp [World.setCell]
 have hbl : ∀ q, w'.cell? ⟨b, q, none⟩ = (w.setCell ⟨b, o + i * 2, none⟩ (.int .i64 n)).cell? ⟨b, q, none⟩ := fun q => ht.cell (by rw [hsz]; exact hb) n2
 have hts : TchF (b :: (List.range xs.length).flatMap fps) w (w.setCell ⟨b, o + i * 2, none⟩ (.int .i64 n)) := TchF.setCell (List.mem_cons_self ..) _ _ _
 refine ⟨hc _ _ (hr.put hi (fun j hj hne => ⟨?_, fun q hq => ?_⟩) ⟨.int .i64 n :: _, ⟨_, rfl, hI', hy⟩, fun j hj => ?_⟩) (by simp) (Nat.lt_of_lt_of_le (by rw [hsz]; exact hb) ht.size), fun k hk q => ?_, hts.trans (ht.mono hsub)⟩
 ·obtain ⟨cs', h3, _⟩ := hr j hj
  obtain ⟨m1, m2, m3⟩ := nodup_flat hn hj
  refine Same.trans (same_set fun k hk e => m2 (by rw [e]; exact hk)) (ht.same fun k hk => ⟨?_, n3 j hj hne k hk⟩)
  rw [hsz]
  exact (Ty.cons (Ty.slice E)).lt h3 k hk
 ·rw [hbl]
  refine World.cell?_setCell_other _ _ _ _ (fun e => ?_)
  simp [Ty.slice, Ty.cons] at e hq
  omega
 ·rw [hbl]
  rcases (show j = 0 ∨ j = 1 by simp at hj; omega) with rfl | rfl
  ·simpa [Ty.slice, Ty.cons] using World.cell?_setCell_same _ _ (.int .i64 n) hcell0
  ·rw [World.cell?_setCell_other _ _ _ _ (fun e => by simp [Ty.slice, Ty.cons] at e)]
   simpa [Ty.slice, Ty.cons] using hcell1
 ·by_cases hk' : k ∈ fps i
  ·exact hu' k hk' q
  ·rw [ht.frozen (by rw [hsz]; exact (Ty.slice (Ty.cons (Ty.slice E))).lt h k hk) hk', World.frozen?_setCell]; exact hu k hk q

theorem rd_pair {α : Type} {E : Ty α} {w : World} {cs : List Value} {x : Int × List α} {fp : List Nat} (h : (Ty.cons (Ty.slice E)).rd w cs x fp) :
  ∃ u, cs = [.int .i64 x.1, u] ∧ (Ty.slice E).rd w [u] x.2 fp ∧ ∀ w' y, (Ty.slice E).rd w' [u] y fp → (Ty.cons (Ty.slice E)).rd w' [.int .i64 x.1, u] (x.1, y) fp := by
 obtain ⟨cs', rfl, hI, h1⟩ := h
 obtain ⟨_, _, rfl, _⟩ := id h1
 exact ⟨_, rfl, h1, fun w' y hy => ⟨_, rfl, hI, hy⟩⟩
theorem rd_trip {α : Type} {E : Ty α} {w : World} {cs : List Value} {x : Int × Int × List α} {fp : List Nat} (h : (Ty.cons (Ty.cons (Ty.slice E))).rd w cs x fp) :
  ∃ u, cs = [.int .i64 x.1, .int .i64 x.2.1, u] ∧ (Ty.slice E).rd w [u] x.2.2 fp ∧ ∀ w' y, (Ty.slice E).rd w' [u] y fp → (Ty.cons (Ty.cons (Ty.slice E))).rd w' [.int .i64 x.1, .int .i64 x.2.1, u] (x.1, x.2.1, y) fp := by
 obtain ⟨cs', rfl, hI, h1⟩ := h
 obtain ⟨u, rfl, h2, h3⟩ := rd_pair h1
 exact ⟨u, rfl, h2, fun w' y hy => ⟨_, rfl, hI, h3 _ _ hy⟩⟩

/-! memory between two numbers -/
/-- reads so in blocks from lo up to hi, each once, none frozen -/
def Ty.Fx {α : Type} (E : Ty α) (lo hi : Nat) (w : World) (cs : List Value) (x : α) : Prop := ∃ fp, E.rd w cs x fp ∧ fp.Nodup ∧ (∀ b ∈ fp, lo ≤ b ∧ b < hi) ∧ Unf w fp
theorem Ty.Fx.rd {α : Type} {E : Ty α} {lo hi : Nat} {w : World} {cs : List Value} {x : α} (h : E.Fx lo hi w cs x) : E.Rd w cs x := let ⟨fp, h, _⟩ := h; ⟨fp, h⟩
theorem Ty.Fr.fx {α : Type} {E : Ty α} {lo : Nat} {w : World} {cs : List Value} {x : α} (h : E.Fr lo w cs x) : E.Fx lo w.heap.size w cs x :=
 let ⟨fp, h1, h2, h3, h4⟩ := h; ⟨fp, h1, h2, fun b hb => ⟨h3 b hb, E.lt h1 b hb⟩, h4⟩
theorem Ty.Fx.below {α : Type} {E : Ty α} {lo hi : Nat} {w w' : World} {cs : List Value} {x : α} (h : E.Fx lo hi w cs x) (hb : Below w.heap.size w w') : E.Fx lo hi w' cs x :=
 let ⟨fp, h1, h2, h3, h4⟩ := h
 have hs : Same fp w w' := Same.below hb (E.lt h1)
 ⟨fp, E.same h1 hs, h2, h3, h4.same hs⟩
/-- all old blocks but those from lo up to hi are as before -/
structure Tch (lo hi : Nat) (w w' : World) : Prop where
 os : w'.os = w.os
 tape : w'.tape = w.tape
 output : w'.output = w.output
 size : w.heap.size ≤ w'.heap.size
 block : ∀ k, k < w.heap.size → (k < lo ∨ hi ≤ k) → w'.heap[k]? = w.heap[k]?
theorem TchF.tch {fp : List Nat} {lo hi : Nat} {w w' : World} (h : TchF fp w w') (hf : ∀ b ∈ fp, lo ≤ b ∧ b < hi) : Tch lo hi w w' :=
 ⟨h.os, h.tape, h.output, h.size, fun k hk hn => h.block k hk fun hm => by have := hf k hm; omega⟩
theorem Tch.cell {lo hi : Nat} {w w' : World} (h : Tch lo hi w w') {b o : Nat} (hb : b < w.heap.size) (hn : b < lo ∨ hi ≤ b) : w'.cell? ⟨b, o, none⟩ = w.cell? ⟨b, o, none⟩ := World.cell?_of_block (w := w) (h.block b hb hn)
theorem Ty.Fx.tch {α : Type} {E : Ty α} {lo hi lo' hi' : Nat} {w w' : World} {cs : List Value} {x : α} (h : E.Fx lo hi w cs x) (ht : Tch lo' hi' w w') (hd : hi ≤ lo' ∨ hi' ≤ lo) : E.Fx lo hi w' cs x :=
 let ⟨fp, h1, h2, h3, h4⟩ := h
 have hs : Same fp w w' := fun k hk => ht.block k (E.lt h1 k hk) (by have := h3 k hk; omega)
 ⟨fp, E.same h1 hs, h2, h3, h4.same hs⟩
theorem below_tch {B lo hi : Nat} {a w w' : World} (h : Below B a w) (ht : Tch lo hi w w') (hB : B ≤ lo) (hs : B ≤ w.heap.size) : Below B a w' :=
 ⟨ht.os.trans h.os, ht.tape.trans h.tape, ht.output.trans h.output, Nat.le_trans h.size ht.size, fun k hk => (ht.block k (by omega) (by omega)).trans (h.block k hk)⟩
/-- an append at a step of a region that draws its order -/
theorem step_push {P : Program} {K : Act → World → Prop} {Ee : Prop} {α : Type} {E : Ty α} (w : World) {ops : Array Oper} {o : Oper} {a : Act} {Q : Exit → Act → World → Prop} (hgd : o.guard = none) (s x : Operand) (t e : TypeId) {bytes : Nat}
  (ho : o.op = .call { callee := .builtin .append, args := #[s, x], argTypes := #[t, t] }) (hT : ElT P t e E.sz bytes)
  {base top : Nat} {v : Value} {ys : List α} (hs : a.eval s = v) (hB : Bl E e base top w v ys)
  {ad : Addr} {c : Nat} {cs : List Value} {y : α} (hx : a.eval x = .slice (some ad) 1 c) (hnews : ∀ j u, cs[j]? = some u → w.cell? (ad.add j) = some u) (hy : E.Fr top w cs y)
  (hlen : ys.length ≤ 1000000000) (hby : bytes ≤ 100000) (hbt : base ≤ top) (htop : top ≤ w.heap.size)
  (h : ∀ v' w', Bl E e base w'.heap.size w' v' (ys ++ [y]) → w.grownBy w' v.ownBlock → (v'.ownBlock = v.ownBlock ∨ v'.ownBlock = some w.heap.size) → K (a.put o.dst v') w') : if Region.wanted o (yielded ops a.tmps) = true then Oper.wp P o a w K Q else Ee := by
 rw [if_pos (by simp [Region.wanted, hgd])]
 obtain ⟨L, fps, g1, g2, g3, g4, g5, g6⟩ := hB
 obtain ⟨fp, k1, k2, k3, k4⟩ := hy
 obtain ⟨i, z, ht, hi, hz, hsz, hbt', hzs, hp⟩ := id hT
 have hcl := E.len k1
 have hlen' : (ys.length + 1) * bytes ≤ 140737488355328 := Nat.le_trans (Nat.mul_le_mul (show ys.length + 1 ≤ 1000000001 by omega) hby) (by decide)
 have hbase : base ≤ w.heap.size := Nat.le_trans hbt htop
 obtain ⟨v', w', hr, h2, h3, h4⟩ := run_append_own (P := P) w base t o.type e i z E.sz bytes ht hi hz hsz hbt' hzs hp v ys.length L g1 ad 1 c cs (by omega) hnews (E.one k1) (by unfold maxLen; omega) hlen' hbase
 have hblk := run_push_block w base t o.type e hT v ys.length L g1 ad 1 c cs (by omega) hnews (E.one k1) (by unfold maxLen; omega) hlen' (by omega) v' w' hr
 have hS : ∀ k, v.ownBlock ≠ some k → k < w.heap.size → w'.heap[k]? = w.heap[k]? := fun k hk hlt => h3.block k hlt (fun he => hk he.symm)
 have hlt1 : ∀ b ∈ flat fps ys.length, b < w.heap.size := fun b hb => Nat.lt_of_lt_of_le (g4 b hb).2.1 htop
 have hlt2 : ∀ b ∈ fp, b < w.heap.size := E.lt k1
 have hS1 : Same (flat fps ys.length) w w' := fun k hk => hS k (g4 k hk).2.2 (hlt1 k hk)
 have hne : ∀ b ∈ fp, v.ownBlock ≠ some b := fun b hb he => by have := g5 b he; have := k3 b hb; omega
 have hS2 : Same fp w w' := fun k hk => hS k (hne k hk) (hlt2 k hk)
 have hBl : Bl E e base w'.heap.size w' v' (ys ++ [y]) := by
  refine ⟨L ++ cs, fun i => if i = ys.length then fp else fps i, by simpa using h2, el_add (fun i hi => ?_) g1.1 (E.same k1 hS2), ?_, ?_, ?_, ?_⟩
  ·obtain ⟨cs', h7, h8⟩ := g2 i hi
   exact ⟨cs', E.same h7 (fun k hk => hS1 k (List.mem_flatMap.2 ⟨i, by simpa using hi, hk⟩)), h8⟩
  ·rw [List.length_append, List.length_singleton, flat_add]
   exact List.nodup_append.2 ⟨g3, k2, fun a ha b hb he => by subst he; have := (g4 a ha).2.1; have := k3 a hb; omega⟩
  ·rw [List.length_append, List.length_singleton, flat_add]
   intro b hb
   have hsz' := h3.size
   rcases List.mem_append.1 hb with hb | hb
   ·refine ⟨(g4 b hb).1, by have := hlt1 b hb; omega, ?_⟩
    rcases hblk with e1 | e1 <;> rw [e1]
    ·exact (g4 b hb).2.2
    ·intro he; have := hlt1 b hb; simp at he; omega
   ·refine ⟨by have := k3 b hb; omega, by have := hlt2 b hb; omega, ?_⟩
    rcases hblk with e1 | e1 <;> rw [e1]
    ·exact hne b hb
    ·intro he; have := hlt2 b hb; simp at he; omega
  ·intro g hg
   exact (h2.lt g hg).2
  ·rw [List.length_append, List.length_singleton, flat_add]
   intro b hb
   rcases List.mem_append.1 hb with hb | hb
   ·exact g6.same hS1 b hb
   ·exact k4.same hS2 b hb
 unfold Oper.wp execOp
 simp only [ho, resolve, invoke, builtin, Sem.run_bind, Sem.run_pure, Result.andThen_ok, List.map_toArray, List.map_cons, List.map_nil, hs, hx, hr]
 exact h v' w' hBl h3 hblk
end Go.Proofs.YtmnjlhcbabhhlaaGreatDoor
namespace Go.Proofs.YtmnjlhcbabhhlaaGreatDoor
section
variable {s m k : Nat} {sure : List Int → Bool} {vals : List Int}
end
section
variable {go : List (List Int) → Bool} {told xs ys : List (List Int)} {x : List Int}
end
theorem sumL_bd {α : Type} {f : α → Int} {c : Int} : ∀ {xs : List α}, (∀ x ∈ xs, f x ≤ c) → sumL f xs ≤ xs.length * c
 | [], _ => by simp [sumL]
 | x :: r, h => by
  have h1 := h x (List.mem_cons_self ..)
  have h2 := sumL_bd (xs := r) fun y hy => h y (List.mem_cons_of_mem _ hy)
  have e : sumL f (x :: r) = f x + sumL f r := rfl
  rw [e, List.length_cons, show ((r.length + 1 : Nat) : Int) = (r.length : Int) + 1 by omega, Int.add_mul]
  omega
end Go.Proofs.YtmnjlhcbabhhlaaGreatDoor
