/-
Plain: a formula's words read back, the program's way and the reference's; what ReadFormula answers.
Contracts: the program's InstanceText and FormulaText.
Contracts: valid instances and formulas, the reference's.
Contracts: the reference's InstanceText and FormulaText.
Contracts: the reference's FormulaText.
Texts byte by byte; contracts: a text cut at a byte, a number read, the reference's.
The library's contracts, laid at this seat's program. Written by the kit's lay-shelf and lay-plain: its numbers hold for that seat alone (shelf2.py).
Contracts: a number read from its text, digits read, the program's. The library's package variables that they reach are told by a premise.
Contracts: digits read from a text, the program's.
Constraints that hold for values: the program's and the reference's.
Contracts: counting lists, formulas of one atom; results that lie in new memory.
Contracts: atoms whose variables are renamed.
Contracts: hiding a variable of a formula: the reference's.
Contracts: hiding a variable of a formula: the program's.
Contracts: hiding a variable of a formula: the program's.
Contracts: a copy of a list by append, the limits of formulas; the law of an append of many numbers.
Contracts: slices.Clone, an instance in new memory.
-/
import Derived.Test.YtmnjlhcbabhhlaaGreatDoorQAB
import Derived.Shelf.Strconv.ParseIntPublic10
import Derived.Test.YtmnjlhcbabhhlaaGreatDoorProg
import Derived.Lib.SmallJoins
import Derived.Lib.AppendIntMem
import Derived.Test.YtmnjlhcbabhhlaaGreatDoorQAA
import Derived.Deep.RegionHeldLaw
import Derived.Deep.RegionLaw
namespace Go.Proofs.YtmnjlhcbabhhlaaGreatDoor
open Go.RowKit Go.Sort
def isDg (c : UInt8) : Bool := decide (48 ≤ c.toNat) && decide (c.toNat ≤ 57)
def dgV (c : UInt8) : Int := (c.toNat : Int) - 48
/-- digits that are read; none of other bytes -/
def digR (w : List UInt8) : List Int := match w.all isDg with
 | true => w.map dgV
 | false => []
theorem dec_row {xs : List Int} (h : ∀ a ∈ xs, 0 ≤ a ∧ a < 10) : catL decB [] xs = xs.map fun a => UInt8.ofNat (48 + a.toNat) := by
 induction xs with
 | nil => rfl
 | cons a r ih =>
  have ha := h a (List.mem_cons_self ..)
  have := ih fun b hb => h b (List.mem_cons_of_mem _ hb)
  unfold catL at this ⊢
  simp only [List.nil_append, List.map_cons, List.flatten_cons] at this ⊢
  rw [this, dec_one ha.1 ha.2]
  rfl
theorem dgV_of {a : Int} (h : 0 ≤ a ∧ a < 10) : isDg (UInt8.ofNat (48 + a.toNat)) = true ∧ dgV (UInt8.ofNat (48 + a.toNat)) = a := by
 have := dig_nat (k := a.toNat) (by omega)
 unfold isDg dgV
 rw [this]
 constructor
 ·simp; omega
 ·omega
theorem row_dgV {xs : List Int} (h : ∀ a ∈ xs, 0 ≤ a ∧ a < 10) : (catL decB [] xs).all isDg = true ∧ (catL decB [] xs).map dgV = xs := by
 rw [dec_row h]
 constructor
 ·rw [List.all_eq_true]
  intro c hc
  obtain ⟨a, ha, rfl⟩ := List.mem_map.1 hc
  exact (dgV_of (h a ha)).1
 ·rw [List.map_map]
  exact (List.map_congr_left fun a ha => (dgV_of (h a ha)).2).trans (List.map_id xs)
theorem digR_row {xs : List Int} (h : ∀ a ∈ xs, 0 ≤ a ∧ a < 10) : digR (catL decB [] xs) = xs := by
 unfold digR
 rw [(row_dgV h).1]
 exact (row_dgV h).2
/-- the relation of an atom's word, the program's -/
def relI (w : List UInt8) : Int := match w with
 | c :: r => match c == 82 with
  | true => numI r
  | false => -1
 | [] => -1
/-- an atom's word, read -/
def atomI (w : List UInt8) : Int × List Int := (relI (Lib.cut w [58]).1, digR (Lib.cut w [58]).2.1)
theorem dec_free {n : Int} (h0 : 0 ≤ n) (h1 : n < 100) {b : UInt8} (hb : b.toNat < 48 ∨ 57 < b.toNat) : b ∉ decB n := fun hm => by
 have := dec_digit h0 h1 b hm
 omega
theorem row_free {xs : List Int} (h : ∀ a ∈ xs, 0 ≤ a ∧ a < 10) {b : UInt8} (hb : b.toNat < 48 ∨ 57 < b.toNat) : b ∉ catL decB [] xs := fun hm => by
 have := List.all_eq_true.1 (row_dgV h).1 b hm
 unfold isDg at this
 simp at this
 omega
theorem wdP_free {a : Int × List Int} (h : -1 ≤ a.1 ∧ a.1 ≤ 5) {b : UInt8} (hb : b.toNat < 48 ∨ b.toNat = 58) : b ∉ wdP a := fun hm => by
 unfold wdP at hm
 cases he : (a.1 != -1)
 ·rw [he] at hm
  rw [List.mem_singleton.1 hm] at hb
  revert hb; decide
 ·rw [he] at hm
  have hne : a.1 ≠ -1 := by simpa using he
  rcases List.mem_append.1 hm with hm | hm
  ·rw [List.mem_singleton.1 hm] at hb
   revert hb; decide
  ·exact dec_free (by omega) (by omega) (by omega) hm
section
variable {v : Int} {a : Int × List Int}
theorem wdT_cut (h : shC v (-1) a) : Lib.cut (wdT a) [58] = (wdP a, catL decB [] a.2, true) := by
 have : wdT a = wdP a ++ 58 :: catL decB [] a.2 := by simp [wdT, cat]
 rw [this]
 exact cut_free (wdP_free h.1 (.inr rfl))
theorem wdT_free (h : shC v (-1) a) (hv : v ≤ 10) : (32 : UInt8) ∉ wdT a := fun hm => by
 rcases List.mem_append.1 hm with hm | hm
 ·rcases List.mem_append.1 hm with hm | hm
  ·exact wdP_free h.1 (.inl (by decide)) hm
  ·exact absurd (List.mem_singleton.1 hm) (by decide)
 ·exact row_free (shC_dec h hv) (.inl (by decide)) hm
theorem atomI_wd (h : shC v (-1) a) (hv : v ≤ 10) : atomI (wdT a) = a := by
 unfold atomI
 rw [wdT_cut h]
 refine Prod.ext ?_ (digR_row (shC_dec h hv))
 show relI (wdP a) = a.1
 have hr := h.1
 unfold wdP
 cases he : (a.1 != -1)
 ·have : a.1 = -1 := by simpa using he
  rw [this]; rfl
 ·have hne : a.1 ≠ -1 := by simpa using he
  show relI (82 :: decB a.1) = a.1
  unfold relI
  simp only [beq_self_eq_true]
  exact numI_dec (by omega) (by omega)
end
def fmW (f : Int × Int × List (Int × List Int)) : List (List UInt8) := [102, 111, 114, 109, 117, 108, 97] :: decB f.1 :: decB f.2.1 :: f.2.2.map wdT
theorem fmW_free {f : Int × Int × List (Int × List Int)} (h : shF f) : ∀ x ∈ fmW f, (32 : UInt8) ∉ x := by
 obtain ⟨⟨h1, h2, -⟩, ha⟩ := h
 intro x hx
 rcases List.mem_cons.1 hx with rfl | hx
 ·decide
 rcases List.mem_cons.1 hx with rfl | hx
 ·exact dec_free (by omega) (by omega) (.inl (by decide))
 rcases List.mem_cons.1 hx with rfl | hx
 ·exact dec_free (by omega) (by omega) (.inl (by decide))
 obtain ⟨a, ham, rfl⟩ := List.mem_map.1 hx
 exact wdT_free (ha a ham) (by omega)
theorem words_I {f : Int × Int × List (Int × List Int)} (h : shF f) : Lib.split (txF f) [32] = fmW f := by
 rw [← frm_join]
 exact split_join (fmW_free h)
theorem words_S {f : Int × Int × List (Int × List Int)} (h : shF f) : cutS 32 (txF f) = fmW f := by
 rw [← frm_join]
 exact cutS_join (fmW_free h)
/-- a formula of words, the program's -/
def frmI (W : List (List UInt8)) : Int × Int × List (Int × List Int) := (numI (W.getD 1 []), numI (W.getD 2 []), (W.drop 3).map atomI)
theorem frmI_of {f : Int × Int × List (Int × List Int)} (h : shF f) : frmI (fmW f) = f := by
 obtain ⟨⟨h1, h2, -⟩, ha⟩ := id h
 obtain ⟨x, y, A⟩ := f
 unfold frmI fmW
 simp only [List.getD_cons_succ, List.getD_cons_zero, List.drop_succ_cons, List.drop_zero, List.map_map]
 have h1' : 1 ≤ x ∧ x ≤ 4 := h1
 have h2' : x ≤ y ∧ y ≤ 8 := h2
 rw [numI_dec (by omega) (by omega), numI_dec (by omega) (by omega)]
 refine Prod.ext rfl (Prod.ext rfl ?_)
 exact (List.map_congr_left fun a ham => atomI_wd (ha a ham) (by omega)).trans (List.map_id A)
/-- a number of one to nine digits, the reference's -/
def accS (n : Int) (c : UInt8) : Int := n * 10 + dgV c
def numS (w : List UInt8) : Int × Bool := match decide (w.length < 1) || (decide (9 < w.length) || ((w.headD 0 == 48) && decide (1 < w.length))) with
 | true => (0, false)
 | false => match w.all isDg with
  | true => (w.foldl accS 0, true)
  | false => (0, false)
theorem numS_dec {n : Int} (h0 : 0 ≤ n) (h1 : n < 100) : numS (decB n) = (n, true) := by
 rcases dec_cases h0 h1 with ⟨h, e⟩ | ⟨h, e⟩
 ·obtain ⟨d1, d2⟩ := dgV_of (a := n) (by omega)
  rw [e]
  generalize UInt8.ofNat (48 + n.toNat) = c at d1 d2
  simp [numS, d1, d2, accS]
 ·obtain ⟨d1, d2⟩ := dgV_of (a := n / 10) (by omega)
  obtain ⟨d3, d4⟩ := dgV_of (a := n % 10) (by omega)
  have hz : (UInt8.ofNat (48 + (n / 10).toNat) == 48) = false := by
   rw [beq_eq_false_iff_ne]
   intro he
   have := dig_nat (k := (n / 10).toNat) (by omega)
   rw [he] at this
   have h48 : (48 : UInt8).toNat = 48 := by decide
   omega
  rw [e]
  generalize UInt8.ofNat (48 + (n / 10).toNat) = c at d1 d2 hz
  generalize UInt8.ofNat (48 + (n % 10).toNat) = c2 at d3 d4
  simp [numS, d1, d2, d3, d4, accS]
  rw [hz]
  simp only [Prod.mk.injEq, and_true]
  omega
/-- the relation of an atom's word, the reference's: what is read, and whether it is right -/
def relS (p : List UInt8) : Int × Bool := match p == [61] with
 | true => (-1, true)
 | false => ((numS (p.drop 1)).1, (numS (p.drop 1)).2 && (p.headD 0 == 82))
/-- an atom's word: whether it has two parts, the first not empty -/
def twoS (w : List UInt8) : Bool := ((cutS 58 w).length == 2) && decide (0 < ((cutS 58 w).getD 0 []).length)
def atomS (w : List UInt8) : Int × List Int := ((relS ((cutS 58 w).getD 0 [])).1, ((cutS 58 w).getD 1 []).map dgV)
/-- whether the word is right -/
def okS (w : List UInt8) : Bool := twoS w && (relS ((cutS 58 w).getD 0 [])).2
theorem wdT_cutS {v : Int} {a : Int × List Int} (h : shC v (-1) a) (hv : v ≤ 10) : cutS 58 (wdT a) = [wdP a, catL decB [] a.2] := by
 have e : wdT a = Lib.join [wdP a, catL decB [] a.2] [58] := by
  rw [join_two, Lib.join_cons]
  simp [wdT, cat, Lib.joinTail]
 rw [e]
 refine cutS_join fun x hx => ?_
 rcases List.mem_cons.1 hx with rfl | hx
 ·exact wdP_free h.1 (.inr rfl)
 ·rw [List.mem_singleton.1 hx]
  exact row_free (shC_dec h hv) (.inr (by decide))
theorem relS_wd {v : Int} {a : Int × List Int} (h : shC v (-1) a) : relS (wdP a) = (a.1, true) := by
 have hr := h.1
 unfold wdP
 cases he : (a.1 != -1)
 ·have : a.1 = -1 := by simpa using he
  rw [this]; rfl
 ·have hne : a.1 ≠ -1 := by simpa using he
  have hl := (dec_len (n := a.1) (by omega)).1
  show relS (82 :: decB a.1) = _
  have hq : ((82 :: decB a.1 : List UInt8) == [61]) = false := by
   rw [beq_eq_false_iff_ne]
   intro e
   have := List.head_eq_of_cons_eq e
   revert this; decide
  unfold relS
  simp only [hq, List.drop_succ_cons, List.drop_zero, List.headD_cons, beq_self_eq_true, Bool.and_true]
  rw [numS_dec (by omega) (by omega)]
theorem atomS_wd {v : Int} {a : Int × List Int} (h : shC v (-1) a) (hv : v ≤ 10) : atomS (wdT a) = a ∧ okS (wdT a) = true := by
 have hc := wdT_cutS h hv
 have hp : 0 < (wdP a).length := by
  unfold wdP
  cases (a.1 != -1)
  ·exact Nat.one_pos
  ·show 0 < (82 :: decB a.1 : List UInt8).length
   simp
 unfold atomS okS twoS
 rw [hc]
 simp only [List.getD_cons_zero, List.getD_cons_succ, relS_wd h]
 exact ⟨Prod.ext rfl (row_dgV (shC_dec h hv)).2, by simp [hp]⟩
/-- a formula of words, the reference's, and whether the words are right -/
def frmS (W : List (List UInt8)) : Int × Int × List (Int × List Int) := ((numS (W.getD 1 [])).1, (numS (W.getD 2 [])).1, (W.drop 3).map atomS)
def wrdS (W : List (List UInt8)) : Bool := ((numS (W.getD 1 [])).2 && (numS (W.getD 2 [])).2) && (W.drop 3).all okS
def topS (W : List (List UInt8)) : Bool := !(decide (W.length < 3)) && ((W.headD [] == [102, 111, 114, 109, 117, 108, 97]) && !(decide (19 < W.length)))
theorem frmS_of {f : Int × Int × List (Int × List Int)} (h : shF f) : topS (fmW f) = true ∧ frmS (fmW f) = f ∧ wrdS (fmW f) = true := by
 obtain ⟨⟨h1, h2, h3⟩, ha⟩ := id h
 obtain ⟨x, y, A⟩ := f
 have h1' : 1 ≤ x ∧ x ≤ 4 := h1
 have h2' : x ≤ y ∧ y ≤ 8 := h2
 have h3' : A.length ≤ 16 := h3
 refine ⟨?_, ?_, ?_⟩
 ·unfold topS fmW
  simp only [List.length_cons, List.length_map, List.headD_cons, beq_self_eq_true]
  simp
  omega
 ·unfold frmS fmW
  simp only [List.getD_cons_succ, List.getD_cons_zero, List.drop_succ_cons, List.drop_zero, List.map_map]
  rw [numS_dec (by omega) (by omega), numS_dec (by omega) (by omega)]
  refine Prod.ext rfl (Prod.ext rfl ?_)
  exact (List.map_congr_left fun a ham => (atomS_wd (ha a ham) (by omega)).1).trans (List.map_id A)
 ·unfold wrdS fmW
  simp only [List.getD_cons_succ, List.getD_cons_zero, List.drop_succ_cons, List.drop_zero]
  rw [numS_dec (by omega) (by omega), numS_dec (by omega) (by omega)]
  simp only [Bool.true_and, List.all_map, List.all_eq_true]
  exact fun a ham => (atomS_wd (ha a ham) (by omega)).2
/-- what ReadFormula answers: the formula with this text, if there is one -/
def rfP (t : List UInt8) (f : Int × Int × List (Int × List Int)) : Prop := shF f ∧ txF f = t
theorem rfP_one {t : List UInt8} {f g : Int × Int × List (Int × List Int)} (h : rfP t f) (h' : rfP t g) : f = g := by
 have e1 := words_I h.1
 have e2 := words_I h'.1
 rw [h.2] at e1
 rw [h'.2, e1] at e2
 rw [← frmI_of h.1, e2, frmI_of h'.1]
noncomputable def rfC (t : List UInt8) : Int := match decide ((20000 : Int) < ((t.length : Nat) : Int)) with
 | true => 2
 | false => match tb (∃ f, rfP t f) with
  | true => 0
  | false => 5
open Classical in
noncomputable def rfV (t : List UInt8) : Int × Int × List (Int × List Int) := if h : rfC t = 0 ∧ ∃ f, rfP t f then Classical.choose h.2 else (0, 0, [])
theorem rf_ok {t : List UInt8} {f : Int × Int × List (Int × List Int)} (hl : decide ((20000 : Int) < ((t.length : Nat) : Int)) = false) (h : rfP t f) : rfC t = 0 ∧ rfV t = f := by
 have hc : rfC t = 0 := by simp only [rfC, hl, tb_true (⟨f, h⟩ : ∃ f, rfP t f)]
 have hx : rfC t = 0 ∧ ∃ f, rfP t f := ⟨hc, f, h⟩
 refine ⟨hc, ?_⟩
 unfold rfV
 rw [dif_pos hx]
 exact rfP_one (Classical.choose_spec hx.2) h
theorem rf_no {t : List UInt8} (hl : decide ((20000 : Int) < ((t.length : Nat) : Int)) = false) (h : ¬ ∃ f, rfP t f) : rfC t = 5 ∧ rfV t = (0, 0, []) := by
 have hc : rfC t = 5 := by simp only [rfC, hl, tb_false h]
 refine ⟨hc, ?_⟩
 unfold rfV
 rw [dif_neg (fun hx => h hx.2)]
theorem rf_big {t : List UInt8} (hl : decide ((20000 : Int) < ((t.length : Nat) : Int)) = true) : rfC t = 2 ∧ rfV t = (0, 0, []) := by
 have hc : rfC t = 2 := by simp only [rfC, hl]
 refine ⟨hc, ?_⟩
 unfold rfV
 rw [dif_neg (fun hx => by rw [hc] at hx; exact absurd hx.1 (by decide))]
/-- the program's last test -/
theorem rfI_iff {t : List UInt8} (h3 : 3 ≤ (Lib.split t [32]).length) : ftV (frmI (Lib.split t [32])) = t ↔ ∃ f, rfP t f := by
 constructor
 ·intro h
  by_cases hs : shF (frmI (Lib.split t [32]))
  ·exact ⟨_, hs, by rw [← ft_yes hs]; exact h⟩
  ·rw [ft_no hs] at h
   subst h
   exact absurd h3 (by decide)
 ·rintro ⟨f, hf⟩
  have e := words_I hf.1
  rw [hf.2] at e
  rw [e, frmI_of hf.1, ft_yes hf.1]
  exact hf.2
theorem rfI_val {t : List UInt8} {f : Int × Int × List (Int × List Int)} (h : rfP t f) : frmI (Lib.split t [32]) = f := by
 have e := words_I h.1
 rw [h.2] at e
 rw [e, frmI_of h.1]
/-- the reference's -/
theorem rfS_of {t : List UInt8} {f : Int × Int × List (Int × List Int)} (h : rfP t f) : topS (cutS 32 t) = true ∧ wrdS (cutS 32 t) = true ∧ frmS (cutS 32 t) = f := by
 have e := words_S h.1
 rw [h.2] at e
 rw [e]
 obtain ⟨h1, h2, h3⟩ := frmS_of h.1
 exact ⟨h1, h3, h2⟩
theorem rf_cnt {t : List UInt8} : cntFrm (rfV t) ≤ 1000000 := by
 unfold rfV
 split
 ·rename_i hx
  obtain ⟨⟨⟨h1, h2, h3⟩, ha⟩, -⟩ := Classical.choose_spec hx.2
  generalize Classical.choose hx.2 = f at *
  have h4 := sumL_bd (f := cntOp1) (c := 8) (xs := f.2.2) (fun y hy => by
   have := (ha y hy).2.1
   unfold cntOp1 cntI
   omega)
  unfold cntFrm cntOps
  omega
 ·decide
end Go.Proofs.YtmnjlhcbabhhlaaGreatDoor
namespace Go.Proofs.YtmnjlhcbabhhlaaGreatDoor
open Go.RowKit Go.Sort
theorem shF_any {x : Int × Int × List (Int × List Int)} (h1 : frameOk x) : (!anyB (fun c => !tb (shC x.2.1 (-1) c)) x.2.2) = tb (shF x) := by
 rw [Bool.eq_iff_iff, tb_iff]
 simp only [anyB, shF, h1, true_and, Bool.not_eq_true', List.any_eq_false, Bool.not_eq_false, tb_iff]
theorem Bl.str3 {w : World} {e : Nat} {a b c : List UInt8} {n : Nat} (hn : n = w.heap.size) : Bl Ty.str e w.heap.size (w.heap.size + 1) (w.alloc (.cells #[.string ⟨a.toArray⟩, .string ⟨b.toArray⟩, .string ⟨c.toArray⟩] e)) (.slice (some ⟨n, 0, none⟩) 3 3) [a, b, c] := by
 subst hn
 refine ⟨[.string ⟨a.toArray⟩, .string ⟨b.toArray⟩, .string ⟨c.toArray⟩], fun _ => [], World.ownsRow_lit w _ 3 (Nat.le_refl _) (by decide) rfl, fun i h => ?_, (List.nodup_nil : ([] : List Nat).Nodup), fun b hb => absurd (show b ∈ ([] : List Nat) from hb) (by simp), by simp [Value.ownBlock], fun b hb => absurd (show b ∈ ([] : List Nat) from hb) (by simp)⟩
 have h' : i < 3 := h
 match i, h' with
 | 0, _ => exact ⟨[.string ⟨a.toArray⟩], ⟨rfl, rfl⟩, fun j hj => by simp at hj; subst hj; rfl⟩
 | 1, _ => exact ⟨[.string ⟨b.toArray⟩], ⟨rfl, rfl⟩, fun j hj => by simp at hj; subst hj; rfl⟩
 | 2, _ => exact ⟨[.string ⟨c.toArray⟩], ⟨rfl, rfl⟩, fun j hj => by simp at hj; subst hj; rfl⟩
set_option maxHeartbeats 3200000 in
set_option maxRecDepth 100000 in
theorem isWritten_any (w : World) {cs : Array Value} {x : Int × Int × List (Int × List Int)} (h : frmT.Rd w cs.toList x) :
  Calls Tryz.prog 31 #[.agg cs] w fun e w' => e = .returned (.bool (tb (shF x))) ∧ Below w.heap.size w w' := by
 have hx := h
 obtain ⟨v, hv, hI, hI2, hy⟩ := trip_ex h
 obtain rfl := agg_of hv
 obtain ⟨ad, cap, rfl⟩ := rd_slice hy
 have HP : Hid (frmT.Pt (w.alloc (.cells #[.int .i64 x.1, .int .i64 x.2.1, .slice ad x.2.2.length cap] 24)) (.pointer (some ⟨w.heap.size, 0, none⟩)) x) := pt_box hx
 have HX := Lib.hid (hx.below (bA (o := .cells #[.int .i64 x.1, .int .i64 x.2.1, .slice ad x.2.2.length cap] 24)))
 have HY := Lib.hid (hy.below (bA (o := .cells #[.int .i64 x.1, .int .i64 x.2.1, .slice ad x.2.2.length cap] 24)))
 clear h hv hx hy
 cases hF : tb (frameOk x)
 ·have HN : Hid (false = tb (shF x)) := (tb_false fun hh => by rw [tb_true hh.1] at hF; cases hF).symm
  go_enter Tryz.func31, Tryz.ntmps31
  go_wp2_with fail
  refine (isFrame_any _ HX.out).mono ?_
  rintro e w1 ⟨rfl, hb1⟩
  rw [hF]
  go_wp2_with fail
  go_ret
  exact ⟨ret_bool HN.out, bthen bA hb1⟩
 have hF' := tb_iff.1 hF
 have HQ := Lib.hid (shF_any hF')
 have HV := Lib.hid (shF_v hF')
 clear hF'
 go_enter Tryz.func31, Tryz.ntmps31
 go_wp2_with fail
 refine (isFrame_any _ HX.out).mono ?_
 rintro e w1 ⟨rfl, hb1⟩
 rw [hF]
 have c2 : w1.cell? ⟨w.heap.size, 2, none⟩ = some (.slice ad x.2.2.length cap) := (cellB hb1 (by simp)).trans (by simp [go_sem])
 go_wp2_with fail
 refine (ContainsFuncAtom_any _ (HY.out.below hb1) (fun c => !tb (shC x.2.1 (-1) c)) 47 #[.pointer (some ⟨w.heap.size, 0, none⟩)] (enters Tryz.func47 (by kernel_rfl) rfl) (fun W hW k hk cs hcs => isWritten1_any W hcs ((HP.out.below hb1).below hW) HV.out.2.2.1 (by have := HV.out; omega))).mono ?_
 rintro e w2 ⟨rfl, hb2⟩
 go_wp2_with fail
 go_ret
 exact ⟨ret_bool HQ.out, bthen (bthen bA hb1) hb2⟩
set_option maxHeartbeats 3200000 in
set_option maxRecDepth 100000 in
theorem FormulaText_any (w : World) {cs : Array Value} {x : Int × Int × List (Int × List Int)} (h : frmT.Rd w cs.toList x) :
  Calls Tryz.prog 16 #[.agg cs] w fun e w' => e = .returned (.string ⟨(ftV x).toArray⟩) ∧ Below w.heap.size w w' := by
 have hx := h
 obtain ⟨v, hv, hI, hI2, hy⟩ := trip_ex h
 obtain rfl := agg_of hv
 obtain ⟨ad, cap, rfl⟩ := rd_slice hy
 have HX := Lib.hid (hx.below (bA (o := .cells #[.int .i64 x.1, .int .i64 x.2.1, .slice ad x.2.2.length cap] 24)))
 have HY := Lib.hid (hy.below (bA (o := .cells #[.int .i64 x.1, .int .i64 x.2.1, .slice ad x.2.2.length cap] 24)))
 clear h hv hx hy
 cases hS : tb (shF x)
 ·have HN : Hid (ftV x = []) := ft_no fun hh => by rw [tb_true hh] at hS; cases hS
  go_enter Tryz.func16, Tryz.ntmps16
  go_wp2_with fail
  refine (isWritten_any _ HX.out).mono ?_
  rintro e w1 ⟨rfl, hb1⟩
  rw [hS]
  go_wp2_with fail
  go_ret
  exact ⟨by rw [HN.out]; rfl, bthen bA hb1⟩
 have hsh := tb_iff.1 hS
 have HSH := Lib.hid hsh
 have HN := Lib.hid (ft_yes hsh)
 have HV := Lib.hid (shF_v hsh.1)
 clear hsh
 go_enter Tryz.func16, Tryz.ntmps16
 go_wp2_with fail
 refine (isWritten_any _ HX.out).mono ?_
 rintro e w1 ⟨rfl, hb1⟩
 rw [hS]
 have hB1 : Below w.heap.size w w1 := bthen bA hb1
 have c0 : w1.cell? ⟨w.heap.size, 0, none⟩ = some (.int .i64 x.1) := (cellB hb1 (by simp)).trans (by simp [go_sem])
 have c1 : w1.cell? ⟨w.heap.size, 1, none⟩ = some (.int .i64 x.2.1) := (cellB hb1 (by simp)).trans (by simp [go_sem])
 have c2 : w1.cell? ⟨w.heap.size, 2, none⟩ = some (.slice ad x.2.2.length cap) := (cellB hb1 (by simp)).trans (by simp [go_sem])
 have z1 : w.heap.size < w1.heap.size := by have := hb1.size; simp at this; omega
 have HY1 := Lib.hid (HY.out.below hb1)
 clear hb1 HX HY hS
 go_wp2_with fail
 refine wp_region_T (fun w' => w'.cell? ⟨w.heap.size, 0, none⟩ = some (.int .i64 x.1) ∧ w'.cell? ⟨w.heap.size, 1, none⟩ = some (.int .i64 x.2.1)) [6] (by kernel_rfl) ⟨c0, c1⟩ (fun hHeld => ?_)
 refine wpAnyT_take (i := 0) (v := ?_) rfl (by kernel_rfl) (fun _ _ _ h => h) (Or.inl ⟨by rfl, ?_⟩) (by assumption) ?_
 rotate_left
 ·(intro w hSw; (try dsimp only at hSw); go_simp <;> with_reducible rfl)
 try simp only [Act.put]
 refine wpAnyT_take (i := 1) (v := ?_) rfl (by kernel_rfl) (fun _ _ _ h => h) (Or.inl ⟨by rfl, ?_⟩) (by assumption) ?_
 rotate_left
 ·(intro w hSw; (try dsimp only at hSw); go_simp <;> with_reducible rfl)
 try simp only [Act.put]
 refine wpAnyT_take (i := 3) (v := ?_) rfl (by kernel_rfl) (fun _ _ _ h => h) (Or.inl ⟨by rfl, ?_⟩) (by assumption) ?_
 rotate_left
 ·(intro w hSw; (try dsimp only at hSw); go_simp <;> with_reducible rfl)
 try simp only [Act.put]
 refine wpAnyT_take (i := 4) (v := ?_) rfl (by kernel_rfl) (fun _ _ _ h => h) (Or.inl ⟨by rfl, ?_⟩) (by assumption) ?_
 rotate_left
 ·(intro w hSw; (try dsimp only at hSw); go_simp <;> with_reducible rfl)
 try simp only [Act.put]
 refine wpAnyT_one (i := 2) rfl (by kernel_rfl) (fun K hK => ?_)
 go_simp
 go_at_call 27
 refine (dec_any _ (by have := HV.out; omega) (by have := HV.out; omega)).mono ?_
 rintro e w' ⟨rfl, rfl⟩
 dsimp only
 refine hK.out _ _ ⟨c0, c1⟩ (fun hHeld => ?_)
 clear hK K
 refine wpAnyT_one (i := 5) rfl (by kernel_rfl) (fun K hK => ?_)
 go_simp
 go_at_call 27
 refine (dec_any _ (by have := HV.out; omega) (by have := HV.out; omega)).mono ?_
 rintro e w' ⟨rfl, rfl⟩
 dsimp only
 refine hK.out _ _ ⟨c0, c1⟩ (fun hHeld => ?_)
 clear hK K
 refine wpAnyT_last (i := 6) rfl (by kernel_rfl) (by kernel_rfl) (fun K hK => ?_)
 go_simp
 refine hK.out _ _ ?_
 clear hK K
 refine wpAnyT_any (i := 7) (v := ?_) rfl (by kernel_rfl) (fun _ _ _ h => h) (Or.inl ⟨by rfl, ?_⟩) (by first | exact fun _ => by assumption | (intro hp; exact absurd hp (by rw [show pastB _ _ = true by kernel_rfl]; simp))) ?_
 rotate_left
 ·(intro w hSw; (try dsimp only at hSw); go_simp <;> with_reducible rfl)
 try simp only [Act.put]
 refine wpAnyT_done (by kernel_rfl) ?_ _
 go_simp
 generalize hW : World.drew (World.alloc w1 _) = w3
 have hb3 : Below w1.heap.size w1 w3 := hW ▸ (bA.drew)
 have HB3 : Hid (Bl Ty.str 9 w1.heap.size w3.heap.size w3 (.slice (some ⟨w1.heap.size, 0, none⟩) 3 3) [[102, 111, 114, 109, 117, 108, 97], decB x.1, decB x.2.1]) := by
  rw [← hW]
  exact ((Bl.str3 (w := w1) rfl).below bD (by simp)).mono (by simp)
 replace c0 := (cellB hb3 (by omega)).trans c0
 replace c1 := (cellB hb3 (by omega)).trans c1
 replace c2 := (cellB hb3 (by omega)).trans c2
 have hz3 := hb3.size
 have hl16 : x.2.2.length ≤ 16 := HV.out.2.2.2.2
 clear hW
 go_wp2_with fail
 go_loopw [3, 20] (fun s i wr => ∃ k : Nat, k ≤ x.2.2.length ∧ i = .int .i64 k ∧ Bl Ty.str 9 w1.heap.size wr.heap.size wr s ([[102, 111, 114, 109, 117, 108, 97], decB x.1, decB x.2.1] ++ (x.2.2.take k).map wdT) ∧ Below w1.heap.size w1 wr) (fun _ i _ => x.2.2.length - (intOf i).toNat)
 case atStart => exact ⟨0, Nat.zero_le _, rfl, by simpa using HB3.out, hb3⟩
 case round =>
  obtain ⟨k, hk, rfl, hBl, hbr⟩ := hrel
  obtain ⟨wv, rfl⟩ : ∃ wv : World, wv = wr := ⟨_, rfl⟩
  have HB := Lib.hid hBl
  have hzr := hbr.size
  have hlt : (x.2.2.take k).length ≤ 16 := by rw [List.length_take]; omega
  obtain ⟨wa, nw, cw, rfl⟩ := ex_sl (hBl.fr (by simp; unfold capMax; omega))
  clear hBl
  by_cases hkl : k < x.2.2.length
  ·obtain ⟨b, o, rfl, hp⟩ := rd_elem HY1.out hkl
   have hp' : opT.Pt w1 (.pointer (some ⟨b, o + k * 2, none⟩)) x.2.2[k] := hp
   obtain ⟨_, _, a1, k1, hbo, hb1, hI1, f0, f1, hs⟩ := pt_pair hp'
   simp only [Value.pointer.injEq, Option.some.injEq, Addr.mk.injEq, and_true] at hbo
   obtain ⟨rfl, rfl⟩ := hbo
   have g0 := (cellB hbr hb1).trans f0
   have g1 := (cellB hbr hb1).trans f1
   have HS' := Lib.hid (hs.below hbr)
   have hck := HSH.out.2 _ (List.getElem_mem hkl)
   have hx8 : x.2.1 ≤ 10 := by have := HV.out; omega
   have HSN : Hid ((x.2.2.take k).map wdT ++ [wdT x.2.2[k]] = (x.2.2.take (k + 1)).map wdT) := by
    unfold Hid
    rw [← take_snoc hkl, List.map_append]
    rfl
   have HIN : Hid (∀ a ∈ (x.2.2[k]).2, 0 ≤ a ∧ a < 100) := fun a ha => by have := shC_dec hck hx8 a ha; omega
   have HRL : Hid (-1 ≤ (x.2.2[k]).1 ∧ (x.2.2[k]).1 ≤ 5) := hck.1
   have HL3 : Hid ((x.2.2[k]).2.length ≤ 1000) := by unfold Hid; have := hck.2.1; omega
   have HDL : Hid ((catL decB [] (x.2.2[k]).2).length ≤ 1000) := by
    unfold Hid
    have h1 := catL_len (f := decB) (hd := []) (xs := (x.2.2[k]).2) (B := 2) fun a ha => (@dec_len a (by have := shC_dec hck hx8 a ha; omega)).2
    have := hck.2.1
    simp at h1; omega
   clear hp hp' f0 f1 hs hck
   generalize x.2.2[k] = c at *
   cases hr : (c.1 != -1)
   ·have HWD : Hid (wdT c = cat (cat [61] [58]) (catL decB [] c.2)) := by unfold Hid wdT wdP; rw [hr]
    have ha1 : ∀ W : World, (Op.stringOp .add ⟨#[61]⟩ ⟨#[58]⟩).run Tryz.prog W = .ok (.string ⟨(cat [61] [58]).toArray⟩) W := fun W => add_cat W _ _ (by decide)
    have ha2 : ∀ W : World, (Op.stringOp .add ⟨(cat [61] [58]).toArray⟩ ⟨(catL decB [] c.2).toArray⟩).run Tryz.prog W = .ok (.string ⟨(wdT c).toArray⟩) W := fun W => by
     rw [HWD.out]; exact add_cat W _ _ (by rw [cat_len]; have := HDL.out; (simp; omega))
    go_wp2_with (first | (go_at_call 27; refine (dec_any _ (by have := HRL.out; omega) (by have := HRL.out; omega)).mono ?_; rintro e w' ⟨rfl, rfl⟩) | (go_at_call 32; refine (digits_any _ (HS'.out.below bA) HIN.out HL3.out).mono ?_; rintro e w' ⟨rfl, rfl⟩) | (at_builtin; go_loud (refine wpList_push (E := Ty.str) _ rfl _ _ 30 9 rfl elStr rfl (HB.out.below (bA.alloc (by simp) _) (Nat.le_refl _)) rfl (news1s (by simp)) fr_str (by simp; omega) (by decide) (by omega) (by first | (simp; done) | (simp; omega)) ?_; intro v1 w5 hB1 hg1 _)))
    have hb5 : RowKit.Below w1.heap.size w1 w5 := ((hbr.alloc hbr.size _).alloc (by simp; omega) _).grown hg1 (by simp; omega) (fun q hq => HB.out.own hq)
    rw [List.append_assoc, HSN.out] at hB1
    have HB1 := Lib.hid hB1
    clear hB1 hg1
    go_wp2_with fail
    go_roundw
    case rel => exact ⟨k + 1, by omega, by go_num, HB1.out, hb5⟩
    case measure => simp [intOf]; omega
   ·have hne : c.1 ≠ -1 := by simpa using hr
    have HRL : Hid (0 ≤ c.1 ∧ c.1 ≤ 5) := by have := HRL.out; unfold Hid; omega
    have HWD : Hid (wdT c = cat (cat (cat [82] (decB c.1)) [58]) (catL decB [] c.2)) := by unfold Hid wdT wdP; rw [hr]
    have hd2 := (@dec_len c.1 (by have := HRL.out; omega)).2
    have ha0 : ∀ W : World, (Op.stringOp .add ⟨#[82]⟩ ⟨(decB c.1).toArray⟩).run Tryz.prog W = .ok (.string ⟨(cat [82] (decB c.1)).toArray⟩) W := fun W => add_cat W _ _ (by simp; omega)
    clear hne
    have ha1 : ∀ W : World, (Op.stringOp .add ⟨(cat [82] (decB c.1)).toArray⟩ ⟨#[58]⟩).run Tryz.prog W = .ok (.string ⟨(cat (cat [82] (decB c.1)) [58]).toArray⟩) W := fun W => add_cat W _ _ (by (rw [cat_len]; simp; omega))
    have ha2 : ∀ W : World, (Op.stringOp .add ⟨(cat (cat [82] (decB c.1)) [58]).toArray⟩ ⟨(catL decB [] c.2).toArray⟩).run Tryz.prog W = .ok (.string ⟨(wdT c).toArray⟩) W := fun W => by
     rw [HWD.out]; exact add_cat W _ _ (by rw [cat_len]; have := HDL.out; (rw [cat_len]; simp; omega))
    go_wp2_with (first | (go_at_call 27; refine (dec_any _ (by have := HRL.out; omega) (by have := HRL.out; omega)).mono ?_; rintro e w' ⟨rfl, rfl⟩) | (go_at_call 32; refine (digits_any _ (HS'.out.below bA) HIN.out HL3.out).mono ?_; rintro e w' ⟨rfl, rfl⟩) | (at_builtin; go_loud (refine wpList_push (E := Ty.str) _ rfl _ _ 30 9 rfl elStr rfl (HB.out.below (bA.alloc (by simp) _) (Nat.le_refl _)) rfl (news1s (by simp)) fr_str (by simp; omega) (by decide) (by omega) (by first | (simp; done) | (simp; omega)) ?_; intro v1 w5 hB1 hg1 _)))
    have hb5 : RowKit.Below w1.heap.size w1 w5 := ((hbr.alloc hbr.size _).alloc (by simp; omega) _).grown hg1 (by simp; omega) (fun q hq => HB.out.own hq)
    rw [List.append_assoc, HSN.out] at hB1
    have HB1 := Lib.hid hB1
    clear hB1 hg1
    go_wp2_with fail
    go_roundw
    case rel => exact ⟨k + 1, by omega, by go_num, HB1.out, hb5⟩
    case measure => simp [intOf]; omega
  ·obtain rfl : k = x.2.2.length := by omega
   have HF := Lib.hid (HB.out.fr (by simp; unfold capMax; omega)).rd
   have HT : Hid ([[102, 111, 114, 109, 117, 108, 97], decB x.1, decB x.2.1] ++ (x.2.2.take x.2.2.length).map wdT = [102, 111, 114, 109, 117, 108, 97] :: decB x.1 :: decB x.2.1 :: x.2.2.map wdT) := by unfold Hid; rw [List.take_length]; rfl
   unfold Hid at HF
   rw [HT.out] at HF
   have HF' := Lib.hid HF
   have HTX : Hid (Lib.join ([102, 111, 114, 109, 117, 108, 97] :: decB x.1 :: decB x.2.1 :: x.2.2.map wdT) [32] = ftV x) := by rw [HN.out]; exact frm_join x
   have HTL : Hid ((Lib.join ([102, 111, 114, 109, 117, 108, 97] :: decB x.1 :: decB x.2.1 :: x.2.2.map wdT) [32]).length ≤ 1000000000) := by
    unfold Hid
    rw [HTX.out, HN.out]
    have := txF_len HSH.out x.2.2.length
    rw [List.take_length] at this
    exact Nat.le_trans this (by omega)
   clear HF HB
   go_wp2_with (go_at_call 33; refine (Join_any _ HF'.out [32] HTL.out).mono ?_; rintro e w6 ⟨rfl, hb6⟩; rw [HTX.out])
   go_ret
   exact ⟨rfl, bthen hB1 (bthen hbr hb6)⟩
end Go.Proofs.YtmnjlhcbabhhlaaGreatDoor
namespace Go.Proofs.YtmnjlhcbabhhlaaGreatDoor
open Go.RowKit Go.Sort
theorem pure_drawn {P : Program} {f : FuncId} {args : Array Value} {w : World} {n : Nat} {v : Value} (h : Calls P f args (w.drewN n) fun e w' => e = .returned v ∧ w.drewN n = w') :
  Calls P f args (w.drewN n) fun e w'' => e = .returned v ∧ ∃ m, w'' = w.drewN m := h.mono fun _ _ ⟨he, hw⟩ => ⟨he, n, hw.symm⟩
theorem noneB_all {α : Type} {p : α → Prop} {xs : List α} (h : noneB (fun c => !tb (p c)) (xs.take xs.length)) : ∀ c ∈ xs, p c := fun c hc => by
 have := h c (by rw [List.take_length]; exact hc)
 simpa [tb_iff] using this
end Go.Proofs.YtmnjlhcbabhhlaaGreatDoor
namespace Go.Proofs.YtmnjlhcbabhhlaaGreatDoor
open Go.RowKit Go.Sort
theorem catL_cat {α : Type} {f : α → List UInt8} {C d : List UInt8} {xs : List α} : catL f (cat C d) xs = cat C (catL f d xs) := by simp [catL, cat]
end Go.Proofs.YtmnjlhcbabhhlaaGreatDoor
namespace Go.Proofs.YtmnjlhcbabhhlaaGreatDoor
open Go.RowKit Go.Sort
theorem atP_eq {a : Int × List Int} (h : (a.1 == -1) = true) : atP a = [32, 61, 58] := by unfold atP; rw [h]
theorem atP_ne {a : Int × List Int} (h : (a.1 == -1) = false) : atP a = cat (cat [32, 82] (decB a.1)) [58] := by unfold atP; rw [h]
set_option maxHeartbeats 1600000 in
set_option maxRecDepth 100000 in
theorem l03Shown_quiet (w : World) {vx : Value} {x : Int × Int × List (Int × List Int)} (hxp : frmT.Pt w vx x) :
  Calls Tryz.prog 11 #[vx] w fun e w' => e = .returned (.bool (tb (shF x))) ∧ Quiet w w' := by
 have HP := Lib.hid hxp
 obtain ⟨b', o', ad', cap', rfl, hb', -, -, c0', c1', c2', hx⟩ := pt_trip hxp
 obtain ⟨_, _, e1, hle', hle2', hcell⟩ := pairs_ex hx
 simp only [List.cons.injEq, Value.slice.injEq, and_true, true_and] at e1
 obtain ⟨rfl, rfl⟩ := e1
 clear hxp
 cases hF : tb (frameOk x)
 ·go_enter Tryz.func11, Tryz.ntmps11
  go_wp2_with fail
  refine (l03Counts_quiet _ HP.out).mono ?_
  rintro e w1 ⟨rfl, hq1⟩
  rw [hF]
  go_wp2_with fail
  go_ret
  exact ⟨ret_bool (tb_false (fun hh => by have := tb_true hh.1; rw [hF] at this; cases this)).symm, hq1⟩
 have HN := Lib.hid (tb_iff.1 hF)
 have HV := Lib.hid (shF_v (tb_iff.1 hF))
 go_enter Tryz.func11, Tryz.ntmps11
 go_wp2_with fail
 refine (l03Counts_quiet _ HP.out).mono ?_
 rintro e w1 ⟨rfl, hq1⟩
 rw [hF]
 go_wp2_with fail
 go_loopw [3, 4] (fun i _ wr => ∃ k : Nat, k ≤ x.2.2.length ∧ i = .int .i64 k ∧ noneB (fun c => !tb (shC x.2.1 (-1) c)) (x.2.2.take k) ∧ Quiet w wr) (fun i _ _ => x.2.2.length - (intOf i).toNat)
 case atStart => exact ⟨0, Nat.zero_le _, rfl, noneB_zero _ _, hq1⟩
 case round =>
  obtain ⟨k, hk, rfl, hne, hqw⟩ := hrel
  have HNE := Lib.hid hne
  have g0 := (hqw.below.cell hb').trans c0'
  have g1 := (hqw.below.cell hb').trans c1'
  have g2 := (hqw.below.cell hb').trans c2'
  clear hne c0' c1' c2'
  by_cases hkl : k < x.2.2.length
  ·obtain ⟨a, q, rfl, haa, hce⟩ := hcell (by omega)
   obtain ⟨u, hu, hI, f0, f1⟩ := hce k hkl
   have e0 := (hqw.below.cell haa).trans f0
   have e1 := (hqw.below.cell haa).trans f1
   obtain ⟨_, _, hu0, -, hlu, -⟩ := ints_ex hu
   simp only [List.cons.injEq, and_true] at hu0
   subst hu0
   clear hcell hce f0 f1
   have cW : ∀ n, Calls Tryz.prog 21 #[.int .i64 (x.2.2[k]).1, .int .i64 (-1), .int .i64 5] (wr.drewN n) fun e w'' => e = .returned (.bool (inB (x.2.2[k]).1 (-1) 5)) ∧ ∃ m, w'' = wr.drewN m := fun n => pure_drawn (l00In_any _ _ _ _)
   cases hi : inB (x.2.2[k]).1 (-1) 5
   ·rw [hi] at cW
    go_wp2_with fail
    go_quiet (exact cW _)
    go_wp2_with fail
    go_ret
    exact ⟨ret_bool (tb_false (fun hh => by have := inB_true.2 (hh.2 _ (List.getElem_mem hkl)).1; rw [hi] at this; cases this)).symm, hqw.then (by first | exact Quiet.refl _ | exact Quiet.drewN _ _ | exact (Quiet.drewN _ _).then (Quiet.drewN _ _) | exact ((Quiet.drewN _ _).then (Quiet.drewN _ _)).then (Quiet.drewN _ _))⟩
   have HI := Lib.hid (inB_true.1 hi)
   rw [hi] at cW
   have cA : ∀ n, Calls Tryz.prog 22 #[.int .i64 ((x.2.2[k]).2.length : Int)] (wr.drewN n) fun e w'' => e = .returned (.bool (inB ((x.2.2[k]).2.length : Int) 1 4)) ∧ ∃ m, w'' = wr.drewN m := fun n => pure_drawn (l01Arity_any _ _)
   cases hm : inB ((x.2.2[k]).2.length : Int) 1 4
   ·rw [hm] at cA
    go_wp2_with fail
    go_quiet (first | exact cW _ | exact cA _)
    go_wp2_with fail
    go_ret
    exact ⟨ret_bool (tb_false (fun hh => by have := inB_true.2 (hh.2 _ (List.getElem_mem hkl)).2.1; rw [hm] at this; cases this)).symm, hqw.then (by first | exact Quiet.refl _ | exact Quiet.drewN _ _ | exact (Quiet.drewN _ _).then (Quiet.drewN _ _) | exact ((Quiet.drewN _ _).then (Quiet.drewN _ _)).then (Quiet.drewN _ _))⟩
   have HM := Lib.hid (inB_true.1 hm)
   rw [hm] at cA
   have hu' := hu.below hqw.below
   have h0 : 0 ≤ x.2.1 := HV.out.2.2.1
   have h1 : x.2.1 ≤ 1000000000000 := by have := HV.out; omega
   have cV : ∀ n, Calls Tryz.prog 23 #[.slice _ _ _, .int .i64 x.2.1] (wr.drewN n) fun e w'' => e = .returned (.bool (tb (rowOk x.2.1 (x.2.2[k]).2.length (x.2.2[k]).2))) ∧ ∃ m, w'' = wr.drewN m := fun n => pure_drawn (l01Places_any _ _ (hu'.below (Quiet.drewN wr n).below) h0 h1)
   clear h0 h1
   cases hv : tb (rowOk x.2.1 (x.2.2[k]).2.length (x.2.2[k]).2)
   ·rw [hv] at cV
    go_wp2_with fail
    go_quiet (first | exact cW _ | exact cA _ | exact cV _)
    go_wp2_with fail
    go_ret
    exact ⟨ret_bool (tb_false (fun hh => by have := tb_true (hh.2 _ (List.getElem_mem hkl)).2.2; rw [hv] at this; cases this)).symm, hqw.then (by first | exact Quiet.refl _ | exact Quiet.drewN _ _ | exact (Quiet.drewN _ _).then (Quiet.drewN _ _) | exact ((Quiet.drewN _ _).then (Quiet.drewN _ _)).then (Quiet.drewN _ _))⟩
   have HV2 := Lib.hid (tb_iff.1 hv)
   rw [hv] at cV
   have HS : Hid ((!tb (shC x.2.1 (-1) x.2.2[k])) = false) := by unfold Hid; rw [tb_true ⟨HI.out, HM.out, HV2.out⟩]; rfl
   have hl24 := HV.out.2.2.2.2
   go_wp2_with fail
   go_quiet (first | exact cW _ | exact cA _ | exact cV _)
   go_wp2_with fail
   go_roundw
   case rel => exact ⟨k + 1, by omega, by go_num, noneB_succ hkl HNE.out HS.out, hqw.then (by first | exact Quiet.refl _ | exact Quiet.drewN _ _ | exact (Quiet.drewN _ _).then (Quiet.drewN _ _) | exact ((Quiet.drewN _ _).then (Quiet.drewN _ _)).then (Quiet.drewN _ _))⟩
   case measure => simp [intOf]; omega
  ·obtain rfl : k = x.2.2.length := by omega
   go_wp2_with fail
   go_ret
   exact ⟨ret_bool (tb_true ⟨HN.out, noneB_all HNE.out⟩).symm, hqw⟩
set_option maxHeartbeats 3200000 in
set_option maxRecDepth 100000 in
theorem l03Text_any (w : World) {vx : Value} {x : Int × Int × List (Int × List Int)} (hxp : frmT.Pt w vx x) (hsh : shF x) :
  Calls Tryz.prog 12 #[vx] w fun e w' => e = .returned (.string ⟨(txF x).toArray⟩) ∧ Below w.heap.size w w' := by
 obtain ⟨b', o', ad', cap', rfl, hb', -, -, c0, c1, c2, hx⟩ := pt_trip hxp
 have HX := Lib.hid hx
 have HSH := Lib.hid hsh
 have HV := Lib.hid (shF_v hsh.1)
 have HTL := Lib.hid fun k => txF_len hsh k
 have hd := (@dec_len x.1 (by have := HV.out; omega)).2
 have hd' := (@dec_len x.2.1 (by have := HV.out; omega)).2
 have ha1 : ∀ W : World, (Op.stringOp .add ⟨#[102, 111, 114, 109, 117, 108, 97, 32]⟩ ⟨(decB x.1).toArray⟩).run Tryz.prog W = .ok (.string ⟨(cat [102, 111, 114, 109, 117, 108, 97, 32] (decB x.1)).toArray⟩) W := fun W => add_cat W _ _ (by simp; omega)
 have ha2 : ∀ W : World, (Op.stringOp .add ⟨(cat [102, 111, 114, 109, 117, 108, 97, 32] (decB x.1)).toArray⟩ ⟨#[32]⟩).run Tryz.prog W = .ok (.string ⟨(cat (cat [102, 111, 114, 109, 117, 108, 97, 32] (decB x.1)) [32]).toArray⟩) W := fun W => add_cat W _ _ (by rw [cat_len]; simp; omega)
 have ha3 : ∀ W : World, (Op.stringOp .add ⟨(cat (cat [102, 111, 114, 109, 117, 108, 97, 32] (decB x.1)) [32]).toArray⟩ ⟨(decB x.2.1).toArray⟩).run Tryz.prog W = .ok (.string ⟨(fmH x).toArray⟩) W := fun W => add_cat W _ _ (by rw [cat_len, cat_len]; simp; omega)
 clear hxp hx hsh hd hd'
 have k0 := cell_regrown c0
 have k1 := cell_regrown c1
 have cD : ∀ d os, Calls Tryz.prog 24 #[.int .i64 x.1] (grow (redrawn w d) os) fun e w'' => e = .returned (.string ⟨(decB x.1).toArray⟩) ∧ ∃ p : Regrown, w'' = grow (redrawn w p.d) p.os := fun d os =>
  Calls.regrown_of (Decimal_any _ (by have := HV.out; omega) (by have := HV.out; omega))
 have cD' : ∀ d os, Calls Tryz.prog 24 #[.int .i64 x.2.1] (grow (redrawn w d) os) fun e w'' => e = .returned (.string ⟨(decB x.2.1).toArray⟩) ∧ ∃ p : Regrown, w'' = grow (redrawn w p.d) p.os := fun d os =>
  Calls.regrown_of (Decimal_any _ (by have := HV.out; omega) (by have := HV.out; omega))
 go_enter Tryz.func12, Tryz.ntmps12
 go_wp2_with fail
 refine wp_region_quiet_below (by kernel_rfl) (by kernel_rfl) ?_
 repeat (go_big_quiet_step (first | with_reducible exact cD _ _ | with_reducible exact cD' _ _))
 refine wpQuiet_nil ?_
 rintro w1 ⟨p, rfl⟩
 have hb1 := below_regrown w p.d p.os
 generalize grow (redrawn w p.d) p.os = w1 at *
 clear ha1 ha2 ha3 cD cD' k0 k1
 go_wp2_with fail
 go_loopw [3, 4] (fun c i wr => ∃ k : Nat, k ≤ x.2.2.length ∧ i = .int .i64 k ∧ c = .string ⟨(catL atT (fmH x) (x.2.2.take k)).toArray⟩ ∧ Below w.heap.size w wr) (fun _ i _ => x.2.2.length - (intOf i).toNat)
 case atStart => exact ⟨0, Nat.zero_le _, rfl, by rw [catL_zero], hb1⟩
 case round =>
  obtain ⟨k, hk, rfl, rfl, hbr⟩ := hrel
  obtain ⟨wv, rfl⟩ : ∃ wv : World, wv = wr := ⟨_, rfl⟩
  have hl24 := HV.out.2.2.2.2
  have g0 := (cellB hbr hb').trans c0
  have g1 := (cellB hbr hb').trans c1
  have g2 := (cellB hbr hb').trans c2
  by_cases hkl : k < x.2.2.length
  ·obtain ⟨b, o, rfl, hp⟩ := rd_elem HX.out hkl
   have hp' : opT.Pt w (.pointer (some ⟨b, o + k * 2, none⟩)) x.2.2[k] := hp
   obtain ⟨_, _, a1, k1, hbo, hbb, hI1, f0, f1, hs⟩ := pt_pair hp'
   simp only [Value.pointer.injEq, Option.some.injEq, Addr.mk.injEq, and_true] at hbo
   obtain ⟨rfl, rfl⟩ := hbo
   have e0 := (cellB hbr hbb).trans f0
   have e1 := (cellB hbr hbb).trans f1
   have hck := HSH.out.2 _ (List.getElem_mem hkl)
   have HST := Lib.hid (catL_succ (f := atT) (hd := fmH x) hkl)
   have hTL := HTL.out k
   have HIN : Hid (∀ a ∈ (x.2.2[k]).2, 0 ≤ a ∧ a < 10) := shC_dec hck (by have := HV.out; omega)
   have HRL : Hid (-1 ≤ (x.2.2[k]).1 ∧ (x.2.2[k]).1 ≤ 5) := hck.1
   have hl4 : (x.2.2[k]).2.length ≤ 4 := by have := hck.2.1; omega
   have hpl := atP_len (a := x.2.2[k]) hck.1.2
   obtain ⟨_, _, hs0, -, -, hsc⟩ := ints_ex hs
   simp only [List.cons.injEq, Value.slice.injEq, and_true, true_and] at hs0
   obtain ⟨rfl, rfl⟩ := hs0
   have HTC : Hid (atT x.2.2[k] = catL decB (atP x.2.2[k]) (x.2.2[k]).2) := rfl
   clear hp hp' hck hs
   generalize x.2.2[k] = c at *
   generalize catL atT (fmH x) (x.2.2.take k) = C at *
   have HCC : Hid (catL decB (cat C (atP c)) c.2 = cat C (atT c)) := by unfold Hid; rw [HTC.out, catL_cat]
   have hcl : (cat C (atP c)).length ≤ 2000 := by rw [cat_len]; omega
   cases hq : (c.1 == -1)
   ·have HRL : Hid (0 ≤ c.1 ∧ c.1 ≤ 5) := by have h1 := HRL.out; have h2 : c.1 ≠ -1 := (by simpa using hq); unfold Hid; omega
    have hdl := (@dec_len c.1 (by have := HRL.out; omega)).2
    have hap := atP_ne hq
    have ha1 : ∀ W : World, (Op.stringOp .add ⟨#[32, 82]⟩ ⟨(decB c.1).toArray⟩).run Tryz.prog W = .ok (.string ⟨(cat [32, 82] (decB c.1)).toArray⟩) W := fun W => add_cat W _ _ (by simp; omega)
    have ha2 : ∀ W : World, (Op.stringOp .add ⟨(cat [32, 82] (decB c.1)).toArray⟩ ⟨#[58]⟩).run Tryz.prog W = .ok (.string ⟨(atP c).toArray⟩) W := fun W => by rw [hap]; exact add_cat W _ _ (by rw [cat_len]; simp; omega)
    have ha3 : ∀ W : World, (Op.stringOp .add ⟨C.toArray⟩ ⟨(atP c).toArray⟩).run Tryz.prog W = .ok (.string ⟨(cat C (atP c)).toArray⟩) W := fun W => add_cat W _ _ (by omega)
    clear hap hdl
    go_wp2_with (go_at_call 24; refine (Decimal_any _ (by have := HRL.out; omega) (by have := HRL.out; omega)).mono ?_; rintro e w2 ⟨rfl, hb2⟩)
    have hB2 := bthen hbr hb2
    clear ha1 ha2 ha3 g0 g1 g2 e0 e1 hb2 hbr
    go_loopw [3, 5] (fun s i wr => ∃ j : Nat, j ≤ c.2.length ∧ i = .int .i64 j ∧ s = .string ⟨(catL decB (cat C (atP c)) (c.2.take j)).toArray⟩ ∧ Below w.heap.size w wr) (fun _ i _ => c.2.length - (intOf i).toNat)
    case atStart => exact ⟨0, Nat.zero_le _, rfl, by rw [catL_zero], hB2⟩
    case round =>
     obtain ⟨j, hj, rfl, rfl, hbs⟩ := hrel
     have g0 := (cellB hbs hb').trans c0
     have g1 := (cellB hbs hb').trans c1
     have g2 := (cellB hbs hb').trans c2
     have e1 := (cellB hbs hbb).trans f1
     by_cases hjl : j < c.2.length
     ·obtain ⟨bs, os, rfl, hbs2, hse⟩ := hsc (by omega)
      obtain ⟨hIj, hcj⟩ := hse j hjl
      have e2 := (cellB hbs hbs2).trans hcj
      have hin := HIN.out _ (List.getElem_mem hjl)
      have HS2 := Lib.hid (catL_succ (f := decB) (hd := cat C (atP c)) hjl)
      have hlen := catL_len (f := decB) (hd := cat C (atP c)) (xs := c.2.take j) (B := 2) fun y hy => (@dec_len y (by have := HIN.out y (List.mem_of_mem_take hy); omega)).2
      rw [List.length_take] at hlen
      have hlen' : (catL decB (cat C (atP c)) (c.2.take j)).length ≤ 3000 := by
       have : min j c.2.length ≤ 4 := by omega
       omega
      generalize catL decB (cat C (atP c)) (c.2.take j) = D at *
      generalize hz : c.2[j] = z at *
      have hdz := (@dec_len z (by omega)).2
      have ha4 : ∀ W : World, (Op.stringOp .add ⟨D.toArray⟩ ⟨(decB z).toArray⟩).run Tryz.prog W = .ok (.string ⟨(cat D (decB z)).toArray⟩) W := fun W => add_cat W _ _ (by omega)
      clear hz hlen hlen' hcj hse hdz hsc
      go_wp2_with (go_at_call 24; refine (Decimal_any _ (by omega) (by omega)).mono ?_; rintro e w3 ⟨rfl, hb3⟩)
      have hB3 := bthen hbs hb3
      go_roundw
      case rel => exact ⟨j + 1, by omega, by go_num, congrArg (fun l : List UInt8 => Value.string ⟨l.toArray⟩) HS2.out.symm, hB3⟩
      case measure => simp [intOf]; omega
     ·obtain rfl : j = c.2.length := by omega
      have HF : Hid (catL decB (cat C (atP c)) (c.2.take c.2.length) = cat C (atT c)) := by unfold Hid; rw [List.take_length, HCC.out]
      rw [HF.out]
      clear hsc
      go_wp2_with fail
      go_roundw
      case rel => exact ⟨k + 1, by omega, by go_num, by rw [HST.out], hbs⟩
      case measure => simp [intOf]; omega
   ·have hap := atP_eq hq
    have ha3 : ∀ W : World, (Op.stringOp .add ⟨C.toArray⟩ ⟨#[32, 61, 58]⟩).run Tryz.prog W = .ok (.string ⟨(cat C (atP c)).toArray⟩) W := fun W => by rw [hap]; exact add_cat W _ _ (by simp; omega)
    clear hap
    go_wp2_with fail
    have hB2 := hbr
    clear ha3 g0 g1 g2 e0 e1 hbr
    go_loopw [3, 5] (fun s i wr => ∃ j : Nat, j ≤ c.2.length ∧ i = .int .i64 j ∧ s = .string ⟨(catL decB (cat C (atP c)) (c.2.take j)).toArray⟩ ∧ Below w.heap.size w wr) (fun _ i _ => c.2.length - (intOf i).toNat)
    case atStart => exact ⟨0, Nat.zero_le _, rfl, by rw [catL_zero], hB2⟩
    case round =>
     obtain ⟨j, hj, rfl, rfl, hbs⟩ := hrel
     have g0 := (cellB hbs hb').trans c0
     have g1 := (cellB hbs hb').trans c1
     have g2 := (cellB hbs hb').trans c2
     have e1 := (cellB hbs hbb).trans f1
     by_cases hjl : j < c.2.length
     ·obtain ⟨bs, os, rfl, hbs2, hse⟩ := hsc (by omega)
      obtain ⟨hIj, hcj⟩ := hse j hjl
      have e2 := (cellB hbs hbs2).trans hcj
      have hin := HIN.out _ (List.getElem_mem hjl)
      have HS2 := Lib.hid (catL_succ (f := decB) (hd := cat C (atP c)) hjl)
      have hlen := catL_len (f := decB) (hd := cat C (atP c)) (xs := c.2.take j) (B := 2) fun y hy => (@dec_len y (by have := HIN.out y (List.mem_of_mem_take hy); omega)).2
      rw [List.length_take] at hlen
      have hlen' : (catL decB (cat C (atP c)) (c.2.take j)).length ≤ 3000 := by
       have : min j c.2.length ≤ 4 := by omega
       omega
      generalize catL decB (cat C (atP c)) (c.2.take j) = D at *
      generalize hz : c.2[j] = z at *
      have hdz := (@dec_len z (by omega)).2
      have ha4 : ∀ W : World, (Op.stringOp .add ⟨D.toArray⟩ ⟨(decB z).toArray⟩).run Tryz.prog W = .ok (.string ⟨(cat D (decB z)).toArray⟩) W := fun W => add_cat W _ _ (by omega)
      clear hz hlen hlen' hcj hse hdz hsc
      go_wp2_with (go_at_call 24; refine (Decimal_any _ (by omega) (by omega)).mono ?_; rintro e w3 ⟨rfl, hb3⟩)
      have hB3 := bthen hbs hb3
      go_roundw
      case rel => exact ⟨j + 1, by omega, by go_num, congrArg (fun l : List UInt8 => Value.string ⟨l.toArray⟩) HS2.out.symm, hB3⟩
      case measure => simp [intOf]; omega
     ·obtain rfl : j = c.2.length := by omega
      have HF : Hid (catL decB (cat C (atP c)) (c.2.take c.2.length) = cat C (atT c)) := by unfold Hid; rw [List.take_length, HCC.out]
      rw [HF.out]
      clear hsc
      go_wp2_with fail
      go_roundw
      case rel => exact ⟨k + 1, by omega, by go_num, by rw [HST.out], hbs⟩
      case measure => simp [intOf]; omega
  ·obtain rfl : k = x.2.2.length := by omega
   have HF : Hid (catL atT (fmH x) (x.2.2.take x.2.2.length) = txF x) := by unfold Hid; rw [List.take_length]; rfl
   go_wp2_with fail
   go_ret
   exact ⟨by rw [HF.out]; rfl, hbr⟩
end Go.Proofs.YtmnjlhcbabhhlaaGreatDoor
namespace Go.Proofs.YtmnjlhcbabhhlaaGreatDoor
open Go.RowKit Go.Sort
/-- a text as the machine holds it -/
def bs (t : List UInt8) : ByteArray := ⟨t.toArray⟩
theorem bs_size {t : List UInt8} : (bs t).size = t.length := by show t.toArray.size = _; simp
theorem bs_get {t : List UInt8} {i : Nat} (h : i < (bs t).size) : (bs t)[i] = t[i]'(by rw [← bs_size]; exact h) := by
 have hsz : i < t.toArray.size := h
 show t.toArray[i]'(hsz) = _
 exact List.getElem_toArray hsz
theorem bs_sub {t : List UInt8} {i j : Nat} : (bs t).extract i j = bs ((t.take j).drop i) := by
 apply ByteArray.ext
 show ((bs t).extract i j).data = ((t.take j).drop i).toArray
 apply Array.toList_inj.1
 rw [ByteArray.data_extract]
 show (t.toArray.extract i j).toList = _
 simp only [List.extract_toArray, List.extract_eq_take_drop]
 rw [List.drop_take]
/-- the same cut at a place -/
theorem cutTo_succ {b : UInt8} {t : List UInt8} {k : Nat} (h : k < t.length) : cutTo b (t.take (k + 1)) = cutStep b (cutTo b (t.take k)) t[k] := by
 unfold cutTo
 rw [List.take_succ_eq_append_getElem h, List.foldl_append]
 rfl
theorem cut_len {b : UInt8} : ∀ {t : List UInt8} {D : List (List UInt8)} {c : List UInt8}, (t.foldl (cutStep b) (D, c)).1.length ≤ D.length + t.length
 | [], D, c => by simp
 | x :: t, D, c => by
  rw [List.foldl_cons]
  cases hx : (x == b)
  ·have e : cutStep b (D, c) x = (D, c ++ [x]) := by simp only [cutStep, hx]
   rw [e]
   have := cut_len (b := b) (t := t) (D := D) (c := c ++ [x])
   simp only [List.length_cons]
   omega
  ·have e : cutStep b (D, c) x = (D ++ [c], []) := by simp only [cutStep, hx]
   rw [e]
   have := cut_len (b := b) (t := t) (D := D ++ [c]) (c := [])
   simp only [List.length_append, List.length_cons, List.length_nil] at this ⊢
   omega
theorem elStrB : ElT Tryz.prog 30 9 1 16 := .mk (z := .string ⟨#[]⟩) Tryz.underlying30 (by kernel_rfl) rfl (by decide)
theorem fr_bs {base : Nat} {w : World} {l : List UInt8} : Ty.str.Fr base w [.string (bs l)] l := fr_str
set_option maxHeartbeats 3200000 in
set_option maxRecDepth 100000 in
theorem l01Split_any (w : World) {t : List UInt8} {b : UInt8} (hl : t.length ≤ 100000) :
  Calls Tryz.prog 9 #[.string (bs t), .int .u8 b.toNat] w (RetS (Ty.slice Ty.str) w (cutS b t)) := by
 obtain ⟨S, hS⟩ : ∃ S, S = bs t := ⟨_, rfl⟩
 have hsz : S.size = t.length := by rw [hS, bs_size]
 have HG : Hid (∀ i (h : i < S.size) (h' : i < t.length), S[i] = t[i]) := fun i h h' => by subst hS; exact bs_get h
 have HX : Hid (∀ i j, S.extract i j = bs ((t.take j).drop i)) := fun i j => by rw [hS, bs_sub]
 rw [← hS]
 clear hS
 go_enter Tryz.func9, Tryz.ntmps9
 go_wp2_with fail
 go_loopw [7, 6, 5] (fun i f q wr => ∃ (k o : Nat), k ≤ t.length ∧ i = .int .i64 k ∧ f = .int .i64 o ∧ o ≤ k ∧ (cutTo b (t.take k)).2 = (t.take k).drop o ∧ Bl Ty.str 9 w.heap.size wr.heap.size wr q (cutTo b (t.take k)).1 ∧ Below w.heap.size w wr) (fun i _ _ _ => t.length - (intOf i).toNat)
 case atStart => exact ⟨0, 0, Nat.zero_le _, rfl, rfl, Nat.le_refl _, by simp [cutTo], by simpa [cutTo] using Bl.lit0 (E := Ty.str) (e := 9) (w := w) (Nat.le_refl _), bA⟩
 case round =>
  obtain ⟨k, o, hk, rfl, rfl, hok, hcur, hBl, hbe⟩ := hrel
  obtain ⟨wv, rfl⟩ : ∃ wv : World, wv = wr := ⟨_, rfl⟩
  have HB := Lib.hid hBl
  have HC := Lib.hid hcur
  have hzv := hbe.size
  have hdl : (cutTo b (t.take k)).1.length ≤ 100000 := by
   have := cut_len (b := b) (t := t.take k) (D := []) (c := [])
   unfold cutTo
   rw [List.length_take] at this
   simp only [List.length_nil] at this
   omega
  clear hBl hcur
  by_cases hkl : k < t.length
  ·have HST := Lib.hid (cutTo_succ (b := b) hkl)
   have hks : k < S.size := by omega
   have hgk := HG.out k hks hkl
   have hsn : (t.take (k + 1)) = t.take k ++ [t[k]] := List.take_succ_eq_append_getElem hkl
   have HSN := Lib.hid hsn
   clear hsn
   generalize t[k] = c at HST HSN hgk
   have hlk : (t.take k).length = k := by rw [List.length_take]; omega
   have HLK := Lib.hid hlk
   clear hlk
   cases hcb : (c == b)
   ·have hne : (((c.toNat : Nat) : Int) == ((b.toNat : Nat) : Int)) = false := by
     rw [beq_eq_false_iff_ne] at hcb ⊢
     exact fun e => hcb (UInt8.toNat_inj.1 (by omega))
    have HST2 : Hid (cutTo b (t.take (k + 1)) = ((cutTo b (t.take k)).1, (cutTo b (t.take k)).2 ++ [c])) := by
     unfold Hid
     rw [HST.out]
     simp only [cutStep, hcb]
    clear hcb
    go_wp2_with fail
    go_roundw
    case rel => exact ⟨k + 1, o, by omega, by go_num, rfl, by omega, by
     rw [HST2.out, HSN.out, HC.out, List.drop_append_of_le_length (by rw [HLK.out]; exact hok)], by rw [HST2.out]; exact HB.out, hbe⟩
    case measure => simp [intOf]; omega
   ·have he : (((c.toNat : Nat) : Int) == ((b.toNat : Nat) : Int)) = true := by
     rw [beq_iff_eq.1 hcb]; simp
    have HST2 : Hid (cutTo b (t.take (k + 1)) = ((cutTo b (t.take k)).1 ++ [(t.take k).drop o], [])) := by
     unfold Hid
     rw [HST.out]
     simp only [cutStep, hcb, HC.out]
    have hx := HX.out o k
    clear hcb
    go_wp2_with (refine wpList_push (E := Ty.str) _ rfl _ _ 30 9 rfl elStrB rfl (HB.out.below bA (Nat.le_refl _)) rfl news1 fr_bs (by omega) (by decide) hzv (by simp) ?_; intro v6 w6 hB6 hg6 _)
    have hb6 : Below w.heap.size w w6 := (hbe.alloc hbe.size _).grown hg6 (by simp; omega) (fun q hq => HB.out.own hq)
    have HB6 := Lib.hid hB6
    clear hB6 hg6
    go_wp2_with fail
    go_roundw
    case rel => exact ⟨k + 1, k + 1, by omega, by go_num, by go_num, Nat.le_refl _, by
     rw [HST2.out]
     show ([] : List UInt8) = _
     rw [List.drop_eq_nil_of_le (List.length_take_le _ _)], by rw [HST2.out]; exact HB6.out, hb6⟩
    case measure => simp [intOf]; omega
  ·obtain rfl : k = t.length := by omega
   rw [List.take_length] at HB HC hdl
   have hx := HX.out o t.length
   rw [List.take_length, ← HC.out] at hx
   have hos : o ≤ S.size := by omega
   have hL : (cutTo b t).1.length + 1 ≤ 1000000000 := by omega
   go_wp2_with (refine wpList_push (E := Ty.str) _ rfl _ _ 30 9 rfl elStrB rfl (HB.out.below bA (Nat.le_refl _)) rfl news1 fr_bs (by omega) (by decide) hzv (by simp) ?_; intro v6 w6 hB6 hg6 _)
   have hb6 : Below w.heap.size w w6 := (hbe.alloc hbe.size _).grown hg6 (by simp; omega) (fun q hq => HB.out.own hq)
   have HF := Lib.hid (hB6.fr (by rw [List.length_append]; simp only [List.length_singleton]; unfold capMax; omega))
   clear hB6 hg6
   go_wp2_with fail
   go_ret
   exact ⟨_, rfl, HF.out, hb6⟩
theorem ten_le {m : Nat} (h : m ≤ 9) : (10 : Int) ^ m ≤ 1000000000 := by
 rcases (show m = 0 ∨ m = 1 ∨ m = 2 ∨ m = 3 ∨ m = 4 ∨ m = 5 ∨ m = 6 ∨ m = 7 ∨ m = 8 ∨ m = 9 by omega) with rfl | rfl | rfl | rfl | rfl | rfl | rfl | rfl | rfl | rfl <;> decide
theorem foldS_bd : ∀ {w : List UInt8} {n : Int} {m : Nat}, 0 ≤ n → n < 10 ^ m → w.all isDg = true → 0 ≤ w.foldl accS n ∧ w.foldl accS n < 10 ^ (m + w.length)
 | [], n, m, h0, h1, _ => ⟨h0, h1⟩
 | c :: w, n, m, h0, h1, h => by
  rw [List.all_cons, Bool.and_eq_true] at h
  have hc := h.1
  unfold isDg at hc
  simp only [Bool.and_eq_true, decide_eq_true_eq] at hc
  have h3 : accS n c < 10 ^ (m + 1) := by
   unfold accS dgV
   rw [Int.pow_succ]
   omega
  have := foldS_bd (w := w) (n := accS n c) (m := m + 1) (by unfold accS dgV; omega) h3 h.2
  rw [List.foldl_cons, List.length_cons, show m + (w.length + 1) = m + 1 + w.length by omega]
  exact this
set_option maxHeartbeats 3200000 in
set_option maxRecDepth 100000 in
theorem l01Number_any (w : World) {t : List UInt8} (hl : t.length ≤ 100000) :
  Calls Tryz.prog 10 #[.string (bs t)] w fun e w' => e = .returned (.tuple #[.int .i64 (numS t).1, .bool (numS t).2]) ∧ w = w' := by
 obtain ⟨S, hS⟩ : ∃ S, S = bs t := ⟨_, rfl⟩
 have hsz : S.size = t.length := by rw [hS, bs_size]
 have HG : Hid (∀ i (h : i < S.size) (h' : i < t.length), S[i] = t[i]) := fun i h h' => by subst hS; exact bs_get h
 rw [← hS]
 clear hS
 by_cases h1 : t.length < 1
 ·have HN : Hid (numS t = (0, false)) := by unfold Hid numS; rw [show decide (t.length < 1) = true by simpa using h1]; rfl
  go_enter Tryz.func10, Tryz.ntmps10
  go_wp2_with fail
  go_ret2
  rw [HN.out]
  exact ⟨rfl, rfl⟩
 by_cases h9 : 9 < t.length
 ·have HN : Hid (numS t = (0, false)) := by unfold Hid numS; rw [show decide (t.length < 1) = false by simpa using h1, show decide (9 < t.length) = true by simpa using h9]; rfl
  go_enter Tryz.func10, Tryz.ntmps10
  go_wp2_with fail
  go_ret2
  rw [HN.out]
  exact ⟨rfl, rfl⟩
 have h0 : 0 < S.size := by omega
 have h0' : 0 < t.length := by omega
 have hg0 := HG.out 0 h0 h0'
 have HHD : Hid (t.headD 0 = t[0]) := by
  unfold Hid
  cases t with
  | nil => simp at h0'
  | cons x r => rfl
 have e1 : decide (t.length < 1) = false := by simpa using h1
 have e9 : decide (9 < t.length) = false := by simpa using h9
 by_cases hb : t[0] = 48 ∧ 1 < t.length
 ·have HN : Hid (numS t = (0, false)) := by
   unfold Hid numS
   rw [e1, e9, HHD.out, hb.1, show decide (1 < t.length) = true by simpa using hb.2]
   rfl
  have hl1 := hb.2
  rw [hb.1] at hg0
  clear hb HHD
  go_enter Tryz.func10, Tryz.ntmps10
  go_wp2_with fail
  go_ret2
  rw [HN.out]
  exact ⟨rfl, rfl⟩
 have HNS : Hid (numS t = match t.all isDg with | true => (t.foldl accS 0, true) | false => (0, false)) := by
  unfold Hid numS
  have : ((t[0] == 48) && decide (1 < t.length)) = false := by
   rw [Bool.and_eq_false_iff]
   by_cases h : t[0] = 48
   ·exact .inr (by simpa using fun h' => hb ⟨h, h'⟩)
   ·exact .inl (by simpa using h)
  rw [e1, e9, HHD.out, this]
  rfl
 have hor : (((t[0]).toNat : Int) == 48) = false ∨ ((((t[0]).toNat : Int) == 48) = true ∧ ¬ 1 < t.length) := by
  by_cases h : t[0] = 48
  ·exact .inr ⟨by rw [h]; rfl, fun h' => hb ⟨h, h'⟩⟩
  ·refine .inl ?_
   rw [beq_eq_false_iff_ne]
   intro e
   have h48 : (48 : UInt8).toNat = 48 := by decide
   exact h (UInt8.toNat_inj.1 (by omega))
 generalize t[0] = z at hg0 hor
 clear HHD hb e1 e9
 rcases hor with hz | ⟨hz, hl1⟩
 all_goals
  go_enter Tryz.func10, Tryz.ntmps10
  go_wp2_with fail
  go_loopw [5, 4] (fun i n wr => ∃ k : Nat, k ≤ t.length ∧ i = .int .i64 k ∧ n = .int .i64 ((t.take k).foldl accS 0) ∧ (t.take k).all isDg = true ∧ wr = w) (fun i _ _ => t.length - (intOf i).toNat)
  case atStart => exact ⟨0, Nat.zero_le _, rfl, by simp, by simp, rfl⟩
  case round =>
   obtain ⟨k, hk, rfl, rfl, hdg, rfl⟩ := hrel
   have HDG := Lib.hid hdg
   obtain ⟨n0, n1⟩ := foldS_bd (w := t.take k) (n := 0) (m := 0) (Int.le_refl _) (by decide) hdg
   have n2 : (t.take k).foldl accS 0 < 1000000000 := by
    refine Int.lt_of_lt_of_le n1 ?_
    exact ten_le (show 0 + (t.take k).length ≤ 9 by rw [List.length_take]; omega)
   have HSN : Hid (∀ (h : k < t.length), (t.take (k + 1)).foldl accS 0 = accS ((t.take k).foldl accS 0) t[k] ∧ (t.take (k + 1)).all isDg = isDg t[k]) := fun h => by
    rw [List.take_succ_eq_append_getElem h, List.foldl_append, List.all_append, HDG.out]
    simp
   have HAL : Hid (∀ (h : k < t.length), isDg t[k] = false → t.all isDg = false) := fun h hf => by
    rw [List.all_eq_false]
    exact ⟨t[k], List.getElem_mem h, by rw [hf]; simp⟩
   clear hdg n1
   by_cases hkl : k < t.length
   ·have hks : k < S.size := by omega
    have hgk := HG.out k hks hkl
    obtain ⟨s1, s2⟩ := HSN.out hkl
    have ha := HAL.out hkl
    have HS1 := Lib.hid s1
    have HS2 := Lib.hid s2
    have HA := Lib.hid ha
    clear s1 s2 ha HSN HAL
    generalize t[k] = c at hgk HS1 HS2 HA
    generalize (t.take k).foldl accS 0 = n at n0 n2 HS1 ⊢
    by_cases hlo : c.toNat < 48
    ·have HF : Hid (isDg c = false) := by unfold Hid isDg; rw [show decide (48 ≤ c.toNat) = false by simpa using hlo]; rfl
     have HN : Hid (numS t = (0, false)) := by unfold Hid; rw [HNS.out, HA.out HF.out]
     go_wp2_with fail
     go_ret2
     rw [HN.out]
     exact ⟨rfl, rfl⟩
    by_cases hhi : 57 < c.toNat
    ·have HF : Hid (isDg c = false) := by unfold Hid isDg; rw [show decide (c.toNat ≤ 57) = false by simpa using hhi]; simp
     have HN : Hid (numS t = (0, false)) := by unfold Hid; rw [HNS.out, HA.out HF.out]
     go_wp2_with fail
     go_ret2
     rw [HN.out]
     exact ⟨rfl, rfl⟩
    have HT : Hid (isDg c = true) := by unfold Hid isDg; simp; omega
    have HV : Hid (accS n c = n * 10 + ((c.toNat : Int) - 48)) := rfl
    go_wp2_with fail
    go_roundw
    case rel => exact ⟨k + 1, by omega, by go_num, by rw [HS1.out, HV.out], by rw [HS2.out]; exact HT.out, trivial⟩
    case measure => simp [intOf]; omega
   ·obtain rfl : k = t.length := by omega
    have HN : Hid (numS t = (t.foldl accS 0, true)) := by
     unfold Hid
     rw [HNS.out, ← List.take_length (l := t), HDG.out]
    have HTL : Hid ((t.take t.length).foldl accS 0 = t.foldl accS 0) := by unfold Hid; rw [List.take_length]
    go_wp2_with fail
    go_ret2
    rw [HN.out, HTL.out]
    exact ⟨rfl, rfl⟩
end Go.Proofs.YtmnjlhcbabhhlaaGreatDoor
namespace Go.Proofs
open Go.Shelf
def Tryz.laysC174_ren : Go.Shelf.Ren := ⟨fun | 174 => 26 | 247 => 40 | 245 => 41 | 287 => 59 | 279 => 60 | 280 => 61 | 281 => 62 | 282 => 63 | 321 => 75 | 322 => 76 | 316 => 77 | 171 => 79 | 205 => 78 | 243 => 91 | 246 => 64 | 283 => 80 | 284 => 81 | 285 => 82 | 286 => 83 | 129 => 93 | 317 => 92 | 318 => 94 | 319 => 95 | 320 => 96 | 337 => 98 | 338 => 99 | n => n, fun | 9 => 9 | 3 => 3 | 2 => 2 | 75 => 53 | 85 => 54 | 4 => 4 | 167 => 86 | 5 => 5 | 53 => 87 | 175 => 88 | 46 => 90 | 168 => 91 | 37 => 66 | 0 => 0 | 210 => 102 | 21 => 21 | 127 => 97 | 145 => 124 | 143 => 122 | 171 => 105 | 173 => 108 | 212 => 126 | 51 => 119 | 20 => 20 | 213 => 127 | 232 => 132 | 233 => 133 | 80 => 80 | n => n, fun | 15 => 1 | 16 => 2 | 17 => 5 | 18 => 6 | 19 => 7 | n => n⟩
theorem Tryz.laysC174 : Go.Proofs.LaysC.n174 Tryz.prog Tryz.laysC174_ren := {
 mixed := by kernel_rfl
 f129 := Tryz.func93.trans (congrArg some (by kernel_rfl))
 f171 := Tryz.func79.trans (congrArg some (by kernel_rfl))
 f174 := Tryz.func26.trans (congrArg some (by kernel_rfl))
 f205 := Tryz.func78.trans (congrArg some (by kernel_rfl))
 f243 := Tryz.func91.trans (congrArg some (by kernel_rfl))
 f245 := Tryz.func41.trans (congrArg some (by kernel_rfl))
 f246 := Tryz.func64.trans (congrArg some (by kernel_rfl))
 f247 := Tryz.func40.trans (congrArg some (by kernel_rfl))
 f279 := Tryz.func60.trans (congrArg some (by kernel_rfl))
 f280 := Tryz.func61.trans (congrArg some (by kernel_rfl))
 f281 := Tryz.func62.trans (congrArg some (by kernel_rfl))
 f282 := Tryz.func63.trans (congrArg some (by kernel_rfl))
 f283 := Tryz.func80.trans (congrArg some (by kernel_rfl))
 f284 := Tryz.func81.trans (congrArg some (by kernel_rfl))
 f285 := Tryz.func82.trans (congrArg some (by kernel_rfl))
 f286 := Tryz.func83.trans (congrArg some (by kernel_rfl))
 f287 := Tryz.func59.trans (congrArg some (by kernel_rfl))
 f316 := Tryz.func77.trans (congrArg some (by kernel_rfl))
 f317 := Tryz.func92.trans (congrArg some (by kernel_rfl))
 f318 := Tryz.func94.trans (congrArg some (by kernel_rfl))
 f319 := Tryz.func95.trans (congrArg some (by kernel_rfl))
 f320 := Tryz.func96.trans (congrArg some (by kernel_rfl))
 f321 := Tryz.func75.trans (congrArg some (by kernel_rfl))
 f322 := Tryz.func76.trans (congrArg some (by kernel_rfl))
 f337 := Tryz.func98.trans (congrArg some (by kernel_rfl))
 f338 := Tryz.func99.trans (congrArg some (by kernel_rfl))
 t0 := Tryz.underlying0
 a0 := Tryz.isAgg0
 z0 := Tryz.sizeOf0
 v0 := Tryz.zeroValue0
 t2 := Tryz.underlying2
 a2 := Tryz.isAgg2
 z2 := Tryz.sizeOf2
 v2 := Tryz.zeroValue2
 t3 := Tryz.underlying3
 a3 := Tryz.isAgg3
 z3 := Tryz.sizeOf3
 v3 := Tryz.zeroValue3
 t4 := Tryz.underlying4
 a4 := Tryz.isAgg4
 z4 := Tryz.sizeOf4
 v4 := Tryz.zeroValue4
 t5 := Tryz.underlying5
 a5 := Tryz.isAgg5
 z5 := Tryz.sizeOf5
 v5 := Tryz.zeroValue5
 t9 := Tryz.underlying9
 a9 := Tryz.isAgg9
 z9 := Tryz.sizeOf9
 v9 := Tryz.zeroValue9
 t20 := Tryz.underlying20
 a20 := Tryz.isAgg20
 z20 := Tryz.sizeOf20
 v20 := Tryz.zeroValue20
 t21 := Tryz.underlying21
 a21 := Tryz.isAgg21
 z21 := Tryz.sizeOf21
 v21 := Tryz.zeroValue21
 t37 := Tryz.underlying66
 a37 := Tryz.isAgg66
 z37 := Tryz.sizeOf66
 v37 := Tryz.zeroValue66
 t46 := Tryz.underlying90
 a46 := Tryz.isAgg90
 z46 := Tryz.sizeOf90
 v46 := Tryz.zeroValue90
 t51 := Tryz.underlying119
 a51 := Tryz.isAgg119
 z51 := Tryz.sizeOf119
 v51 := Tryz.zeroValue119
 t53 := Tryz.underlying87
 a53 := Tryz.isAgg87
 z53 := Tryz.sizeOf87
 v53 := Tryz.zeroValue87
 t75 := Tryz.underlying53
 a75 := Tryz.isAgg53
 z75 := Tryz.sizeOf53
 v75 := Tryz.zeroValue53
 t85 := Tryz.underlying54
 a85 := Tryz.isAgg54
 z85 := Tryz.sizeOf54
 v85 := Tryz.zeroValue54
 t127 := Tryz.underlying97
 a127 := Tryz.isAgg97
 z127 := Tryz.sizeOf97
 v127 := Tryz.zeroValue97
 t143 := Tryz.underlying122
 a143 := Tryz.isAgg122
 z143 := Tryz.sizeOf122
 v143 := Tryz.zeroValue122
 t145 := Tryz.underlying124
 a145 := Tryz.isAgg124
 z145 := Tryz.sizeOf124
 v145 := Tryz.zeroValue124
 t167 := Tryz.underlying86
 a167 := Tryz.isAgg86
 z167 := Tryz.sizeOf86
 v167 := Tryz.zeroValue86
 t168 := Tryz.underlying91
 a168 := Tryz.isAgg91
 z168 := Tryz.sizeOf91
 v168 := Tryz.zeroValue91
 t171 := Tryz.underlying105
 a171 := Tryz.isAgg105
 z171 := Tryz.sizeOf105
 v171 := Tryz.zeroValue105
 t173 := Tryz.underlying108
 a173 := Tryz.isAgg108
 z173 := Tryz.sizeOf108
 v173 := Tryz.zeroValue108
 t175 := Tryz.underlying88
 a175 := Tryz.isAgg88
 z175 := Tryz.sizeOf88
 v175 := Tryz.zeroValue88
 t210 := Tryz.underlying102
 a210 := Tryz.isAgg102
 z210 := Tryz.sizeOf102
 v210 := Tryz.zeroValue102
 t212 := Tryz.underlying126
 a212 := Tryz.isAgg126
 z212 := Tryz.sizeOf126
 v212 := Tryz.zeroValue126
 t213 := Tryz.underlying127
 a213 := Tryz.isAgg127
 z213 := Tryz.sizeOf127
 t232 := Tryz.underlying132
 a232 := Tryz.isAgg132
 z232 := Tryz.sizeOf132
 v232 := Tryz.zeroValue132
 t233 := Tryz.underlying133
 a233 := Tryz.isAgg133
 z233 := Tryz.sizeOf133
 v233 := Tryz.zeroValue133
 g15 := by kernel_rfl
 g16 := by kernel_rfl
 g17 := by kernel_rfl
 g18 := by kernel_rfl
 g19 := by kernel_rfl
 t80 := Tryz.underlying80
 a80 := Tryz.isAgg80
 z80 := Tryz.sizeOf80
 v80 := Tryz.zeroValue80
 i0 := by kernel_rfl
 i2 := by kernel_rfl
 i3 := by kernel_rfl
 i4 := by kernel_rfl
 i5 := by kernel_rfl
 i9 := by kernel_rfl
 i20 := by kernel_rfl
 i21 := by kernel_rfl
 i37 := by kernel_rfl
 i46 := by kernel_rfl
 i51 := by kernel_rfl
 i53 := by kernel_rfl
 i75 := by kernel_rfl
 i80 := by kernel_rfl
 i85 := by kernel_rfl
 i127 := by kernel_rfl
 i143 := by kernel_rfl
 i145 := by kernel_rfl
 i167 := by kernel_rfl
 i168 := by kernel_rfl
 i171 := by kernel_rfl
 i173 := by kernel_rfl
 i175 := by kernel_rfl
 i210 := by kernel_rfl
 i212 := by kernel_rfl
 i232 := by kernel_rfl
 i233 := by kernel_rfl
 m15 := by kernel_rfl
 m16 := by kernel_rfl
 m17 := by kernel_rfl
 m18 := by kernel_rfl
 m19 := by kernel_rfl
 c0 := by kernel_rfl
 c2 := by kernel_rfl
 c3 := by kernel_rfl
 c4 := by kernel_rfl
 c5 := by kernel_rfl
 c9 := by kernel_rfl
 c20 := by kernel_rfl
 c21 := by kernel_rfl
 c37 := by kernel_rfl
 c46 := by kernel_rfl
 c51 := by kernel_rfl
 c53 := by kernel_rfl
 c75 := by kernel_rfl
 c80 := by kernel_rfl
 c85 := by kernel_rfl
 c127 := by kernel_rfl
 c143 := by kernel_rfl
 c145 := by kernel_rfl
 c167 := by kernel_rfl
 c168 := by kernel_rfl
 c171 := by kernel_rfl
 c173 := by kernel_rfl
 c175 := by kernel_rfl
 c210 := by kernel_rfl
 c212 := by kernel_rfl
 c213 := by kernel_rfl
 c232 := by kernel_rfl
 c233 := by kernel_rfl }
open Go.RowKit in
/-- strconv.ParseInt(s, 10, 64), AT EVERY STRING THAT SPELLS AN int64 ('Lib.parseIntB 64 s.data.toList = .ok v'): v, AND NO ERROR. (LAID: no walk: one application.) -/
theorem Tryz.strconv_ParseInt_10_at64_ok (s : ByteArray) (hmax : s.size ≤ 9223372036854775806) (v : Int) (h : Lib.parseIntB 64 s.data.toList = .ok v) (w : World) :
  Calls Tryz.prog 26 #[.string s, .int .i64 10, .int .i64 64] w fun e w' => e = .returned (.tuple #[.int .i64 v, .nilIface]) ∧ (w' = w ∨ ∃ t, w' = Lib.bytesWorld w 5 t) := Any.strconv_ParseInt_10_at64_ok Tryz.laysC174 s hmax v h w
open Go.RowKit in
/-- strconv.ParseInt(s, 10, 64), AT EVERY STRING THAT IS NO DECIMAL NUMERAL: 0, AND AN ERROR THAT IS NOT nil: a *NumError in a new block N: {Func: "ParseInt", Num: s's bytes, Err: what the variable ErrSyntax holds}. Of what was there nothing has turned. (LAID: no walk: one application.) -/
theorem Tryz.strconv_ParseInt_10_at64_syntax (s : ByteArray) (hlim : s.size ≤ 281474976710656) {x : Lib.NumEnd Int} (hx0 : Lib.parseIntB 64 s.data.toList = x) (hx1 : ∀ v, x ≠ .ok v) (hx2 : x ≠ .range) (ev : Value) (w : World) (hv : w.cell? ⟨1, 0, none⟩ = some ev) (hev : ev = .nilIface ∨ ∃ te pe, ev = .iface te pe) :
  Calls Tryz.prog 26 #[.string s, .int .i64 10, .int .i64 64] w fun e w' => ∃ N, e = .returned (.tuple #[.int .i64 (0), .iface 91 (.pointer (some ⟨N, 0, none⟩))]) ∧ w.heap.size ≤ N ∧ w'.heap[N]? = some (.cells #[.string ⟨#[80, 97, 114, 115, 101, 73, 110, 116]⟩, .string s, ev] 102 (0, 0)) ∧ Below w.heap.size w w' := by
 cases x
 ·exact absurd rfl (hx1 _)
 ·exact Any.strconv_ParseInt_10_at64_syntax Tryz.laysC174 s hlim hx0 ev w hv hev
 ·exact absurd rfl hx2
open Go.RowKit in
/-- strconv.ParseInt(s, 10, 64), AT EVERY NUMERAL THAT NO int64 HOLDS: THE GREATEST OR THE LEAST int64, BY THE SIGN ('Lib.intSat 64'), AND AN ERROR THAT IS NOT nil: a *NumError in a new block N: {Func: "ParseInt", Num: s's bytes, Err: what the variable ErrRange holds}. Of what was there nothing has turned. (LAID: no walk: one application.) -/
theorem Tryz.strconv_ParseInt_10_at64_range (s : ByteArray) (hlim : s.size ≤ 281474976710656) (h : Lib.parseIntB 64 s.data.toList = .range) (ev : Value) (w : World) (hv : w.cell? ⟨2, 0, none⟩ = some ev) (hev : ev = .nilIface ∨ ∃ te pe, ev = .iface te pe) :
  Calls Tryz.prog 26 #[.string s, .int .i64 10, .int .i64 64] w fun e w' => ∃ N, e = .returned (.tuple #[.int .i64 (Lib.intSat 64 s.data.toList), .iface 91 (.pointer (some ⟨N, 0, none⟩))]) ∧ w.heap.size ≤ N ∧ w'.heap[N]? = some (.cells #[.string ⟨#[80, 97, 114, 115, 101, 73, 110, 116]⟩, .string s, ev] 102 (0, 0)) ∧ Below w.heap.size w w' := Any.strconv_ParseInt_10_at64_range Tryz.laysC174 s hlim h ev w hv hev
end Go.Proofs
namespace Go.Proofs.YtmnjlhcbabhhlaaGreatDoor
open Go.RowKit Go.Sort
/-- what the package variables hold: bytealg.MaxLen, strconv.ErrSyntax, strconv.ErrRange, the table of powers (blocks 0, 1, 2: this seat's) -/
structure RfPre (w : World) : Prop where
 lt : 2 < w.heap.size
 len : ∃ m, w.cell? ⟨0, 0, none⟩ = some (.int .i64 m)
 es : ∃ ev, w.cell? ⟨1, 0, none⟩ = some ev ∧ (ev = .nilIface ∨ ∃ te pe, ev = .iface te pe)
 er : ∃ ev, w.cell? ⟨2, 0, none⟩ = some ev ∧ (ev = .nilIface ∨ ∃ te pe, ev = .iface te pe)
 tab : Lib.TabIs Tryz.prog w "internal/strconv.uint64pow10" .u64 Lib.pow10Tab
theorem pow_named : ∃ g, Tryz.prog.globalNamed "internal/strconv.uint64pow10" = some g := Option.isSome_iff_exists.1 (by kernel_rfl)
theorem RfPre.below {w w' : World} (h : RfPre w) (hb : Below w.heap.size w w') : RfPre w' where
 lt := Nat.lt_of_lt_of_le h.lt hb.size
 len := let ⟨m, c⟩ := h.len; ⟨m, (cellB hb (by have := h.lt; omega)).trans c⟩
 es := let ⟨m, c, d⟩ := h.es; ⟨m, (cellB hb (by have := h.lt; omega)).trans c, d⟩
 er := let ⟨m, c, d⟩ := h.er; ⟨m, (cellB hb (by have := h.lt; omega)).trans c, d⟩
 tab := let ⟨_, hg⟩ := pow_named; Go.Joins.tab_stays hg h.tab hb (Nat.le_refl _)
theorem decAll_any (w : World) (hp : RfPre w) {n : Int} (h0 : 0 ≤ n) (h1 : n ≤ 9223372036854775807) : Calls Tryz.prog 27 #[.int .i64 n] w fun e w' => e = .returned (.string (bs (decB n))) ∧ Below w.heap.size w w' := by
 have HK : Hid (Lib.itoa n = decB n) := by unfold Hid Lib.itoa decB; rw [if_neg (by omega)]
 have HP := Lib.hid hp
 clear hp
 go_enter Tryz.func27, Tryz.ntmps27
 go_wp2_with fail
 refine (Tryz.strconv_FormatInt_10 n (by omega) h1 w HP.out.tab).mono ?_
 rintro e w1 ⟨rfl, k, os, rfl⟩
 rw [HK.out]
 have hb : Below w.heap.size w (grow (w.drewN k) os) := Lib.below_grow _ w (Nat.le_refl _) k os
 go_wp2_with fail
 go_ret
 exact ⟨rfl, hb⟩
theorem parse_le {t : List UInt8} {v : Int} (h : Lib.parseIntB 64 t = .ok v) : v ≤ 9223372036854775807 := by
 unfold Lib.parseIntB at h
 cases t with
 | nil => cases h
 | cons c r =>
  simp only at h
  split at h
  ·cases h
  ·cases h
  ·rename_i u _
   split at h
   ·cases h
   ·rename_i h1
    split at h
    ·cases h
    ·have := Lib.NumEnd.ok.inj h
     subst this
     by_cases hn : c.toNat = 45
     ·rw [if_pos hn]; omega
     ·rw [if_neg hn]
      have : ¬ (2 ^ (64 - 1) ≤ u) := fun hh => h1 ⟨hn, hh⟩
      omega
theorem numI_bd {t : List UInt8} : -2 ≤ numI t := by
 unfold numI
 split
 ·split
  ·omega
  ·rename_i hv
   split
   ·have := of_decide_eq_false hv; omega
   ·omega
 ·omega
set_option maxHeartbeats 1600000 in
theorem readNumber_any (w : World) (hp : RfPre w) {t : List UInt8} (hl : t.length ≤ 100000) :
  Calls Tryz.prog 14 #[.string (bs t)] w fun e w' => e = .returned (.int .i64 (numI t)) ∧ Below w.heap.size w w' := by
 have HP := Lib.hid hp
 have hd : (bs t).data.toList = t := by simp [bs]
 have hs : (bs t).size = t.length := bs_size
 have HD := Lib.hid hd
 have HS := Lib.hid hs
 clear hp hd hs
 cases hq : Lib.parseIntB 64 t
 case ok v =>
  go_enter Tryz.func14, Tryz.ntmps14
  go_wp2_with fail
  refine (Tryz.strconv_ParseInt_10_at64_ok (bs t) (by rw [HS.out]; omega) v (by rw [HD.out]; exact hq) w).mono ?_
  rintro e w1 ⟨rfl, hw⟩
  have hb1 : Below w.heap.size w w1 := by
   rcases hw with rfl | ⟨x, rfl⟩
   ·exact Below.refl _ _
   ·exact Lib.bytesWorld_below _ _ _
  clear hw
  cases hv : decide (v < 0)
  ·have hv0 : 0 ≤ v := by have := of_decide_eq_false hv; omega
   have hv63 := parse_le hq
   have HP1 := Lib.hid (HP.out.below hb1)
   have HNI : Hid (numI t = match decB v == t with | true => v | false => -2) := by
    unfold Hid numI
    rw [hq]
    simp only [hv] <;> (cases decB v == t <;> rfl)
   clear hq
   go_wp2_with fail
   refine (decAll_any w1 HP1.out hv0 hv63).mono ?_
   rintro e w2 ⟨rfl, hb2⟩
   have hB2 := bthen hb1 hb2
   have hcm : ((bs (decB v)).toList == (bs t).toList) = (decB v == t) := by
    rw [show (bs (decB v)).toList = decB v from ByteArray.toList_mk _, show (bs t).toList = t from ByteArray.toList_mk _]
   cases hc : (decB v == t)
   ·have HN : Hid (numI t = -2) := by unfold Hid; rw [HNI.out, hc]
    rw [hc] at hcm
    go_wp2_with fail
    go_ret
    rw [HN.out]
    exact ⟨rfl, hB2⟩
   ·have HN : Hid (numI t = v) := by unfold Hid; rw [HNI.out, hc]
    rw [hc] at hcm
    go_wp2_with fail
    go_ret
    rw [HN.out]
    exact ⟨rfl, hB2⟩
  ·have HN : Hid (numI t = -2) := by unfold Hid numI; rw [hq]; simp only [hv]
   have hv0 : v < 0 := of_decide_eq_true hv
   go_wp2_with fail
   go_ret
   rw [HN.out]
   exact ⟨rfl, hb1⟩
 case range =>
  have HN : Hid (numI t = -2) := by unfold Hid numI; rw [hq]
  obtain ⟨ev, c, d⟩ := HP.out.er
  go_enter Tryz.func14, Tryz.ntmps14
  go_wp2_with fail
  refine (Tryz.strconv_ParseInt_10_at64_range (bs t) (by rw [HS.out]; omega) (by rw [HD.out]; exact hq) ev w c d).mono ?_
  rintro e w1 ⟨N, rfl, -, -, hb1⟩
  go_wp2_with fail
  go_ret
  rw [HN.out]
  exact ⟨rfl, hb1⟩
 ·have HN : Hid (numI t = -2) := by unfold Hid numI; rw [hq]
  obtain ⟨ev, c, d⟩ := HP.out.es
  go_enter Tryz.func14, Tryz.ntmps14
  go_wp2_with fail
  refine (Tryz.strconv_ParseInt_10_at64_syntax (bs t) (by rw [HS.out]; omega) ((congrArg (Lib.parseIntB 64) HD.out).trans hq) (fun v e => by cases e) (fun e => by cases e) ev w c d).mono ?_
  rintro e w1 ⟨N, rfl, -, -, hb1⟩
  go_wp2_with fail
  go_ret
  rw [HN.out]
  exact ⟨rfl, hb1⟩
end Go.Proofs.YtmnjlhcbabhhlaaGreatDoor
namespace Go.Proofs.YtmnjlhcbabhhlaaGreatDoor
open Go.RowKit Go.Sort
theorem digR_no {t : List UInt8} {k : Nat} (h : k < t.length) (hf : isDg t[k] = false) : digR t = [] := by
 unfold digR
 have : t.all isDg = false := by
  rw [List.all_eq_false]
  exact ⟨t[k], List.getElem_mem h, by rw [hf]; simp⟩
 rw [this]
set_option maxHeartbeats 3200000 in
set_option maxRecDepth 100000 in
theorem readDigits_any (w : World) {t : List UInt8} (hl : t.length ≤ 100000) :
  Calls Tryz.prog 29 #[.string (bs t)] w (RetS intsT w (digR t)) := by
 obtain ⟨S, hS⟩ : ∃ S, S = bs t := ⟨_, rfl⟩
 have hsz : S.size = t.length := by rw [hS, bs_size]
 have HDT : Hid (S.data.toList = t) := by unfold Hid; rw [hS]; simp [bs]
 rw [← hS]
 clear hS
 have hcv := fun W : World => Lib.run_convert_string_bytes (P := Tryz.prog) W 9 66 5 S Tryz.underlying9 Tryz.underlying66 Tryz.underlying5
 go_enter Tryz.func29, Tryz.ntmps29
 go_wp2_with fail
 clear hcv
 generalize hW0 : World.alloc w _ = X0
 have hb0 : Below w.heap.size w X0 := hW0 ▸ bA
 have hs0 : X0.heap.size = w.heap.size + 1 := by rw [← hW0]; simp
 have HB0 : Hid (Bl Ty.int 2 w.heap.size X0.heap.size X0 (.slice (some ⟨w.heap.size, 0, none⟩) 0 0) []) := by
  unfold Hid
  rw [← hW0]
  simpa using Bl.lit0 (E := Ty.int) (e := 2) (w := w) (Nat.le_refl _)
 clear hW0
 generalize hWX : Lib.bytesWorld X0 _ S = X
 have hbX : Below X0.heap.size X0 X := hWX ▸ Lib.bytesWorld_below _ _ _
 have HCE : Hid (∀ j (h : j < t.length), X.cell? ⟨w.heap.size + 1, j, none⟩ = some (.int .u8 (t[j]).toNat)) := fun j h => by
  rw [← hWX, ← hs0, Lib.bytesWorld_cell _ _ _ _ (by omega), HDT.out, List.getD_eq_getElem?_getD, List.getElem?_eq_getElem h]
  rfl
 have hsX : w.heap.size + 2 ≤ X.heap.size := by rw [← hWX, Lib.bytesWorld_size]; omega
 have HB1 : Hid (Bl Ty.int 2 w.heap.size X.heap.size X (.slice (some ⟨w.heap.size, 0, none⟩) 0 0) []) := (HB0.out.below hbX (Nat.le_refl _)).mono hbX.size
 have hbw : Below w.heap.size w X := bthen hb0 hbX
 clear hWX HB0 HDT hb0 hbX
 go_loopw [10, 3] (fun i q wr => ∃ k : Nat, k ≤ t.length ∧ i = .int .i64 k ∧ (t.take k).all isDg = true ∧ Bl Ty.int 2 w.heap.size wr.heap.size wr q ((t.take k).map dgV) ∧ Below w.heap.size w wr ∧ (q.ownBlock ≠ some (w.heap.size + 1) ∧ wr.heap[w.heap.size + 1]? = X.heap[w.heap.size + 1]? ∧ X.heap.size ≤ wr.heap.size)) (fun i _ _ => t.length - (intOf i).toNat)
 case atStart => exact ⟨0, Nat.zero_le _, rfl, by simp, by simpa using HB1.out, hbw, by simp [Value.ownBlock], rfl, Nat.le_refl _⟩
 case round =>
  obtain ⟨k, hk, rfl, hdg, hBl, hbe, hrow⟩ := hrel
  obtain ⟨wv, rfl⟩ : ∃ wv : World, wv = wr := ⟨_, rfl⟩
  have HB := Lib.hid hBl
  have HR := Lib.hid hrow
  have HDG := Lib.hid hdg
  have hzv := hbe.size
  have hzr := hrow.2.2
  have hml : ((t.take k).map dgV).length ≤ 100000 := by rw [List.length_map, List.length_take]; omega
  clear hBl hrow hdg HB1
  by_cases hkl : k < t.length
  ·have e0 := (World.cell?_of_block (a := ⟨w.heap.size + 1, k, none⟩) HR.out.2.1).trans (HCE.out k hkl)
   have HNO : Hid (isDg t[k] = false → digR t = []) := digR_no hkl
   have HSN : Hid (t.take (k + 1) = t.take k ++ [t[k]]) := List.take_succ_eq_append_getElem hkl
   generalize t[k] = c at e0 HNO HSN
   by_cases hlo : c.toNat < 48
   ·have HN : Hid (digR t = []) := HNO.out (by unfold isDg; rw [show decide (48 ≤ c.toNat) = false by simpa using hlo]; rfl)
    go_wp2_with fail
    go_ret
    exact ⟨_, rfl, by rw [HN.out]; exact fr_nil, hbe⟩
   by_cases hhi : 57 < c.toNat
   ·have HN : Hid (digR t = []) := HNO.out (by unfold isDg; rw [show decide (c.toNat ≤ 57) = false by simpa using hhi]; simp)
    go_wp2_with fail
    go_ret
    exact ⟨_, rfl, by rw [HN.out]; exact fr_nil, hbe⟩
   have HT : Hid (isDg c = true) := by unfold Hid isDg; simp; omega
   have HI : Hid (I64 ((c.toNat : Int) - 48)) := I64.small (by omega) (by omega)
   go_wp2_with (refine wpList_push (E := Ty.int) _ rfl _ _ 34 2 rfl elInt rfl (HB.out.below bA (Nat.le_refl _)) rfl news1 (fr_int HI.out) (by omega) (by decide) hzv (by simp) ?_; intro v6 w6 hB6 hg6 ho6)
   have hb6 : Below w.heap.size w w6 := (hbe.alloc hbe.size _).grown hg6 (by simp; omega) (fun q hq => HB.out.own hq)
   have HB6 := Lib.hid hB6
   have HR6 : Hid (v6.ownBlock ≠ some (w.heap.size + 1) ∧ w6.heap[w.heap.size + 1]? = X.heap[w.heap.size + 1]? ∧ X.heap.size ≤ w6.heap.size) := by
    obtain ⟨n1, n2, n3⟩ := HR.out
    have hz6 := hg6.size
    simp only [World.size_alloc] at hz6
    refine ⟨?_, ?_, by omega⟩
    ·rcases ho6 with e | e <;> rw [e]
     ·exact n1
     ·intro h; simp at h; omega
    ·rw [hg6.block (w.heap.size + 1) (by simp; omega) (fun h => n1 h.symm), ← n2]
     exact (bA (w := wv)).block (w.heap.size + 1) (by omega)
   clear hB6 ho6 hg6
   go_wp2_with fail
   go_roundw
   case rel => exact ⟨k + 1, by omega, by go_num, by rw [HSN.out, List.all_append, HDG.out]; simp [HT.out], by rw [HSN.out, List.map_append]; exact HB6.out, hb6, HR6.out⟩
   case measure => simp [intOf]; omega
  ·obtain rfl : k = t.length := by omega
   have HN : Hid (digR t = (t.take t.length).map dgV) := by
    have := HDG.out
    rw [List.take_length] at this
    unfold Hid digR
    rw [this, List.take_length]
   have HF := Lib.hid (HB.out.fr (by unfold capMax; omega))
   go_wp2_with fail
   go_ret
   exact ⟨_, rfl, by rw [HN.out]; exact HF.out, hbe⟩
end Go.Proofs.YtmnjlhcbabhhlaaGreatDoor
namespace Go.Proofs.YtmnjlhcbabhhlaaGreatDoor
open Go.RowKit Go.Sort
end Go.Proofs.YtmnjlhcbabhhlaaGreatDoor
namespace Go.Proofs.YtmnjlhcbabhhlaaGreatDoor
open Go.RowKit Go.Sort

/-- a struct in new memory, and a code -/
def RetAC {α : Type} (E : Ty α) (w : World) (x : α) (c : Int) (e : Ending) (w' : World) : Prop := ∃ cs : List Value, e = .returned (.tuple #[.agg cs.toArray, .int .i64 c]) ∧ E.Fr w.heap.size w' cs x ∧ Below w.heap.size w w'
def frm0 : Int × Int × List (Int × List Int) := (0, 0, [])
theorem fr_frm0 {base : Nat} {w : World} : frmT.Fr base w [.int .i64 0, .int .i64 0, .slice none 0 0] frm0 := fr_cons (I64.small (by omega) (by omega)) (fr_cons (I64.small (by omega) (by omega)) fr_nil)
/-- a result of three cells, stored -/
abbrev set3 (w : World) (b : Nat) (x y z : Value) : World := ((w.setCell ⟨b, 0, none⟩ x).setCell ⟨b, 1, none⟩ y).setCell ⟨b, 2, none⟩ z
theorem set3_cells {w : World} {b : Nat} {x y z x' y' z' : Value} (h0 : w.cell? ⟨b, 0, none⟩ = some x') (h1 : w.cell? ⟨b, 1, none⟩ = some y') (h2 : w.cell? ⟨b, 2, none⟩ = some z') :
  (set3 w b x y z).cell? ⟨b, 0, none⟩ = some x ∧ (set3 w b x y z).cell? ⟨b, 1, none⟩ = some y ∧ (set3 w b x y z).cell? ⟨b, 2, none⟩ = some z := by
 have e1 : (w.setCell ⟨b, 0, none⟩ x).cell? ⟨b, 1, none⟩ = some y' := (World.cell?_setCell_other _ _ _ _ (by simp)).trans h1
 have e2 : ((w.setCell ⟨b, 0, none⟩ x).setCell ⟨b, 1, none⟩ y).cell? ⟨b, 2, none⟩ = some z' := (World.cell?_setCell_other _ _ _ _ (by simp)).trans ((World.cell?_setCell_other _ _ _ _ (by simp)).trans h2)
 exact ⟨(World.cell?_setCell_other _ _ _ _ (by simp)).trans ((World.cell?_setCell_other _ _ _ _ (by simp)).trans (World.cell?_setCell_same _ _ _ h0)), (World.cell?_setCell_other _ _ _ _ (by simp)).trans (World.cell?_setCell_same _ _ _ e1), World.cell?_setCell_same _ _ _ e2⟩
theorem Ty.Fr.set3 {α : Type} {E : Ty α} {base : Nat} {w : World} {cs : List Value} {v : α} {b : Nat} {x y z : Value} (h : E.Fr base w cs v) (hb : b < base) : E.Fr base (set3 w b x y z) cs v := ((h.set hb).set hb).set hb
theorem set3_below {B : Nat} {a w : World} {b : Nat} {x y z : Value} (h : Below B a w) (hb : B ≤ b) : Below B a (set3 w b x y z) := ((h.setCell hb _).setCell hb _).setCell hb _

section
variable {t : Int × List (Int × List (List Int))} {rel : Int}
end
end Go.Proofs.YtmnjlhcbabhhlaaGreatDoor
namespace Go.Proofs.YtmnjlhcbabhhlaaGreatDoor
open Go.RowKit Go.Sort
theorem news2 {w : World} {u u' : Value} {T : TypeId} : ∀ j x, [u, u'][j]? = some x → (w.alloc (.cells #[u, u'] T)).cell? ((⟨w.heap.size, 0, none⟩ : Addr).add j) = some x := by
 intro j x h
 match j with
 | 0 => simp at h; subst h; simp [Addr.add]
 | 1 => simp at h; subst h; simp [Addr.add]
 | j + 2 => simp at h
end Go.Proofs.YtmnjlhcbabhhlaaGreatDoor
namespace Go.Proofs.YtmnjlhcbabhhlaaGreatDoor
open Go.RowKit Go.Sort
section
variable (t : Int × List (Int × List (List Int))) (f : Int × Int × List (Int × List Int)) (v : Int)
end
section
variable {t : Int × List (Int × List (List Int))} {f : Int × Int × List (Int × List Int)} {v : Int}
end
theorem wrap_small {n : Int} (h0 : -1000000000000000000 ≤ n) (h1 : n ≤ 1000000000000000000) : IntKind.i64.wrap n = n := by
 simp [IntKind.wrap, IntKind.signed, IntKind.bits]
 omega
end Go.Proofs.YtmnjlhcbabhhlaaGreatDoor
namespace Go.Proofs.YtmnjlhcbabhhlaaGreatDoor
open Go.RowKit Go.Sort
theorem size_set {w : World} {a : Addr} {u : Value} : (w.setCell a u).heap.size = w.heap.size := by simp [World.setCell]
theorem ex_slice {α : Type} {E : Ty α} {base : Nat} {w : World} {u : Value} {x : List α} (h : (Ty.slice E).Fr base w [u] x) : ∃ ad n cap, u = .slice ad n cap := let ⟨a, c, h⟩ := fr_slice h; ⟨a, _, c, h⟩
end Go.Proofs.YtmnjlhcbabhhlaaGreatDoor
namespace Go.Proofs.YtmnjlhcbabhhlaaGreatDoor
open Go.RowKit Go.Sort
end Go.Proofs.YtmnjlhcbabhhlaaGreatDoor
namespace Go.Proofs.YtmnjlhcbabhhlaaGreatDoor
open Go.RowKit Go.Sort
end Go.Proofs.YtmnjlhcbabhhlaaGreatDoor
namespace Go.Proofs.YtmnjlhcbabhhlaaGreatDoor
open Go.RowKit Go.Sort
theorem set2_cells {w : World} {b : Nat} {x y u v : Value} (h0 : w.cell? ⟨b, 0, none⟩ = some u) (h1 : w.cell? ⟨b, 1, none⟩ = some v) :
  ((w.setCell ⟨b, 0, none⟩ x).setCell ⟨b, 1, none⟩ y).cell? ⟨b, 0, none⟩ = some x ∧ ((w.setCell ⟨b, 0, none⟩ x).setCell ⟨b, 1, none⟩ y).cell? ⟨b, 1, none⟩ = some y :=
 ⟨(World.cell?_setCell_other _ _ _ _ (by simp)).trans (World.cell?_setCell_same _ _ _ h0), World.cell?_setCell_same _ _ _ ((World.cell?_setCell_other _ _ _ _ (by simp)).trans h1)⟩
theorem fr_set2 {α : Type} {E : Ty α} {base : Nat} {w : World} {cs : List Value} {x : α} {b : Nat} {u v : Value} (h : E.Fr base w cs x) (ha : b < base) : E.Fr base ((w.setCell ⟨b, 0, none⟩ u).setCell ⟨b, 1, none⟩ v) cs x := (h.set (a := ⟨b, 0, none⟩) ha).set (a := ⟨b, 1, none⟩) ha
end Go.Proofs.YtmnjlhcbabhhlaaGreatDoor
