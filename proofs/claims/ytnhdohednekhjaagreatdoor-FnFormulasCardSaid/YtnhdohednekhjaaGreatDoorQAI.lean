/-
Plain: the value of a placed formula; a simplified formula has the same value.
The library's contracts, laid at this seat's program. Written by the kit's lay-shelf and lay-plain: its numbers hold for that seat alone (shelf2.py).
Texts: bytes joined; decimal numbers; rows of texts; the library's Join. Contracts of dec, digits, spaced, Decimal.
Texts of instances and formulas: plain, and contracts of the program's InstanceText and FormulaText.
Plain: texts cut at a byte; numbers, atoms and formulas read back from their texts.
Plain: a formula's words read back, the program's way and the reference's; what ReadFormula answers.
Plain: a valid formula's text is read back; a tuple's witness; a tuple at which two formulas differ.
Contracts: a set of tuples with its size and arity: made of a relation, a tuple put into it, its relation.
-/
import Derived.Test.YtnhdohednekhjaaGreatDoorQAH
import Derived.Shelf.Strings.OnBuilder
import Derived.Shelf.Small.Wraps
import Derived.Shelf.Strconv.Itoa4
import Derived.Shelf.Strings.Cut
import Derived.Shelf.Strings.SplitShaped
import Derived.Test.YtnhdohednekhjaaGreatDoorProg
import Derived.Test.YtnhdohednekhjaaGreatDoorQAB
import Derived.Test.YtnhdohednekhjaaGreatDoorQAC
import Derived.Test.YtnhdohednekhjaaGreatDoorQAA
import Derived.Lib.Join
import Derived.Lib.SplitLaws
import Derived.Lib.ParseIntB
import Derived.Test.YtnhdohednekhjaaGreatDoorQAE
import Derived.Test.YtnhdohednekhjaaGreatDoorQAF
namespace Go.Proofs.YtnhdohednekhjaaGreatDoor
open Go.RowKit Go.Sort
section
variable {t : Tpl} {f : Frm}
theorem place_value (hf : frmOk t f) {k : Nat} (hk : 1 ≤ k ∧ k ≤ 4) {ps : List Int} (hp : (ps.length : Int) = f.1) (hpi : ∀ p ∈ ps, 0 ≤ p ∧ p ≤ (k : Int) - 1) (hl : (placeF f k ps).2.1 ≤ 8) :
  frmOk t (placeF f k ps) ∧ ∀ l, l ∈ (vaR t (placeF f k ps)).2 ↔ (tupP t.1 k l ∧ atL l ps ∈ (vaR t f).2) := by
 obtain ⟨n, m, e1, e2, n1, n4, nm, m8, fl, fp⟩ := frm_nat hf
 have hv : (placeF f k ps).2.1 = ((k + m - n : Nat) : Int) := by show (k : Int) + f.2.1 - f.1 = _; omega
 have hpn : ps.length = n := by omega
 have hpg : ∀ i, i < n → 0 ≤ ps.getD i 0 ∧ ps.getD i 0 ≤ (k : Int) - 1 := fun i hi => by
  rw [List.getD_eq_getElem?_getD, List.getElem?_eq_getElem (by omega)]
  exact hpi _ (List.getElem_mem _)
 have hok : frmOk t (placeF f k ps) := by
  refine ⟨hf.1, ⟨⟨by show (1 : Int) ≤ k; omega, by show (k : Int) ≤ 4; omega⟩, ⟨by rw [hv]; show (k : Int) ≤ _; omega, hl⟩, ?_⟩, fun a ha => ?_⟩
  ·show (rnL _ f.2.2).length ≤ 16
   unfold rnL
   rw [List.length_map]
   exact fl
  ·have ha' : a ∈ rnL (placeTo f.1 k ps) f.2.2 := ha
   obtain ⟨b, hb, rfl⟩ := List.mem_map.1 ha'
   refine atom_rn (hf.2.2 b hb) fun p hp => ?_
   have := fp b hb p hp
   rw [hv]
   by_cases c : p < f.1
   ·rw [placeTo_lt c]
    have := hpg p.toNat (by omega)
    omega
   ·rw [placeTo_ge (by omega)]; omega
 refine ⟨hok, fun l => ?_⟩
 rw [va_mem hok (n := k) rfl, va_mem hf e1]
 have hat : ∀ l : List Int, tupP t.1 k l → tupP t.1 n (atL l ps) := fun l hl => ⟨by rw [atL_len, hpn], fun a ha => by
  obtain ⟨p, hp, rfl⟩ := List.mem_map.1 ha
  have := hpi p hp
  rw [List.getD_eq_getElem?_getD, List.getElem?_eq_getElem (by have := hl.1; omega)]
  exact hl.2 _ (List.getElem_mem _)⟩
 have hge : ∀ (l : List Int) (i : Nat), i < n → (atL l ps).getD i 0 = l.getD (ps.getD i 0).toNat 0 := fun l i hi => by
  have e1 : ps.getD i 0 = ps[i] := by rw [List.getD_eq_getElem?_getD, List.getElem?_eq_getElem (by omega)]; rfl
  rw [e1]
  exact getD_map0 (by omega)
 constructor
 ·rintro ⟨hl, x, x1, x2, x3, x4⟩
  rw [hv] at x1
  have hll := hl.1
  rw [hll] at x3
  have x4' : ∀ a ∈ rnL (placeTo f.1 k ps) f.2.2, holdsA t x a = true := x4
  refine ⟨hl, hat l hl, atL l ps ++ x.drop k, by rw [List.length_append, (hat l hl).1, List.length_drop]; omega, fun a ha => (List.mem_append.1 ha).elim ((hat l hl).2 a) (fun h => x2 a (List.mem_of_mem_drop h)), by rw [List.take_left], fun a ha => ?_⟩
  rw [← x4' (a.1, a.2.map (placeTo f.1 k ps)) (List.mem_map.2 ⟨a, ha, rfl⟩)]
  refine (holds_rn fun p hp => ?_).symm
  have := fp a ha p hp
  by_cases c : p < f.1
  ·rw [placeTo_lt c, getD_app_l (by rw [(hat l hl).1]; omega), hge l _ (by omega), ← x3, getD_take' (by have := hpg p.toNat (by omega); omega)]
  ·rw [placeTo_ge (by omega), getD_app_r (by rw [(hat l hl).1]; omega), getD_drop', (hat l hl).1]
   congr 1
   omega
 ·rintro ⟨hl, -, y, y1, y2, y3, y4⟩
  have hll := hl.1
  rw [(hat l hl).1] at y3
  refine ⟨hl, l ++ y.drop n, by rw [hv, List.length_append, List.length_drop]; omega, fun a ha => (List.mem_append.1 ha).elim (hl.2 a) (fun h => y2 a (List.mem_of_mem_drop h)), by rw [List.take_left], fun a ha => ?_⟩
  have ha' : a ∈ rnL (placeTo f.1 k ps) f.2.2 := ha
  obtain ⟨b, hb, rfl⟩ := List.mem_map.1 ha'
  rw [← y4 b hb]
  refine holds_rn fun p hp => ?_
  have := fp b hb p hp
  by_cases c : p < f.1
  ·rw [placeTo_lt c, getD_app_l (by have := hpg p.toNat (by omega); omega), ← hge l _ (by omega), ← y3, getD_take' (by omega)]
  ·rw [placeTo_ge (by omega), getD_app_r (by omega), getD_drop']
   congr 1
   omega
end
/-- values of m variables that begin with a tuple and fulfil atoms -/
def SatL (t : Tpl) (m : Nat) (l : List Int) (ats : Atoms) (x : List Int) : Prop := x.length = m ∧ (∀ a ∈ x, 0 ≤ a ∧ a ≤ t.1 - 1) ∧ x.take l.length = l ∧ ∀ a ∈ ats, holdsA t x a = true
theorem holds_eq2 {t : Tpl} {x : List Int} {a : Int × List Int} (h1 : a.1 = -1) (h2 : a.2.length = 2) : holdsA t x a = true ↔ x.getD (mrgX a).toNat 0 = x.getD (mrgY a).toNat 0 := by
 obtain ⟨r, ps⟩ := a
 obtain ⟨p, q, rfl⟩ := len_two h2
 have h1' : r = -1 := h1
 subst h1'
 rw [holdsA_eq (a := (-1, [p, q])) rfl]
 simp [atL, mrgX, mrgY]
theorem st_sat {t : Tpl} {m : Nat} {l : List Int} {ats : Atoms} {a : Int × List Int} {fr : Int} (hfr : fr = (l.length : Int)) (hok : okL (m : Int) ats) (ha : a ∈ ats) (hm : mrgB fr a = true) (hs : 1 ≤ t.1) :
  (∃ x, SatL t m l ats x) ↔ ∃ x, SatL t m l (stM ats a) x := by
 obtain ⟨h1, h2, h3⟩ := mrgB_iff.1 hm
 obtain ⟨hx, hy⟩ := xy_in hok ha h1
 have hl2 := (hok a ha).2.2 h1
 have hlo : 0 ≤ loA a ∧ loA a < m := by unfold loA; omega
 have hhi : 0 ≤ hiA a ∧ hiA a < m := by unfold hiA; omega
 have hlh : loA a < hiA a := by unfold loA hiA; omega
 constructor
 ·rintro ⟨x, x1, x2, x3, x4⟩
  refine ⟨x, x1, x2, x3, fun b hb => ?_⟩
  obtain ⟨c, hc, rfl⟩ := List.mem_map.1 hb
  rw [← x4 c hc]
  refine holds_rn fun p hp => ?_
  by_cases e : p = hiA a
  ·rw [sub_eq e, e]
   have := (holds_eq2 (x := x) h1 hl2).1 (x4 a ha)
   unfold loA hiA
   rcases Int.lt_or_gt_of_ne h2 with c2 | c2
   ·rw [show min (mrgX a) (mrgY a) = mrgX a by omega, show max (mrgX a) (mrgY a) = mrgY a by omega]; exact this
   ·rw [show min (mrgX a) (mrgY a) = mrgY a by omega, show max (mrgX a) (mrgY a) = mrgX a by omega]; exact this.symm
  ·rw [sub_ne e]
 ·rintro ⟨x, x1, x2, x3, x4⟩
  have hset : ∀ p : Int, 0 ≤ p → p < m → (x.set (hiA a).toNat (x.getD (loA a).toNat 0)).getD p.toNat 0 = x.getD (subTo (loA a) (hiA a) p).toNat 0 := fun p h0 h1 => by
   by_cases e : p = hiA a
   ·rw [sub_eq e, e, List.getD_eq_getElem?_getD, List.getElem?_set_self (by omega)]; rfl
   ·rw [sub_ne e, List.getD_eq_getElem?_getD, List.getElem?_set_ne (by omega), List.getD_eq_getElem?_getD]
  have hxl : 0 ≤ x.getD (loA a).toNat 0 ∧ x.getD (loA a).toNat 0 ≤ t.1 - 1 := by
   rw [List.getD_eq_getElem?_getD, List.getElem?_eq_getElem (by omega)]
   exact x2 _ (List.getElem_mem _)
  refine ⟨x.set (hiA a).toNat (x.getD (loA a).toNat 0), by rw [List.length_set]; exact x1, fun b hb => ?_, ?_, fun b hb => ?_⟩
  ·rcases List.mem_or_eq_of_mem_set hb with hb | rfl
   ·exact x2 b hb
   ·exact hxl
  ·rw [List.take_set, List.set_eq_of_length_le (by rw [List.length_take]; omega)]
   exact x3
  ·rw [← x4 (b.1, b.2.map (subTo (loA a) (hiA a))) (List.mem_map.2 ⟨b, hb, rfl⟩)]
   refine (holds_rn fun p hp => ?_).symm
   obtain ⟨q0, q1⟩ := (hok b hb).1 p hp
   exact (hset p q0 q1).symm
theorem mrg_sat {t : Tpl} {m : Nat} {l : List Int} {fr : Int} (hfr : fr = (l.length : Int)) (hs : 1 ≤ t.1) : ∀ (n : Nat) {ats : Atoms}, okL (m : Int) ats → ((∃ x, SatL t m l ats x) ↔ ∃ x, SatL t m l (mrgL fr n ats) x)
 | 0, _, _ => Iff.rfl
 | n + 1, ats, h => by
  cases hf : ats.find? (mrgB fr) with
  | none => rw [mrgL_none hf]
  | some a =>
   have ha := List.mem_of_find?_eq_some hf
   have hm := List.find?_some hf
   rw [mrgL_some hf, st_sat hfr h ha hm hs]
   exact mrg_sat hfr hs n (ok_st h ha (mrgB_iff.1 hm).1)
theorem less_sat {t : Tpl} {x : List Int} {ats : Atoms} (h2 : eq2 ats) : ∀ k, k ≤ ats.length → ((∀ a ∈ lessL ats k, holdsA t x a = true) ↔ ∀ a ∈ ats.take k, holdsA t x a = true)
 | 0, _ => by rw [less_zero]; simp
 | k + 1, h => by
  have hk : k < ats.length := by omega
  have ih := less_sat (t := t) (x := x) h2 k (by omega)
  rw [less_succ hk, List.take_succ_eq_append_getElem hk]
  have e : (∀ a ∈ ats.take k ++ [ats[k]], holdsA t x a = true) ↔ ((∀ a ∈ ats.take k, holdsA t x a = true) ∧ holdsA t x ats[k] = true) := by
   simp only [List.mem_append, List.mem_singleton]
   exact ⟨fun h => ⟨fun a ha => h a (.inl ha), h _ (.inr rfl)⟩, fun h a ha => ha.elim (h.1 a) fun e => e ▸ h.2⟩
  rw [e, ← ih]
  cases hd : dropB (lessL ats k) ats[k]
  ·rw [less_no hd]
   simp only [List.mem_append, List.mem_singleton]
   exact ⟨fun h => ⟨fun a ha => h a (.inl ha), h _ (.inr rfl)⟩, fun h a ha => ha.elim (h.1 a) fun e => e ▸ h.2⟩
  ·rw [less_yes hd]
   refine ⟨fun h => ⟨h, ?_⟩, fun h => h.1⟩
   unfold dropB at hd
   rcases Bool.or_eq_true_iff.1 hd with hd | hd
   ·simp only [Bool.and_eq_true, beq_iff_eq] at hd
    exact (holds_eq2 hd.1 (h2 _ (List.getElem_mem hk) hd.1)).2 (by rw [hd.2])
   ·unfold anyB at hd
    obtain ⟨b, hb, hb2⟩ := List.any_eq_true.1 hd
    rw [eqB_iff.1 hb2]
    exact h b hb
/-- place numTo of the list of variables -/
theorem var_at {fr K : Nat} {left : Atoms} {v : Int} (h0 : 0 ≤ v) (h1 : v < ((fr + K : Nat) : Int)) (hu : usB left v = true) : (numTo fr left v).toNat < (varS fr left K).length ∧ (varS fr left K).getD (numTo fr left v).toNat 0 = v ∧ 0 ≤ numTo fr left v := by
 have h := var_first h0 h1 hu
 rcases first_find (p := fun a => v == a) (xs := varS fr left K) with ⟨h2, h3⟩ | ⟨k, hk, h2, -, h4⟩
 ·exfalso
  rw [h] at h2
  have : 0 ≤ numTo fr left v := by
   unfold numTo
   split <;> omega
  omega
 ·rw [h] at h2
  rw [h2, Int.toNat_natCast]
  refine ⟨hk, ?_, by omega⟩
  rw [List.getD_eq_getElem?_getD, List.getElem?_eq_getElem hk]
  exact (eq_of_beq h4).symm
theorem upL_at' {n : Nat} {x : List Int} (h : n ≤ x.length) : atL x (upL 0 n) = x.take n := by
 refine List.ext_getElem (by simp [atL, upL]; omega) fun i h1 h2 => ?_
 have hi : i < n := by simp [atL, upL] at h1; exact h1
 simp [atL, upL, List.getElem?_eq_getElem (show i < x.length by omega)]
theorem num_sat {t : Tpl} {n K : Nat} {l : List Int} {left : Atoms} (hl : l.length = n) (hok : okL ((n + K : Nat) : Int) left) (hs : 1 ≤ t.1) :
  (∃ x, SatL t (n + K) l left x) ↔ ∃ y, SatL t (varS n left K).length l (rnL (numTo n left) left) y := by
 have hvl := var_len (fr := n) (left := left) (k := K)
 have hus : ∀ a ∈ left, ∀ p ∈ a.2, (numTo n left p).toNat < (varS n left K).length ∧ (varS n left K).getD (numTo n left p).toNat 0 = p ∧ 0 ≤ numTo n left p := fun a ha p hp => by
  obtain ⟨q0, q1⟩ := (hok a ha).1 p hp
  exact var_at q0 q1 (us_yes ha hp)
 constructor
 ·rintro ⟨x, x1, x2, x3, x4⟩
  refine ⟨atL x (varS n left K), atL_len, fun a ha => ?_, ?_, fun b hb => ?_⟩
  ·obtain ⟨p, hp, rfl⟩ := List.mem_map.1 ha
   have hlt := var_lt p hp
   have h0 : 0 ≤ p := by
    unfold varS at hp
    rcases List.mem_append.1 hp with hp | hp
    ·unfold upL at hp
     obtain ⟨i, -, rfl⟩ := List.mem_map.1 hp
     omega
    ·obtain ⟨i, -, rfl⟩ := List.mem_map.1 (List.mem_filter.1 hp).1
     omega
   rw [List.getD_eq_getElem?_getD, List.getElem?_eq_getElem (by omega)]
   exact x2 _ (List.getElem_mem _)
  ·rw [hl] at x3 ⊢
   have e : atL x (varS n left K) = x.take n ++ atL x (((List.range K).map fun i : Nat => ((n + i : Nat) : Int)).filter (usB left)) := by
    rw [← upL_at' (by omega)]
    unfold varS atL
    rw [List.map_append]
   rw [e, List.take_append_of_le_length (by rw [List.length_take]; omega), List.take_take, Nat.min_self]
   exact x3
  ·obtain ⟨c, hc, rfl⟩ := List.mem_map.1 hb
   rw [← x4 c hc]
   refine holds_rn fun p hp => ?_
   obtain ⟨u1, u2, -⟩ := hus c hc p hp
   have e : (varS n left K).getD (numTo n left p).toNat 0 = (varS n left K)[(numTo n left p).toNat] := by rw [List.getD_eq_getElem?_getD, List.getElem?_eq_getElem u1]; rfl
   have := getD_map0 (x := x) (args := varS n left K) u1
   rw [this, ← e, u2]
 ·rintro ⟨y, y1, y2, y3, y4⟩
  have hyi : ∀ i : Nat, 0 ≤ y.getD i 0 ∧ y.getD i 0 ≤ t.1 - 1 := fun i => by
   rw [List.getD_eq_getElem?_getD]
   rcases Nat.lt_or_ge i y.length with hi | hi
   ·rw [List.getElem?_eq_getElem hi]
    exact y2 _ (List.getElem_mem _)
   ·rw [List.getElem?_eq_none hi]
    exact ⟨Int.le_refl _, by show (0 : Int) ≤ _; omega⟩
  have hg : ∀ p : Int, 0 ≤ p → p < ((n + K : Nat) : Int) → ((List.range (n + K)).map fun i : Nat => y.getD (numTo n left (i : Int)).toNat 0).getD p.toNat 0 = y.getD (numTo n left p).toNat 0 := fun p h0 h1 => by
   rw [List.getD_eq_getElem?_getD, List.getElem?_map, List.getElem?_range (by omega)]
   show y.getD (numTo n left ((p.toNat : Nat) : Int)).toNat 0 = _
   rw [show ((p.toNat : Nat) : Int) = p by omega]
  refine ⟨(List.range (n + K)).map fun i : Nat => y.getD (numTo n left (i : Int)).toNat 0, by simp, fun a ha => ?_, ?_, fun c hc => ?_⟩
  ·obtain ⟨i, -, rfl⟩ := List.mem_map.1 ha
   exact hyi _
  ·rw [hl] at y3 ⊢
   rw [← y3]
   refine List.ext_getElem (by simp; omega) fun i h1 h2 => ?_
   have hi : i < n := by rw [List.length_take] at h1; omega
   rw [List.getElem_take, List.getElem_take, List.getElem_map, List.getElem_range, num_lt (by omega), Int.toNat_natCast, List.getD_eq_getElem?_getD, List.getElem?_eq_getElem (by omega)]
   rfl
  ·rw [← y4 (c.1, c.2.map (numTo n left)) (List.mem_map.2 ⟨c, hc, rfl⟩)]
   refine (holds_rn fun p hp => ?_).symm
   obtain ⟨q0, q1⟩ := (hok c hc).1 p hp
   exact (hg p q0 q1).symm
theorem mrg_atoms {t : Tpl} {m : Int} {fr : Int} : ∀ (n : Nat) {ats : Atoms}, okL m ats → (∀ a ∈ ats, atomOk t m a) → ∀ a ∈ mrgL fr n ats, atomOk t m a
 | 0, _, _, h => h
 | n + 1, ats, hok, h => by
  cases hf : ats.find? (mrgB fr) with
  | none => rw [mrgL_none hf]; exact h
  | some a =>
   have ha := List.mem_of_find?_eq_some hf
   have h1 := (mrgB_iff.1 (List.find?_some hf)).1
   rw [mrgL_some hf]
   refine mrg_atoms n (ok_st hok ha h1) fun b hb => ?_
   obtain ⟨c, hc, rfl⟩ := List.mem_map.1 hb
   refine atom_rn (h c hc) fun p hp => ?_
   have := sub_in hok ha h1 ((hok c hc).1 p hp)
   omega
/-- a simplified formula: it is valid, no greater, and has the same value -/
theorem sim_value {t : Tpl} {f : Frm} (hf : frmOk t f) : frmOk t (simF f) ∧ (simF f).1 = f.1 ∧ (simF f).2.1 ≤ f.2.1 ∧ (simF f).2.2.length ≤ f.2.2.length ∧ vaR t (simF f) = vaR t f := by
 obtain ⟨n, m, e1, e2, n1, n4, nm, m8, fl, fp⟩ := frm_nat hf
 obtain ⟨K, hK⟩ : ∃ K, m = n + K := ⟨m - n, by omega⟩
 subst hK
 have hokL : okL ((n + K : Nat) : Int) f.2.2 := e2 ▸ frm_okL hf
 obtain ⟨hmo, hml⟩ := mrg_keeps (fr := f.1) f.2.2.length hokL
 obtain ⟨hle, hll⟩ := less_mem (l := mrgF f.1 f.2.2) _ (Nat.le_refl _)
 have hml' : (mrgF f.1 f.2.2).length = f.2.2.length := hml
 have hoL : okL ((n + K : Nat) : Int) (lefL f) := fun a ha => hmo a (hle a ha)
 have hat : ∀ a ∈ lefL f, atomOk t ((n + K : Nat) : Int) a := fun a ha => mrg_atoms f.2.2.length hokL (fun b hb => e2 ▸ hf.2.2 b hb) a (hle a ha)
 have hvl := var_len (fr := n) (left := lefL f) (k := K)
 have e3 : f.1.toNat = n := by omega
 have e4 : (f.2.1 - f.1).toNat = K := by omega
 have eF : simF f = (f.1, ((varS n (lefL f) K).length : Int), rnL (numTo n (lefL f)) (lefL f)) := by unfold simF; rw [e3, e4]
 have hrl : (rnL (numTo n (lefL f)) (lefL f)).length = (lefL f).length := rnL_len
 have hlf : (lefL f).length ≤ f.2.2.length := by unfold lefL; omega
 have hs := hf.1.1
 unfold sizeOk at hs
 have hok : frmOk t (simF f) := by
  rw [eF]
  refine ⟨hf.1, ⟨by show 1 ≤ f.1 ∧ f.1 ≤ 4; omega, ⟨by show f.1 ≤ ((varS n (lefL f) K).length : Int); omega, by show ((varS n (lefL f) K).length : Int) ≤ 8; omega⟩, by show (rnL (numTo n (lefL f)) (lefL f)).length ≤ 16; omega⟩, fun a ha => ?_⟩
  have ha' : a ∈ rnL (numTo n (lefL f)) (lefL f) := ha
  obtain ⟨c, hc, rfl⟩ := List.mem_map.1 ha'
  refine atom_rn (hat c hc) fun p hp => ?_
  obtain ⟨q0, q1⟩ := (hoL c hc).1 p hp
  obtain ⟨u1, -, u3⟩ := var_at (K := K) q0 q1 (us_yes hc hp)
  show _ ∧ _ ≤ ((varS n (lefL f) K).length : Int) - 1
  omega
 refine ⟨hok, by rw [eF], by rw [eF, e2]; show ((varS n (lefL f) K).length : Int) ≤ _; omega, by rw [eF]; show (rnL _ (lefL f)).length ≤ _; omega, ?_⟩
 refine rel_ext (va_ok hok) (va_ok hf) (by rw [eF]; rfl) fun l => ?_
 rw [va_mem hok (n := n) (by rw [eF]; exact e1), va_mem hf e1]
 refine and_congr_right fun hl => ?_
 have h1 : ValP t f l ↔ ∃ x, SatL t (n + K) l f.2.2 x := by
  unfold ValP SatL
  rw [e2]
  exact exists_congr fun x => and_congr_left fun _ => by omega
 have h2 : ValP t (simF f) l ↔ ∃ x, SatL t (varS n (lefL f) K).length l (rnL (numTo n (lefL f)) (lefL f)) x := by
  unfold ValP SatL
  rw [eF]
  exact exists_congr fun x => and_congr_left fun _ => by dsimp only; omega
 rw [h1, h2, ← num_sat hl.1 hoL hs.1, mrg_sat (fr := f.1) (by rw [hl.1, e1]) hs.1 f.2.2.length hokL]
 have heq : ∀ x : List Int, (∀ a ∈ lefL f, holdsA t x a = true) ↔ ∀ a ∈ mrgF f.1 f.2.2, holdsA t x a = true := fun x => by
  have := less_sat (t := t) (x := x) (ats := mrgF f.1 f.2.2) (okL_eq2 hmo) (mrgF f.1 f.2.2).length (Nat.le_refl _)
  rw [List.take_length] at this
  exact this
 refine exists_congr fun x => ?_
 unfold SatL
 rw [heq x]
 rfl
end Go.Proofs.YtnhdohednekhjaaGreatDoor
namespace Go.Proofs
open Go.Shelf
def Tryz.lays156_ren : Go.Shelf.Ren := ⟨fun | 156 => 73 | 165 => 156 | 166 => 157 | 169 => 158 | 240 => 222 | 241 => 223 | 276 => 250 | 277 => 251 | n => n, fun | 31 => 101 | 9 => 9 | 3 => 3 | 4 => 4 | 0 => 0 | 20 => 20 | 72 => 179 | 76 => 181 | 70 => 177 | 37 => 22 | 75 => 169 | 127 => 213 | 164 => 240 | 5 => 5 | 80 => 183 | n => n, fun | n => n⟩
theorem Tryz.lays156 : Go.Proofs.Lays.n156 Tryz.prog Tryz.lays156_ren := {
 mixed := by kernel_rfl
 f156 := Tryz.func73.trans (congrArg some (by kernel_rfl))
 f165 := Tryz.func156.trans (congrArg some (by kernel_rfl))
 f166 := Tryz.func157.trans (congrArg some (by kernel_rfl))
 f169 := Tryz.func158.trans (congrArg some (by kernel_rfl))
 f240 := Tryz.func222.trans (congrArg some (by kernel_rfl))
 f241 := Tryz.func223.trans (congrArg some (by kernel_rfl))
 f276 := Tryz.func250.trans (congrArg some (by kernel_rfl))
 f277 := Tryz.func251.trans (congrArg some (by kernel_rfl))
 t0 := Tryz.underlying0
 a0 := Tryz.isAgg0
 z0 := Tryz.sizeOf0
 v0 := Tryz.zeroValue0
 t3 := Tryz.underlying3
 a3 := Tryz.isAgg3
 z3 := Tryz.sizeOf3
 v3 := Tryz.zeroValue3
 t4 := Tryz.underlying4
 a4 := Tryz.isAgg4
 z4 := Tryz.sizeOf4
 v4 := Tryz.zeroValue4
 t9 := Tryz.underlying9
 a9 := Tryz.isAgg9
 z9 := Tryz.sizeOf9
 v9 := Tryz.zeroValue9
 t20 := Tryz.underlying20
 a20 := Tryz.isAgg20
 z20 := Tryz.sizeOf20
 v20 := Tryz.zeroValue20
 t31 := Tryz.underlying101
 a31 := Tryz.isAgg101
 z31 := Tryz.sizeOf101
 v31 := Tryz.zeroValue101
 t37 := Tryz.underlying22
 a37 := Tryz.isAgg22
 z37 := Tryz.sizeOf22
 v37 := Tryz.zeroValue22
 t70 := Tryz.underlying177
 a70 := Tryz.isAgg177
 z70 := Tryz.sizeOf177
 v70 := Tryz.zeroValue177
 t72 := Tryz.underlying179
 a72 := Tryz.isAgg179
 z72 := Tryz.sizeOf179
 v72 := Tryz.zeroValue179
 t75 := Tryz.underlying169
 a75 := Tryz.isAgg169
 z75 := Tryz.sizeOf169
 v75 := Tryz.zeroValue169
 t76 := Tryz.underlying181
 a76 := Tryz.isAgg181
 z76 := Tryz.sizeOf181
 v76 := Tryz.zeroValue181
 t127 := Tryz.underlying213
 a127 := Tryz.isAgg213
 z127 := Tryz.sizeOf213
 v127 := Tryz.zeroValue213
 t164 := Tryz.underlying240
 a164 := Tryz.isAgg240
 z164 := Tryz.sizeOf240
 v164 := Tryz.zeroValue240 }
theorem Tryz.Builder_Extra_156 : Builder.Extra Tryz.prog Tryz.lays156_ren := {
 sizeBuilder := by kernel_rfl
 liesBuilder := by kernel_rfl
 t5 := Tryz.underlying5
 a5 := Tryz.isAgg5
 z5 := Tryz.sizeOf5
 v5 := Tryz.zeroValue5
 infoByte := by kernel_rfl
 cellsByte := by kernel_rfl
 sizeByte := by kernel_rfl
 neB5 := by decide }
open Go.RowKit in
/-- No element: the empty string; the world is as it was. (Whatever the slice's address and capacity: a nil slice too.) (LAID: no walk: one application.) -/
theorem Tryz.strings_Join_none (a : Option Addr) (c : Nat) (sep : ByteArray) (w : World) :
  Calls Tryz.prog 73 #[.slice a 0 c, .string sep] w fun e w' => e = .returned (.string ⟨#[]⟩) ∧ w' = w := Any.strings_Join_none Tryz.lays156 Tryz.Builder_Extra_156 a c sep w
open Go.RowKit in
/-- strings.Join: "Join concatenates the elements of its first argument to create a single string. The separator string sep is placed between elements in the resulting string.": HOWEVER MANY ELEMENTS. Below the heap's end the world is as it was. (LAID: no walk: one application.) -/
theorem Tryz.strings_Join (bk o c : Nat) (xs : List ByteArray) (sep : ByteArray) (w : World) (hcells : ∀ (j : Nat) x, xs[j]? = some x → w.cell? ⟨bk, o + j, none⟩ = some (.string x)) (hbk : bk < w.heap.size) (hN : xs.length ≤ 140737488355328) (hcap : xs.length ≤ c) (hlen : (Lib.join (xs.map (·.data.toList)) sep.data.toList).length ≤ 140737488355328) :
  Calls Tryz.prog 73 #[.slice (some ⟨bk, o, none⟩) xs.length c, .string sep] w fun e w' => e = .returned (.string ⟨(Lib.join (xs.map (·.data.toList)) sep.data.toList).toArray⟩) ∧ Below w.heap.size w w' := Any.strings_Join Tryz.lays156 Tryz.Builder_Extra_156 bk o c xs sep w hcells hbk hN hcap hlen
def Tryz.lays103_ren : Go.Shelf.Ren := ⟨fun | 103 => 153 | 210 => 220 | 206 => 245 | n => n, fun | 9 => 9 | 4 => 4 | 24 => 174 | 3 => 3 | n => n, fun | n => n⟩
theorem Tryz.lays103 : Go.Proofs.Lays.n103 Tryz.prog Tryz.lays103_ren := {
 mixed := by kernel_rfl
 f103 := Tryz.func153.trans (congrArg some (by kernel_rfl))
 f206 := Tryz.func245.trans (congrArg some (by kernel_rfl))
 f210 := Tryz.func220.trans (congrArg some (by kernel_rfl))
 t3 := Tryz.underlying3
 a3 := Tryz.isAgg3
 z3 := Tryz.sizeOf3
 v3 := Tryz.zeroValue3
 t4 := Tryz.underlying4
 a4 := Tryz.isAgg4
 z4 := Tryz.sizeOf4
 v4 := Tryz.zeroValue4
 t9 := Tryz.underlying9
 a9 := Tryz.isAgg9
 z9 := Tryz.sizeOf9
 v9 := Tryz.zeroValue9
 t24 := Tryz.underlying174
 a24 := Tryz.isAgg174
 z24 := Tryz.sizeOf174
 v24 := Tryz.zeroValue174 }
open Go.RowKit in
/-- strings.CutPrefix: "CutPrefix returns s without the provided leading prefix string and reports whether it found the prefix. If s doesn't start with prefix, CutPrefix returns s, false. If prefix is the empty string, CutPrefix returns s, true.": IT RETURNS '(Lib.trimPrefix s p, Lib.hasPrefix s p)'; the world is as it was. (LAID: no walk: one application.) -/
theorem Tryz.strings_CutPrefix (s p : ByteArray) (w : World) :
  Calls Tryz.prog 153 #[.string s, .string p] w fun e w' => e = .returned (.tuple #[.string ⟨(Lib.trimPrefix s.data.toList p.data.toList).toArray⟩, .bool (Lib.hasPrefix s.data.toList p.data.toList)]) ∧ w' = w := Any.strings_CutPrefix Tryz.lays103 s p w
def Tryz.laysM173_ren : Go.Shelf.Ren := ⟨fun | 173 => 155 | 246 => 221 | 283 => 246 | 284 => 247 | 285 => 248 | 286 => 249 | 129 => 268 | 317 => 267 | 318 => 269 | 319 => 270 | 320 => 271 | 337 => 285 | 338 => 286 | n => n, fun | 2 => 2 | 3 => 3 | 9 => 9 | 4 => 4 | 171 => 235 | 0 => 0 | 53 => 155 | 37 => 22 | 5 => 5 | 173 => 238 | 212 => 258 | 51 => 245 | 20 => 20 | 213 => 259 | 46 => 208 | 232 => 283 | 233 => 284 | n => n, fun | 17 => 3 | 18 => 6 | 19 => 7 | n => n⟩
theorem Tryz.laysM173 : Go.Proofs.LaysM.n173 Tryz.prog Tryz.laysM173_ren := {
 mixed := by kernel_rfl
 f129 := Tryz.func268.trans (congrArg some (by kernel_rfl))
 f173 := Tryz.func155.trans (congrArg some (by kernel_rfl))
 f246 := Tryz.func221.trans (congrArg some (by kernel_rfl))
 f283 := Tryz.func246.trans (congrArg some (by kernel_rfl))
 f284 := Tryz.func247.trans (congrArg some (by kernel_rfl))
 f285 := Tryz.func248.trans (congrArg some (by kernel_rfl))
 f286 := Tryz.func249.trans (congrArg some (by kernel_rfl))
 f317 := Tryz.func267.trans (congrArg some (by kernel_rfl))
 f318 := Tryz.func269.trans (congrArg some (by kernel_rfl))
 f319 := Tryz.func270.trans (congrArg some (by kernel_rfl))
 f320 := Tryz.func271.trans (congrArg some (by kernel_rfl))
 f337 := Tryz.func285.trans (congrArg some (by kernel_rfl))
 f338 := Tryz.func286.trans (congrArg some (by kernel_rfl))
 t0 := Tryz.underlying0
 a0 := Tryz.isAgg0
 z0 := Tryz.sizeOf0
 v0 := Tryz.zeroValue0
 t2 := Tryz.underlying2
 a2 := Tryz.isAgg2
 z2 := Tryz.sizeOf2
 v2 := Tryz.zeroValue2
 t3 := Tryz.underlying3
 a3 := Tryz.isAgg3
 z3 := Tryz.sizeOf3
 v3 := Tryz.zeroValue3
 t4 := Tryz.underlying4
 a4 := Tryz.isAgg4
 z4 := Tryz.sizeOf4
 v4 := Tryz.zeroValue4
 t5 := Tryz.underlying5
 a5 := Tryz.isAgg5
 z5 := Tryz.sizeOf5
 v5 := Tryz.zeroValue5
 t9 := Tryz.underlying9
 a9 := Tryz.isAgg9
 z9 := Tryz.sizeOf9
 v9 := Tryz.zeroValue9
 t20 := Tryz.underlying20
 a20 := Tryz.isAgg20
 z20 := Tryz.sizeOf20
 v20 := Tryz.zeroValue20
 t37 := Tryz.underlying22
 a37 := Tryz.isAgg22
 z37 := Tryz.sizeOf22
 v37 := Tryz.zeroValue22
 t46 := Tryz.underlying208
 a46 := Tryz.isAgg208
 z46 := Tryz.sizeOf208
 v46 := Tryz.zeroValue208
 t51 := Tryz.underlying245
 a51 := Tryz.isAgg245
 z51 := Tryz.sizeOf245
 v51 := Tryz.zeroValue245
 t53 := Tryz.underlying155
 a53 := Tryz.isAgg155
 z53 := Tryz.sizeOf155
 v53 := Tryz.zeroValue155
 t171 := Tryz.underlying235
 a171 := Tryz.isAgg235
 z171 := Tryz.sizeOf235
 v171 := Tryz.zeroValue235
 t173 := Tryz.underlying238
 a173 := Tryz.isAgg238
 z173 := Tryz.sizeOf238
 v173 := Tryz.zeroValue238
 t212 := Tryz.underlying258
 a212 := Tryz.isAgg258
 z212 := Tryz.sizeOf258
 v212 := Tryz.zeroValue258
 t213 := Tryz.underlying259
 a213 := Tryz.isAgg259
 z213 := Tryz.sizeOf259
 t232 := Tryz.underlying283
 a232 := Tryz.isAgg283
 z232 := Tryz.sizeOf283
 v232 := Tryz.zeroValue283
 t233 := Tryz.underlying284
 a233 := Tryz.isAgg284
 z233 := Tryz.sizeOf284
 v233 := Tryz.zeroValue284
 g17 := by kernel_rfl
 g18 := by kernel_rfl
 g19 := by kernel_rfl
 i0 := by kernel_rfl
 i2 := by kernel_rfl
 i3 := by kernel_rfl
 i4 := by kernel_rfl
 i5 := by kernel_rfl
 i9 := by kernel_rfl
 i20 := by kernel_rfl
 i37 := by kernel_rfl
 i46 := by kernel_rfl
 i51 := by kernel_rfl
 i53 := by kernel_rfl
 i171 := by kernel_rfl
 i173 := by kernel_rfl
 i212 := by kernel_rfl
 i232 := by kernel_rfl
 i233 := by kernel_rfl
 m17 := by kernel_rfl
 m18 := by kernel_rfl
 m19 := by kernel_rfl }
open Go.RowKit Go.Sort Go.Lib in
/-- strconv.FormatInt: "FormatInt returns the string representation of i in the given base": AT BASE 10: i's decimal numeral, for every int64. (LAID: no walk: one application.) -/
theorem Tryz.strconv_FormatInt_10 (n : Int) (h0 : -9223372036854775808 ≤ n) (h1 : n ≤ 9223372036854775807) (w : World) (htab : Lib.TabIs Tryz.prog w "internal/strconv.uint64pow10" .u64 Lib.pow10Tab) :
  Calls Tryz.prog 155 #[.int .i64 n, .int .i64 10] w fun e w' => e = .returned (.string ⟨(Lib.itoa n).toArray⟩) ∧ ∃ k os, w' = grow (w.drewN k) os := Any.strconv_FormatInt_10 Tryz.laysM173 n h0 h1 w htab
def Tryz.lays173_ren : Go.Shelf.Ren := ⟨fun | 173 => 155 | 246 => 221 | 283 => 246 | 284 => 247 | 285 => 248 | 286 => 249 | 129 => 268 | 317 => 267 | 318 => 269 | 319 => 270 | 320 => 271 | 337 => 285 | 338 => 286 | n => n, fun | 2 => 2 | 3 => 3 | 9 => 9 | 4 => 4 | 171 => 235 | 0 => 0 | 53 => 155 | 37 => 22 | 5 => 5 | 173 => 238 | 212 => 258 | 51 => 245 | 20 => 20 | 213 => 259 | 46 => 208 | 232 => 283 | 233 => 284 | n => n, fun | 17 => 3 | 18 => 6 | 19 => 7 | n => n⟩
theorem Tryz.lays173 : Go.Proofs.Lays.n173 Tryz.prog Tryz.lays173_ren := {
 mixed := by kernel_rfl
 f129 := Tryz.func268.trans (congrArg some (by kernel_rfl))
 f173 := Tryz.func155.trans (congrArg some (by kernel_rfl))
 f246 := Tryz.func221.trans (congrArg some (by kernel_rfl))
 f283 := Tryz.func246.trans (congrArg some (by kernel_rfl))
 f284 := Tryz.func247.trans (congrArg some (by kernel_rfl))
 f285 := Tryz.func248.trans (congrArg some (by kernel_rfl))
 f286 := Tryz.func249.trans (congrArg some (by kernel_rfl))
 f317 := Tryz.func267.trans (congrArg some (by kernel_rfl))
 f318 := Tryz.func269.trans (congrArg some (by kernel_rfl))
 f319 := Tryz.func270.trans (congrArg some (by kernel_rfl))
 f320 := Tryz.func271.trans (congrArg some (by kernel_rfl))
 f337 := Tryz.func285.trans (congrArg some (by kernel_rfl))
 f338 := Tryz.func286.trans (congrArg some (by kernel_rfl))
 t0 := Tryz.underlying0
 a0 := Tryz.isAgg0
 z0 := Tryz.sizeOf0
 v0 := Tryz.zeroValue0
 t2 := Tryz.underlying2
 a2 := Tryz.isAgg2
 z2 := Tryz.sizeOf2
 v2 := Tryz.zeroValue2
 t3 := Tryz.underlying3
 a3 := Tryz.isAgg3
 z3 := Tryz.sizeOf3
 v3 := Tryz.zeroValue3
 t4 := Tryz.underlying4
 a4 := Tryz.isAgg4
 z4 := Tryz.sizeOf4
 v4 := Tryz.zeroValue4
 t5 := Tryz.underlying5
 a5 := Tryz.isAgg5
 z5 := Tryz.sizeOf5
 v5 := Tryz.zeroValue5
 t9 := Tryz.underlying9
 a9 := Tryz.isAgg9
 z9 := Tryz.sizeOf9
 v9 := Tryz.zeroValue9
 t20 := Tryz.underlying20
 a20 := Tryz.isAgg20
 z20 := Tryz.sizeOf20
 v20 := Tryz.zeroValue20
 t37 := Tryz.underlying22
 a37 := Tryz.isAgg22
 z37 := Tryz.sizeOf22
 v37 := Tryz.zeroValue22
 t46 := Tryz.underlying208
 a46 := Tryz.isAgg208
 z46 := Tryz.sizeOf208
 v46 := Tryz.zeroValue208
 t51 := Tryz.underlying245
 a51 := Tryz.isAgg245
 z51 := Tryz.sizeOf245
 v51 := Tryz.zeroValue245
 t53 := Tryz.underlying155
 a53 := Tryz.isAgg155
 z53 := Tryz.sizeOf155
 v53 := Tryz.zeroValue155
 t171 := Tryz.underlying235
 a171 := Tryz.isAgg235
 z171 := Tryz.sizeOf235
 v171 := Tryz.zeroValue235
 t173 := Tryz.underlying238
 a173 := Tryz.isAgg238
 z173 := Tryz.sizeOf238
 v173 := Tryz.zeroValue238
 t212 := Tryz.underlying258
 a212 := Tryz.isAgg258
 z212 := Tryz.sizeOf258
 v212 := Tryz.zeroValue258
 t213 := Tryz.underlying259
 a213 := Tryz.isAgg259
 z213 := Tryz.sizeOf259
 t232 := Tryz.underlying283
 a232 := Tryz.isAgg283
 z232 := Tryz.sizeOf283
 v232 := Tryz.zeroValue283
 t233 := Tryz.underlying284
 a233 := Tryz.isAgg284
 z233 := Tryz.sizeOf284
 v233 := Tryz.zeroValue284
 g17 := by kernel_rfl
 g18 := by kernel_rfl
 g19 := by kernel_rfl }
open Go.RowKit Go.Sort Go.Lib in
/-- THE ROAD WITHOUT THE TABLE: 0 <= i < 100. (LAID: no walk: one application.) -/
theorem Tryz.strconv_FormatInt_10_small (i : Nat) (hi : i < 100) (w : World) :
  Calls Tryz.prog 155 #[.int .i64 i, .int .i64 10] w fun e w' => e = .returned (.string ⟨(Lib.decDigits i).toArray⟩) ∧ w' = w := Any.strconv_FormatInt_10_small Tryz.lays173 i hi w
def Tryz.lays145_ren : Go.Shelf.Ren := ⟨fun | 145 => 152 | 220 => 219 | 219 => 239 | 217 => 258 | 225 => 259 | 224 => 260 | 267 => 261 | 266 => 282 | 314 => 283 | n => n, fun | 9 => 9 | 4 => 4 | 59 => 172 | 3 => 3 | 5 => 5 | 46 => 208 | 146 => 246 | 51 => 245 | n => n, fun | 1 => 0 | n => n⟩
theorem Tryz.lays145 : Go.Proofs.Lays.n145 Tryz.prog Tryz.lays145_ren := {
 mixed := by kernel_rfl
 f145 := Tryz.func152.trans (congrArg some (by kernel_rfl))
 f217 := Tryz.func258.trans (congrArg some (by kernel_rfl))
 f219 := Tryz.func239.trans (congrArg some (by kernel_rfl))
 f220 := Tryz.func219.trans (congrArg some (by kernel_rfl))
 f224 := Tryz.func260.trans (congrArg some (by kernel_rfl))
 f225 := Tryz.func259.trans (congrArg some (by kernel_rfl))
 f266 := Tryz.func282.trans (congrArg some (by kernel_rfl))
 f267 := Tryz.func261.trans (congrArg some (by kernel_rfl))
 f314 := Tryz.func283.trans (congrArg some (by kernel_rfl))
 t3 := Tryz.underlying3
 a3 := Tryz.isAgg3
 z3 := Tryz.sizeOf3
 v3 := Tryz.zeroValue3
 t4 := Tryz.underlying4
 a4 := Tryz.isAgg4
 z4 := Tryz.sizeOf4
 v4 := Tryz.zeroValue4
 t5 := Tryz.underlying5
 a5 := Tryz.isAgg5
 z5 := Tryz.sizeOf5
 v5 := Tryz.zeroValue5
 t9 := Tryz.underlying9
 a9 := Tryz.isAgg9
 z9 := Tryz.sizeOf9
 v9 := Tryz.zeroValue9
 t46 := Tryz.underlying208
 a46 := Tryz.isAgg208
 z46 := Tryz.sizeOf208
 v46 := Tryz.zeroValue208
 t51 := Tryz.underlying245
 a51 := Tryz.isAgg245
 z51 := Tryz.sizeOf245
 v51 := Tryz.zeroValue245
 t59 := Tryz.underlying172
 a59 := Tryz.isAgg172
 z59 := Tryz.sizeOf172
 v59 := Tryz.zeroValue172
 t146 := Tryz.underlying246
 a146 := Tryz.isAgg246
 z146 := Tryz.sizeOf246
 v146 := Tryz.zeroValue246
 g1 := by kernel_rfl }
open Go.RowKit Go.Lib in
/-- strings.Cut: "Cut slices s around the first instance of sep, returning the text before and after sep. The found result reports whether sep appears in s. If sep does not appear in s, cut returns s, "", false.": IT RETURNS 'Lib.cut s sep'; the world is as it was but for the count of draws. (LAID: no walk: one application.) -/
theorem Tryz.strings_Cut (s sep : ByteArray) (m : Int) (w : World) (hs : s.size < 4294967281) (hm : w.cell? ⟨0, 0, none⟩ = some (.int .i64 m)) :
  Calls Tryz.prog 152 #[.string s, .string sep] w fun e w' => e = .returned (.tuple #[.string ⟨(Lib.cut s.data.toList sep.data.toList).1.toArray⟩, .string ⟨(Lib.cut s.data.toList sep.data.toList).2.1.toArray⟩, .bool (Lib.cut s.data.toList sep.data.toList).2.2]) ∧ ∃ n, w' = w.drewN n := Any.strings_Cut Tryz.lays145 s sep m w hs hm
def Tryz.lays146_ren : Go.Shelf.Ren := ⟨fun | 146 => 67 | 221 => 150 | 268 => 214 | 138 => 215 | 143 => 216 | 195 => 236 | 197 => 237 | 218 => 238 | 219 => 239 | 260 => 257 | 217 => 258 | 225 => 259 | 224 => 260 | 267 => 261 | 266 => 282 | 314 => 283 | n => n, fun | 9 => 9 | 31 => 101 | 3 => 3 | 4 => 4 | 0 => 0 | 105 => 224 | 21 => 21 | 5 => 5 | 46 => 208 | 119 => 269 | 139 => 272 | 138 => 271 | 146 => 246 | 51 => 245 | n => n, fun | 1 => 0 | 3 => 4 | 4 => 5 | n => n⟩
theorem Tryz.lays146 : Go.Proofs.Lays.n146 Tryz.prog Tryz.lays146_ren := {
 mixed := by kernel_rfl
 f138 := Tryz.func215.trans (congrArg some (by kernel_rfl))
 f143 := Tryz.func216.trans (congrArg some (by kernel_rfl))
 f146 := Tryz.func67.trans (congrArg some (by kernel_rfl))
 f195 := Tryz.func236.trans (congrArg some (by kernel_rfl))
 f197 := Tryz.func237.trans (congrArg some (by kernel_rfl))
 f217 := Tryz.func258.trans (congrArg some (by kernel_rfl))
 f218 := Tryz.func238.trans (congrArg some (by kernel_rfl))
 f219 := Tryz.func239.trans (congrArg some (by kernel_rfl))
 f221 := Tryz.func150.trans (congrArg some (by kernel_rfl))
 f224 := Tryz.func260.trans (congrArg some (by kernel_rfl))
 f225 := Tryz.func259.trans (congrArg some (by kernel_rfl))
 f260 := Tryz.func257.trans (congrArg some (by kernel_rfl))
 f266 := Tryz.func282.trans (congrArg some (by kernel_rfl))
 f267 := Tryz.func261.trans (congrArg some (by kernel_rfl))
 f268 := Tryz.func214.trans (congrArg some (by kernel_rfl))
 f314 := Tryz.func283.trans (congrArg some (by kernel_rfl))
 t0 := Tryz.underlying0
 a0 := Tryz.isAgg0
 z0 := Tryz.sizeOf0
 v0 := Tryz.zeroValue0
 t3 := Tryz.underlying3
 a3 := Tryz.isAgg3
 z3 := Tryz.sizeOf3
 v3 := Tryz.zeroValue3
 t4 := Tryz.underlying4
 a4 := Tryz.isAgg4
 z4 := Tryz.sizeOf4
 v4 := Tryz.zeroValue4
 t5 := Tryz.underlying5
 a5 := Tryz.isAgg5
 z5 := Tryz.sizeOf5
 v5 := Tryz.zeroValue5
 t9 := Tryz.underlying9
 a9 := Tryz.isAgg9
 z9 := Tryz.sizeOf9
 v9 := Tryz.zeroValue9
 t21 := Tryz.underlying21
 a21 := Tryz.isAgg21
 z21 := Tryz.sizeOf21
 v21 := Tryz.zeroValue21
 t31 := Tryz.underlying101
 a31 := Tryz.isAgg101
 z31 := Tryz.sizeOf101
 v31 := Tryz.zeroValue101
 t46 := Tryz.underlying208
 a46 := Tryz.isAgg208
 z46 := Tryz.sizeOf208
 v46 := Tryz.zeroValue208
 t51 := Tryz.underlying245
 a51 := Tryz.isAgg245
 z51 := Tryz.sizeOf245
 v51 := Tryz.zeroValue245
 t105 := Tryz.underlying224
 a105 := Tryz.isAgg224
 z105 := Tryz.sizeOf224
 v105 := Tryz.zeroValue224
 t119 := Tryz.underlying269
 a119 := Tryz.isAgg269
 z119 := Tryz.sizeOf269
 t138 := Tryz.underlying271
 a138 := Tryz.isAgg271
 z138 := Tryz.sizeOf271
 v138 := Tryz.zeroValue271
 t139 := Tryz.underlying272
 a139 := Tryz.isAgg272
 z139 := Tryz.sizeOf272
 v139 := Tryz.zeroValue272
 t146 := Tryz.underlying246
 a146 := Tryz.isAgg246
 z146 := Tryz.sizeOf246
 v146 := Tryz.zeroValue246
 g1 := by kernel_rfl
 g3 := by kernel_rfl
 g4 := by kernel_rfl }
open Go.RowKit Go.Lib in
/-- strings.Split. (LAID: no walk: one application.) -/
theorem Tryz.strings_Split (s sep : ByteArray) (m : Int) (w : World) (hs : s.size < 4294967281) (hm : w.cell? ⟨0, 0, none⟩ = some (.int .i64 m)) (h1 : 1 ≤ sep.size) :
  Calls Tryz.prog 67 #[.string s, .string sep] w fun e w' =>
   e = .returned (.slice (some ⟨w.heap.size, 0, none⟩) (Lib.countB s sep + 1) (Lib.countB s sep + 1)) ∧ w' = w.alloc (.cells ((Lib.splitB sep 0 (Lib.countB s sep) s).map Value.string).toArray 9) := Any.strings_Split Tryz.lays146 (by kernel_rfl) s sep m w hs hm h1
end Go.Proofs
namespace Go.Proofs.YtnhdohednekhjaaGreatDoor
open Go.RowKit Go.Sort
theorem ex_sl {α : Type} {E : Ty α} {base : Nat} {w : World} {u : Value} {x : List α} (h : (Ty.slice E).Fr base w [u] x) : ∃ ad n cap, u = .slice ad n cap := let ⟨a, c, h⟩ := fr_slice h; ⟨a, _, c, h⟩
theorem news1s {w : World} {u : Value} {T : TypeId} {B : Nat} (hB : B = w.heap.size) : ∀ j x, [u][j]? = some x → (w.alloc (.cells #[u] T)).cell? ((⟨B, 0, none⟩ : Addr).add j) = some x := by subst hB; exact news1
/-- bytes joined, behind a name -/
def cat (a b : List UInt8) : List UInt8 := a ++ b
theorem cat_len {a b : List UInt8} : (cat a b).length = a.length + b.length := List.length_append
theorem add_cat {P : Program} (w : World) (a b : List UInt8) (h : a.length + b.length ≤ 1000000000) : (Op.stringOp .add ⟨a.toArray⟩ ⟨b.toArray⟩).run P w = .ok (.string ⟨(cat a b).toArray⟩) w := by
 have h1 : (ByteArray.mk a.toArray).size = a.length := by show a.toArray.size = _; simp
 have h2 : (ByteArray.mk b.toArray).size = b.length := by show b.toArray.size = _; simp
 rw [run_string_add_sum w _ _ (by rw [h1, h2]; omega), ByteArray.mk_append_mk]
 simp [cat]
/-- a number's digits -/
def decB (n : Int) : List UInt8 := Lib.decDigits n.toNat
theorem dec_one {n : Int} (h0 : 0 ≤ n) (h1 : n < 10) : decB n = [UInt8.ofNat (48 + n.toNat)] := Lib.decDigits_one (by omega)
theorem dec_two {n : Int} (h0 : 10 ≤ n) (h1 : n < 100) : decB n = cat (decB (n / 10)) [UInt8.ofNat (48 + (n % 10).toNat)] := by
 unfold decB cat
 rw [Lib.decDigits, dif_neg (by omega), show (n / 10).toNat = n.toNat / 10 by omega, show (n % 10).toNat = n.toNat % 10 by omega]
theorem dec_len {n : Int} (h1 : n < 100) : 1 ≤ (decB n).length ∧ (decB n).length ≤ 2 := by
 by_cases h : n < 10
 ·unfold decB; rw [Lib.decDigits_one (by omega)]; simp
 ·rw [dec_two (by omega) h1, cat_len, dec_one (by omega) (by omega)]; simp
/-- a text, and behind it each one's part -/
def catL {α : Type} (f : α → List UInt8) (hd : List UInt8) (xs : List α) : List UInt8 := hd ++ (xs.map f).flatten
section
variable {α : Type} {f : α → List UInt8} {hd : List UInt8} {xs : List α}
theorem catL_succ {k : Nat} (h : k < xs.length) : catL f hd (xs.take (k + 1)) = cat (catL f hd (xs.take k)) (f xs[k]) := by
 unfold catL cat
 rw [List.take_succ_eq_append_getElem h, List.map_append, List.flatten_append]
 simp only [List.map_cons, List.map_nil, List.flatten_cons, List.flatten_nil, List.append_nil, List.append_assoc]
theorem flatB_len {B : Nat} : ∀ {ys : List α}, (∀ x ∈ ys, (f x).length ≤ B) → ((ys.map f).flatten).length ≤ ys.length * B
 | [], _ => by simp
 | y :: ys, hB => by
  have h1 := hB y (List.mem_cons_self ..)
  have h2 := flatB_len fun z hz => hB z (List.mem_cons_of_mem _ hz)
  simp only [List.map_cons, List.flatten_cons, List.length_append, List.length_cons, Nat.succ_mul]
  omega
theorem catL_len {B : Nat} (hB : ∀ x ∈ xs, (f x).length ≤ B) : (catL f hd xs).length ≤ hd.length + xs.length * B := by
 unfold catL
 rw [List.length_append]
 have := flatB_len hB
 omega
end
def Ty.str : Ty (List UInt8) where
 sz := 1
 rd := fun _ cs l fp => cs = [.string ⟨l.toArray⟩] ∧ fp = []
 len := by rintro _ _ _ _ ⟨rfl, _⟩; rfl
 same := fun h _ => h
 lt := by rintro _ _ _ _ ⟨rfl, rfl⟩ k hk; cases hk
 one := by rintro _ _ _ _ ⟨rfl, _⟩ u hu; simp at hu; subst hu; rfl
theorem fr_str {base : Nat} {w : World} {l : List UInt8} : Ty.str.Fr base w [.string ⟨l.toArray⟩] l := ⟨[], ⟨rfl, rfl⟩, List.nodup_nil, by simp, fun b hb => by cases hb⟩
theorem strs_ex {w : World} {cs : List Value} {xs : List (List UInt8)} (h : (Ty.slice Ty.str).Rd w cs xs) :
  ∃ ad cap, cs = [.slice ad xs.length cap] ∧ xs.length ≤ cap ∧ xs.length ≤ 140737488351232 ∧
   (0 < xs.length → ∃ b o, ad = some ⟨b, o, none⟩ ∧ b < w.heap.size ∧ ∀ i (h : i < xs.length), w.cell? ⟨b, o + i, none⟩ = some (.string ⟨(xs[i]).toArray⟩)) := by
 obtain ⟨ad, cap, h1, h2, h3, h4⟩ := Ty.slice_ex h
 refine ⟨ad, cap, h1, h2, h3, fun hp => ?_⟩
 obtain ⟨b, o, h5, h6, h7⟩ := h4 hp
 refine ⟨b, o, h5, h6, fun i hi => ?_⟩
 obtain ⟨cs, ⟨fp, rfl, h9⟩, h10⟩ := h7 i hi
 simpa [Ty.str] using h10 0 (by simp)
theorem elStr : ElT Tryz.prog 101 9 1 16 := .mk (z := .string ⟨#[]⟩) Tryz.underlying101 (by kernel_rfl) rfl (by decide)
theorem Join_any (w : World) {v : Value} {xs : List (List UInt8)} (h : (Ty.slice Ty.str).Rd w [v] xs) (sep : List UInt8) (hl : (Lib.join xs sep).length ≤ 1000000000) :
  Calls Tryz.prog 73 #[v, .string ⟨sep.toArray⟩] w fun e w' => e = .returned (.string ⟨(Lib.join xs sep).toArray⟩) ∧ Below w.heap.size w w' := by
 obtain ⟨ad, cap, hv, h1, h2, h3⟩ := strs_ex h
 obtain rfl : v = _ := by simpa using hv
 rcases Nat.eq_zero_or_pos xs.length with h0 | h0
 ·obtain rfl := List.length_eq_zero_iff.1 h0
  refine (Tryz.strings_Join_none ad cap ⟨sep.toArray⟩ w).mono ?_
  rintro e w' ⟨rfl, rfl⟩
  exact ⟨rfl, Below.refl _ _⟩
 ·obtain ⟨b, o, rfl, hb, hc⟩ := h3 h0
  have e1 : (xs.map fun l => (⟨l.toArray⟩ : ByteArray)).map (·.data.toList) = xs := by rw [List.map_map]; exact (List.map_congr_left fun l _ => by simp).trans (List.map_id xs)
  have key := Tryz.strings_Join b o cap (xs.map fun l => ⟨l.toArray⟩) ⟨sep.toArray⟩ w (fun j x hj => by
   rw [List.getElem?_map] at hj
   obtain ⟨y, hy, rfl⟩ := Option.map_eq_some_iff.1 hj
   obtain ⟨hj', rfl⟩ := List.getElem?_eq_some_iff.1 hy
   exact hc j hj') hb (by rw [List.length_map]; omega) (by rw [List.length_map]; exact h1) (by rw [e1]; show (Lib.join xs sep.toArray.toList).length ≤ _; simp; omega)
  rw [List.length_map, e1] at key
  refine key.mono ?_
  rintro e w' ⟨rfl, hb'⟩
  exact ⟨rfl, hb'⟩
theorem dec_any (w : World) {n : Int} (h0 : 0 ≤ n) (h1 : n < 100) : Calls Tryz.prog 71 #[.int .i64 n] w fun e w' => e = .returned (.string ⟨(decB n).toArray⟩) ∧ w = w' := by
 obtain ⟨k, rfl⟩ : ∃ k : Nat, n = k := ⟨n.toNat, by omega⟩
 have HK : Hid (Lib.decDigits k = decB k) := rfl
 go_enter Tryz.func71, Tryz.ntmps71
 go_wp2_with (go_at_call 155; refine (Tryz.strconv_FormatInt_10_small k (by omega) _).mono ?_; rintro e w' ⟨rfl, rfl⟩)
 go_ret
 exact ⟨by rw [HK.out]; rfl, rfl⟩
theorem digits_any (w : World) {v : Value} {xs : List Int} (h : intsT.Rd w [v] xs) (hx : ∀ a ∈ xs, 0 ≤ a ∧ a < 100) (hl : xs.length ≤ 1000) :
  Calls Tryz.prog 72 #[v] w fun e w' => e = .returned (.string ⟨(catL decB [] xs).toArray⟩) ∧ w = w' := by
 obtain ⟨ad, cap, hv, -, -, hc⟩ := ints_ex h
 obtain rfl : v = _ := by simpa using hv
 clear h hv
 go_enter Tryz.func72, Tryz.ntmps72
 go_wp2_with fail
 go_loopw [3, 8] (fun c i wr => ∃ k : Nat, k ≤ xs.length ∧ i = .int .i64 k ∧ c = .string ⟨(catL decB [] (xs.take k)).toArray⟩ ∧ wr = w) (fun _ i _ => xs.length - (intOf i).toNat)
 case atStart => exact ⟨0, Nat.zero_le _, rfl, by simp [catL], rfl⟩
 case round =>
  obtain ⟨k, hk, rfl, rfl, rfl⟩ := hrel
  by_cases hkl : k < xs.length
  ·obtain ⟨b, o, rfl, hb, hce⟩ := hc (by omega)
   obtain ⟨hI, hck⟩ := hce k hkl
   have hin := hx _ (List.getElem_mem hkl)
   have HS := Lib.hid (catL_succ (f := decB) (hd := []) hkl)
   have hlen := catL_len (f := decB) (hd := []) (xs := xs.take k) (B := 2) fun y hy => (dec_len (hx y (List.mem_of_mem_take hy)).2).2
   have hl1 := dec_len hin.2
   rw [List.length_take] at hlen
   generalize hz : xs[k] = z at *
   have hlen' : (catL decB [] (xs.take k)).length ≤ 10000 := by simp at hlen; omega
   generalize catL decB [] (xs.take k) = C at *
   have hadd : ∀ W : World, (Op.stringOp .add ⟨C.toArray⟩ ⟨(decB z).toArray⟩).run Tryz.prog W = .ok (.string ⟨(cat C (decB z)).toArray⟩) W := fun W => add_cat W _ _ (by omega)
   clear hz hlen hlen' hl1 hce
   go_wp2_with (go_at_call 71; refine (dec_any _ hin.1 hin.2).mono ?_; rintro e w' ⟨rfl, rfl⟩)
   go_roundw
   case rel => exact ⟨k + 1, by omega, by go_num, by rw [HS.out], trivial⟩
   case measure => simp [intOf]; omega
  ·obtain rfl : k = xs.length := by omega
   have HF : Hid (xs.take xs.length = xs) := List.take_length
   go_wp2_with fail
   go_ret
   exact ⟨by rw [HF.out]; rfl, rfl⟩
end Go.Proofs.YtnhdohednekhjaaGreatDoor
namespace Go.Proofs.YtnhdohednekhjaaGreatDoor
open Go.RowKit Go.Sort
/-- what stands in a text may be written: its relation, its places -/
def shC (v lo : Int) (c : Int × List Int) : Prop := (lo ≤ c.1 ∧ c.1 ≤ 5) ∧ (1 ≤ (c.2.length : Int) ∧ (c.2.length : Int) ≤ 4) ∧ rowOk v c.2.length c.2
def shF (f : Int × Int × List (Int × List Int)) : Prop := frameOk f ∧ ∀ a ∈ f.2.2, shC f.2.1 (-1) a
def atP (a : Int × List Int) : List UInt8 := match a.1 == -1 with
 | true => [32, 61, 58]
 | false => cat (cat [32, 82] (decB a.1)) [58]
def atT (a : Int × List Int) : List UInt8 := catL decB (atP a) a.2
def fmH (f : Int × Int × List (Int × List Int)) : List UInt8 := cat (cat (cat [102, 111, 114, 109, 117, 108, 97, 32] (decB f.1)) [32]) (decB f.2.1)
def txF (f : Int × Int × List (Int × List Int)) : List UInt8 := catL atT (fmH f) f.2.2
noncomputable def ftV (f : Int × Int × List (Int × List Int)) : List UInt8 := match tb (shF f) with
 | true => txF f
 | false => []
theorem ft_no {x : Int × Int × List (Int × List Int)} (h : ¬ shF x) : ftV x = [] := by unfold ftV; rw [tb_false h]
theorem ft_yes {x : Int × Int × List (Int × List Int)} (h : shF x) : ftV x = txF x := by unfold ftV; rw [tb_true h]
theorem shC_dec {v lo : Int} {c : Int × List Int} (h : shC v lo c) (hv : v ≤ 10) : ∀ a ∈ c.2, 0 ≤ a ∧ a < 10 := fun a ha => by
 have := h.2.2.2 a ha
 omega
/-- an atom's word as the program puts it together -/
def wdP (a : Int × List Int) : List UInt8 := match a.1 != -1 with
 | true => cat [82] (decB a.1)
 | false => [61]
def wdT (a : Int × List Int) : List UInt8 := cat (cat (wdP a) [58]) (catL decB [] a.2)
theorem wd_at (a : Int × List Int) : cat [32] (wdT a) = atT a := by
 unfold wdT atT wdP atP
 cases h : (a.1 == -1)
 ·simp [bne, h, cat, catL]
 ·simp [bne, h, cat, catL]
theorem frm_join (f : Int × Int × List (Int × List Int)) : Lib.join ([102, 111, 114, 109, 117, 108, 97] :: decB f.1 :: decB f.2.1 :: f.2.2.map wdT) [32] = txF f := by
 rw [Lib.join_cons]
 unfold Lib.joinTail txF fmH
 have : (f.2.2.map wdT).map (fun x => ([32] : List UInt8) ++ x) = f.2.2.map atT := by
  rw [List.map_map]
  exact List.map_congr_left fun a _ => wd_at a
 simp only [List.map_cons, List.flatten_cons]
 rw [this]
 simp [cat, catL]
theorem atP_len {a : Int × List Int} (h : a.1 ≤ 5) : (atP a).length ≤ 10 := by
 unfold atP
 split
 ·simp
 ·rw [cat_len, cat_len]
  have h2 := (@dec_len a.1 (by omega)).2
  simp only [List.length_cons, List.length_nil]
  omega
theorem atT_len {v lo : Int} {c : Int × List Int} (h : shC v lo c) (hv : v ≤ 10) : (atT c).length ≤ 20 := by
 unfold atT
 have h1 := catL_len (f := decB) (hd := atP c) (xs := c.2) (B := 2) fun a ha => by
  have := shC_dec h hv a ha
  exact (@dec_len a (by omega)).2
 have h2 := atP_len (a := c) h.1.2
 have h3 := h.2.1
 omega
theorem fmH_len {f : Int × Int × List (Int × List Int)} (h : frameOk f) : (fmH f).length ≤ 20 := by
 unfold fmH
 rw [cat_len, cat_len, cat_len]
 have h1 := (@dec_len f.1 (by have := h.1; omega)).2
 have h2 := (@dec_len f.2.1 (by have := h.2.1; omega)).2
 simp only [List.length_cons, List.length_nil]
 omega
theorem shF_v {f : Int × Int × List (Int × List Int)} (h : frameOk f) : 0 ≤ f.1 ∧ f.1 ≤ 4 ∧ 0 ≤ f.2.1 ∧ f.2.1 ≤ 8 ∧ f.2.2.length ≤ 16 := by
 obtain ⟨h1, h2, h3⟩ := h
 omega
theorem txF_len {f : Int × Int × List (Int × List Int)} (h : shF f) (k : Nat) : (catL atT (fmH f) (f.2.2.take k)).length ≤ 1000 := by
 have h0 := shF_v h.1
 have h1 := catL_len (f := atT) (hd := fmH f) (xs := f.2.2.take k) (B := 20) fun c hc => atT_len (h.2 c (List.mem_of_mem_take hc)) (by omega)
 have h2 := fmH_len h.1
 rw [List.length_take] at h1
 have : min k f.2.2.length ≤ 16 := by omega
 omega
set_option maxHeartbeats 1600000 in
set_option maxRecDepth 100000 in
theorem isWritten1_any (w : World) {cs : Array Value} {c : Int × List Int} (h : opT.Rd w cs.toList c) {vx : Value} {x : Int × Int × List (Int × List Int)} (hxp : frmT.Pt w vx x) (h0 : 0 ≤ x.2.1) (h1 : x.2.1 ≤ 1000000000000) :
  Calls Tryz.prog 154 #[.agg cs, vx] w fun e w' => e = .returned (.bool (!tb (shC x.2.1 (-1) c))) ∧ Below w.heap.size w w' := by
 have hc := h
 obtain ⟨u, hv, hI, hu⟩ := pair_ex h
 obtain rfl := agg_of hv
 obtain ⟨ad, cap, rfl⟩ := rd_slice hu
 obtain ⟨b, o, ad', cap', rfl, hb, -, -, c0, c1, c2, -⟩ := pt_trip hxp
 have e0 : ∀ q, (w.alloc q).cell? ⟨b, o + 1, none⟩ = some (.int .i64 x.2.1) := fun q => (cellB bA hb).trans c1
 have HC := Lib.hid hc
 clear h hv hxp hu c0 c1 c2 hc
 cases h2 : inB c.1 (-1) 5
 ·have HR : Hid (true = !tb (shC x.2.1 (-1) c)) := by
   unfold Hid
   rw [tb_false fun hh => by have := inB_true.2 hh.1; rw [h2] at this; cases this]; rfl
  go_enter Tryz.func154, Tryz.ntmps154
  go_wp2_with (go_at_call 84; refine (within_any _ _ _ _).mono ?_; rintro e w' ⟨rfl, rfl⟩; rw [h2])
  go_ret
  exact ⟨ret_bool HR.out, bA⟩
 cases h3 : inB (c.2.length : Int) 1 4
 ·have HR : Hid (true = !tb (shC x.2.1 (-1) c)) := by
   unfold Hid
   rw [tb_false fun hh => by have := inB_true.2 hh.2.1; rw [h3] at this; cases this]; rfl
  go_enter Tryz.func154, Tryz.ntmps154
  go_wp2_with (first | (go_at_call 84; refine (within_any _ _ _ _).mono ?_; rintro e w' ⟨rfl, rfl⟩; rw [h2]) | (go_at_call 90; refine (isArity_any _ _).mono ?_; rintro e w' ⟨rfl, rfl⟩; rw [h3]))
  go_ret
  exact ⟨ret_bool HR.out, bA⟩
 have HR : Hid ((!tb (rowOk x.2.1 c.2.length c.2)) = !tb (shC x.2.1 (-1) c)) := by
  unfold Hid
  congr 1
  exact tb_congr ⟨fun hh => ⟨inB_true.1 h2, inB_true.1 h3, hh⟩, fun hh => hh.2.2⟩
 go_enter Tryz.func154, Tryz.ntmps154
 go_wp2_with (first | (go_at_call 84; refine (within_any _ _ _ _).mono ?_; rintro e w' ⟨rfl, rfl⟩; rw [h2]) | (go_at_call 90; refine (isArity_any _ _).mono ?_; rintro e w' ⟨rfl, rfl⟩; rw [h3]) | (go_at_call 66; refine (isAtom_any _ (cs := #[.int .i64 c.1, .slice ad c.2.length cap]) (HC.out.below bA) _ _ h0 h1).mono ?_; rintro e w1 ⟨rfl, hb1⟩))
 go_ret
 exact ⟨ret_bool HR.out, bthen bA hb1⟩
end Go.Proofs.YtnhdohednekhjaaGreatDoor
namespace Go.Proofs.YtnhdohednekhjaaGreatDoor
open Go.RowKit Go.Sort
theorem idx_free {b : UInt8} : ∀ {w r : List UInt8}, b ∉ w → Lib.index (w ++ b :: r) [b] = (w.length : Int)
 | [], r, _ => by simp [Lib.index]
 | x :: w, r, h => by
  have hx : ¬ b = x := fun e => h (by simp [e])
  have ih := idx_free (r := r) (fun hm => h (List.mem_cons_of_mem _ hm) : b ∉ w)
  have hp : ([b] : List UInt8).isPrefixOf (x :: (w ++ b :: r)) = false := by simp [List.isPrefixOf, hx]
  have hne : ((w.length : Int) == -1) = false := by rw [beq_eq_false_iff_ne]; omega
  show Lib.index (x :: (w ++ b :: r)) [b] = _
  unfold Lib.index
  rw [hp, ih, hne]
  simp
theorem cnt_free {b : UInt8} {w : List UInt8} (h : b ∉ w) : Lib.count w [b] = 0 := by rw [Lib.count_one]; exact List.count_eq_zero.2 h
theorem join_two {w v : List UInt8} {r : List (List UInt8)} {b : UInt8} : Lib.join (w :: v :: r) [b] = w ++ b :: Lib.join (v :: r) [b] := by
 rw [Lib.join_cons, Lib.join_cons]
 unfold Lib.joinTail
 simp
/-- words joined are cut again -/
theorem split_join {b : UInt8} : ∀ {w : List UInt8} {r : List (List UInt8)}, (∀ x ∈ w :: r, b ∉ x) → Lib.split (Lib.join (w :: r) [b]) [b] = w :: r
 | w, [], h => by
  have h0 := h w (List.mem_cons_self ..)
  have e : Lib.join [w] [b] = w := by rw [Lib.join_cons]; simp [Lib.joinTail]
  unfold Lib.split
  rw [e, cnt_free h0]
  rfl
 | w, v :: r, h => by
  have h0 := h w (List.mem_cons_self ..)
  have ih := split_join (w := v) (r := r) fun x hx => h x (List.mem_cons_of_mem _ hx)
  unfold Lib.split at ih ⊢
  rw [join_two]
  have hc : Lib.count (w ++ b :: Lib.join (v :: r) [b]) [b] = Lib.count (Lib.join (v :: r) [b]) [b] + 1 := by
   rw [Lib.count_one, Lib.count_one, List.count_append, List.count_eq_zero.2 h0, List.count_cons_self]
   omega
  have hne : ((w.length : Int) == -1) = false := by rw [beq_eq_false_iff_ne]; omega
  rw [hc]
  show (if Lib.index _ [b] == -1 then _ else _) = _
  rw [idx_free h0, hne]
  simp only [Bool.false_eq_true, if_false, Int.toNat_natCast, Nat.add_zero]
  rw [List.take_left' rfl]
  congr 1
  have : (w ++ b :: Lib.join (v :: r) [b]).drop (w.length + ([b] : List UInt8).length) = Lib.join (v :: r) [b] := by
   rw [← List.drop_drop, List.drop_left' rfl]
   simp
  rw [this]
  exact ih
theorem cut_free {b : UInt8} {w r : List UInt8} (h : b ∉ w) : Lib.cut (w ++ b :: r) [b] = (w, r, true) := by
 unfold Lib.cut
 rw [idx_free h, if_pos (by omega), Int.toNat_natCast]
 have : (w ++ b :: r).drop (w.length + ([b] : List UInt8).length) = r := by
  rw [← List.drop_drop, List.drop_left' rfl]
  simp
 rw [this, List.take_left' rfl]
/-- digits -/
theorem dec_cases {n : Int} (h0 : 0 ≤ n) (h1 : n < 100) : (n < 10 ∧ decB n = [UInt8.ofNat (48 + n.toNat)]) ∨ (10 ≤ n ∧ decB n = [UInt8.ofNat (48 + (n / 10).toNat), UInt8.ofNat (48 + (n % 10).toNat)]) := by
 by_cases h : n < 10
 ·exact .inl ⟨h, dec_one h0 h⟩
 ·refine .inr ⟨by omega, ?_⟩
  rw [dec_two (by omega) h1, dec_one (by omega) (by omega)]
  rfl
theorem dig_nat {k : Nat} (h : k < 10) : (UInt8.ofNat (48 + k)).toNat = 48 + k := by
 rw [UInt8.toNat_ofNat']
 omega
theorem dec_digit {n : Int} (h0 : 0 ≤ n) (h1 : n < 100) : ∀ x ∈ decB n, 48 ≤ x.toNat ∧ x.toNat ≤ 57 := by
 rcases dec_cases h0 h1 with ⟨h, e⟩ | ⟨h, e⟩ <;> rw [e] <;> intro x hx
 ·rw [List.mem_singleton.1 hx, dig_nat (by omega)]; omega
 ·rcases List.mem_cons.1 hx with rfl | hx
  ·rw [dig_nat (by omega)]; omega
  ·rw [List.mem_singleton.1 hx, dig_nat (by omega)]; omega
/-- a number that is read: what ParseInt and the text of the number say -/
def numI (w : List UInt8) : Int := match Lib.parseIntB 64 w with
 | .ok v => match decide (v < 0) with
  | true => -2
  | false => match decB v == w with
   | true => v
   | false => -2
 | _ => -2
theorem parse_dec {n : Int} (h0 : 0 ≤ n) (h1 : n < 100) : Lib.parseIntB 64 (decB n) = .ok n := by
 rcases dec_cases h0 h1 with ⟨h, e⟩ | ⟨h, e⟩
 ·have hd := dig_nat (k := n.toNat) (by omega)
  rw [e]
  have hu : Lib.parseUintB 64 [UInt8.ofNat (48 + n.toNat)] = .ok n.toNat := by
   unfold Lib.parseUintB
   rw [if_neg (by simp)]
   simp only [Lib.parseUintM, hd]
   rw [if_pos (by omega), if_neg (by omega), if_neg (by omega)]
   congr 1
   omega
  unfold Lib.parseIntB
  simp only [hd]
  rw [if_neg (show ¬ (48 + n.toNat = 43 ∨ 48 + n.toNat = 45) by omega), hu]
  simp only
  rw [if_neg (by omega), if_neg (by omega), if_neg (by omega)]
  congr 1
  omega
 ·have hd := dig_nat (k := (n / 10).toNat) (by omega)
  have hd2 := dig_nat (k := (n % 10).toNat) (by omega)
  rw [e]
  have hu : Lib.parseUintB 64 [UInt8.ofNat (48 + (n / 10).toNat), UInt8.ofNat (48 + (n % 10).toNat)] = .ok n.toNat := by
   unfold Lib.parseUintB
   rw [if_neg (by simp)]
   simp only [Lib.parseUintM, hd, hd2]
   rw [if_pos (by omega), if_neg (by omega), if_neg (by omega), if_pos (by omega), if_neg (by omega), if_neg (by omega)]
   congr 1
   omega
  unfold Lib.parseIntB
  simp only [hd]
  rw [if_neg (show ¬ (48 + (n / 10).toNat = 43 ∨ 48 + (n / 10).toNat = 45) by omega), hu]
  simp only
  rw [if_neg (by omega), if_neg (by omega), if_neg (by omega)]
  congr 1
  omega
theorem numI_dec {n : Int} (h0 : 0 ≤ n) (h1 : n < 100) : numI (decB n) = n := by
 unfold numI
 rw [parse_dec h0 h1]
 have : decide (n < 0) = false := by simpa using h0
 simp only [this, beq_self_eq_true]
end Go.Proofs.YtnhdohednekhjaaGreatDoor
namespace Go.Proofs.YtnhdohednekhjaaGreatDoor
open Go.RowKit Go.Sort
def isDg (c : UInt8) : Bool := decide (48 ≤ c.toNat) && decide (c.toNat ≤ 57)
def dgV (c : UInt8) : Int := (c.toNat : Int) - 48
/-- digits that are read; none of other bytes -/
def digR (w : List UInt8) : List Int := match w.all isDg with
 | true => w.map dgV
 | false => []
theorem dec_row {xs : List Int} (h : ∀ a ∈ xs, 0 ≤ a ∧ a < 10) : catL decB [] xs = xs.map fun a => UInt8.ofNat (48 + a.toNat) := by
 induction xs with
 | nil => rfl
 | cons a r ih =>
  have ha := h a (List.mem_cons_self ..)
  have := ih fun b hb => h b (List.mem_cons_of_mem _ hb)
  unfold catL at this ⊢
  simp only [List.nil_append, List.map_cons, List.flatten_cons] at this ⊢
  rw [this, dec_one ha.1 ha.2]
  rfl
theorem dgV_of {a : Int} (h : 0 ≤ a ∧ a < 10) : isDg (UInt8.ofNat (48 + a.toNat)) = true ∧ dgV (UInt8.ofNat (48 + a.toNat)) = a := by
 have := dig_nat (k := a.toNat) (by omega)
 unfold isDg dgV
 rw [this]
 constructor
 ·simp; omega
 ·omega
theorem row_dgV {xs : List Int} (h : ∀ a ∈ xs, 0 ≤ a ∧ a < 10) : (catL decB [] xs).all isDg = true ∧ (catL decB [] xs).map dgV = xs := by
 rw [dec_row h]
 constructor
 ·rw [List.all_eq_true]
  intro c hc
  obtain ⟨a, ha, rfl⟩ := List.mem_map.1 hc
  exact (dgV_of (h a ha)).1
 ·rw [List.map_map]
  exact (List.map_congr_left fun a ha => (dgV_of (h a ha)).2).trans (List.map_id xs)
theorem digR_row {xs : List Int} (h : ∀ a ∈ xs, 0 ≤ a ∧ a < 10) : digR (catL decB [] xs) = xs := by
 unfold digR
 rw [(row_dgV h).1]
 exact (row_dgV h).2
/-- the relation of an atom's word, the program's -/
def relI (w : List UInt8) : Int := match w with
 | c :: r => match c == 82 with
  | true => numI r
  | false => -1
 | [] => -1
/-- an atom's word, read -/
def atomI (w : List UInt8) : Int × List Int := (relI (Lib.cut w [58]).1, digR (Lib.cut w [58]).2.1)
theorem dec_free {n : Int} (h0 : 0 ≤ n) (h1 : n < 100) {b : UInt8} (hb : b.toNat < 48 ∨ 57 < b.toNat) : b ∉ decB n := fun hm => by
 have := dec_digit h0 h1 b hm
 omega
theorem row_free {xs : List Int} (h : ∀ a ∈ xs, 0 ≤ a ∧ a < 10) {b : UInt8} (hb : b.toNat < 48 ∨ 57 < b.toNat) : b ∉ catL decB [] xs := fun hm => by
 have := List.all_eq_true.1 (row_dgV h).1 b hm
 unfold isDg at this
 simp at this
 omega
theorem wdP_free {a : Int × List Int} (h : -1 ≤ a.1 ∧ a.1 ≤ 5) {b : UInt8} (hb : b.toNat < 48 ∨ b.toNat = 58) : b ∉ wdP a := fun hm => by
 unfold wdP at hm
 cases he : (a.1 != -1)
 ·rw [he] at hm
  rw [List.mem_singleton.1 hm] at hb
  revert hb; decide
 ·rw [he] at hm
  have hne : a.1 ≠ -1 := by simpa using he
  rcases List.mem_append.1 hm with hm | hm
  ·rw [List.mem_singleton.1 hm] at hb
   revert hb; decide
  ·exact dec_free (by omega) (by omega) (by omega) hm
section
variable {v : Int} {a : Int × List Int}
theorem wdT_cut (h : shC v (-1) a) : Lib.cut (wdT a) [58] = (wdP a, catL decB [] a.2, true) := by
 have : wdT a = wdP a ++ 58 :: catL decB [] a.2 := by simp [wdT, cat]
 rw [this]
 exact cut_free (wdP_free h.1 (.inr rfl))
theorem wdT_free (h : shC v (-1) a) (hv : v ≤ 10) : (32 : UInt8) ∉ wdT a := fun hm => by
 rcases List.mem_append.1 hm with hm | hm
 ·rcases List.mem_append.1 hm with hm | hm
  ·exact wdP_free h.1 (.inl (by decide)) hm
  ·exact absurd (List.mem_singleton.1 hm) (by decide)
 ·exact row_free (shC_dec h hv) (.inl (by decide)) hm
theorem atomI_wd (h : shC v (-1) a) (hv : v ≤ 10) : atomI (wdT a) = a := by
 unfold atomI
 rw [wdT_cut h]
 refine Prod.ext ?_ (digR_row (shC_dec h hv))
 show relI (wdP a) = a.1
 have hr := h.1
 unfold wdP
 cases he : (a.1 != -1)
 ·have : a.1 = -1 := by simpa using he
  rw [this]; rfl
 ·have hne : a.1 ≠ -1 := by simpa using he
  show relI (82 :: decB a.1) = a.1
  unfold relI
  simp only [beq_self_eq_true]
  exact numI_dec (by omega) (by omega)
end
def fmW (f : Int × Int × List (Int × List Int)) : List (List UInt8) := [102, 111, 114, 109, 117, 108, 97] :: decB f.1 :: decB f.2.1 :: f.2.2.map wdT
theorem fmW_free {f : Int × Int × List (Int × List Int)} (h : shF f) : ∀ x ∈ fmW f, (32 : UInt8) ∉ x := by
 obtain ⟨⟨h1, h2, -⟩, ha⟩ := h
 intro x hx
 rcases List.mem_cons.1 hx with rfl | hx
 ·decide
 rcases List.mem_cons.1 hx with rfl | hx
 ·exact dec_free (by omega) (by omega) (.inl (by decide))
 rcases List.mem_cons.1 hx with rfl | hx
 ·exact dec_free (by omega) (by omega) (.inl (by decide))
 obtain ⟨a, ham, rfl⟩ := List.mem_map.1 hx
 exact wdT_free (ha a ham) (by omega)
theorem words_I {f : Int × Int × List (Int × List Int)} (h : shF f) : Lib.split (txF f) [32] = fmW f := by
 rw [← frm_join]
 exact split_join (fmW_free h)
/-- a formula of words, the program's -/
def frmI (W : List (List UInt8)) : Int × Int × List (Int × List Int) := (numI (W.getD 1 []), numI (W.getD 2 []), (W.drop 3).map atomI)
theorem frmI_of {f : Int × Int × List (Int × List Int)} (h : shF f) : frmI (fmW f) = f := by
 obtain ⟨⟨h1, h2, -⟩, ha⟩ := id h
 obtain ⟨x, y, A⟩ := f
 unfold frmI fmW
 simp only [List.getD_cons_succ, List.getD_cons_zero, List.drop_succ_cons, List.drop_zero, List.map_map]
 have h1' : 1 ≤ x ∧ x ≤ 4 := h1
 have h2' : x ≤ y ∧ y ≤ 8 := h2
 rw [numI_dec (by omega) (by omega), numI_dec (by omega) (by omega)]
 refine Prod.ext rfl (Prod.ext rfl ?_)
 exact (List.map_congr_left fun a ham => atomI_wd (ha a ham) (by omega)).trans (List.map_id A)
/-- what ReadFormula answers: the formula with this text, if there is one -/
def rfP (t : List UInt8) (f : Int × Int × List (Int × List Int)) : Prop := shF f ∧ txF f = t
theorem rfP_one {t : List UInt8} {f g : Int × Int × List (Int × List Int)} (h : rfP t f) (h' : rfP t g) : f = g := by
 have e1 := words_I h.1
 have e2 := words_I h'.1
 rw [h.2] at e1
 rw [h'.2, e1] at e2
 rw [← frmI_of h.1, e2, frmI_of h'.1]
noncomputable def rfC (t : List UInt8) : Int := match decide ((20000 : Int) < ((t.length : Nat) : Int)) with
 | true => 2
 | false => match tb (∃ f, rfP t f) with
  | true => 0
  | false => 5
open Classical in
noncomputable def rfV (t : List UInt8) : Int × Int × List (Int × List Int) := if h : rfC t = 0 ∧ ∃ f, rfP t f then Classical.choose h.2 else (0, 0, [])
theorem rf_ok {t : List UInt8} {f : Int × Int × List (Int × List Int)} (hl : decide ((20000 : Int) < ((t.length : Nat) : Int)) = false) (h : rfP t f) : rfC t = 0 ∧ rfV t = f := by
 have hc : rfC t = 0 := by simp only [rfC, hl, tb_true (⟨f, h⟩ : ∃ f, rfP t f)]
 have hx : rfC t = 0 ∧ ∃ f, rfP t f := ⟨hc, f, h⟩
 refine ⟨hc, ?_⟩
 unfold rfV
 rw [dif_pos hx]
 exact rfP_one (Classical.choose_spec hx.2) h
theorem rf_no {t : List UInt8} (hl : decide ((20000 : Int) < ((t.length : Nat) : Int)) = false) (h : ¬ ∃ f, rfP t f) : rfC t = 5 ∧ rfV t = (0, 0, []) := by
 have hc : rfC t = 5 := by simp only [rfC, hl, tb_false h]
 refine ⟨hc, ?_⟩
 unfold rfV
 rw [dif_neg (fun hx => h hx.2)]
theorem rf_big {t : List UInt8} (hl : decide ((20000 : Int) < ((t.length : Nat) : Int)) = true) : rfC t = 2 ∧ rfV t = (0, 0, []) := by
 have hc : rfC t = 2 := by simp only [rfC, hl]
 refine ⟨hc, ?_⟩
 unfold rfV
 rw [dif_neg (fun hx => by rw [hc] at hx; exact absurd hx.1 (by decide))]
/-- the program's last test -/
theorem rfI_iff {t : List UInt8} (h3 : 3 ≤ (Lib.split t [32]).length) : ftV (frmI (Lib.split t [32])) = t ↔ ∃ f, rfP t f := by
 constructor
 ·intro h
  by_cases hs : shF (frmI (Lib.split t [32]))
  ·exact ⟨_, hs, by rw [← ft_yes hs]; exact h⟩
  ·rw [ft_no hs] at h
   subst h
   exact absurd h3 (by decide)
 ·rintro ⟨f, hf⟩
  have e := words_I hf.1
  rw [hf.2] at e
  rw [e, frmI_of hf.1, ft_yes hf.1]
  exact hf.2
theorem rfI_val {t : List UInt8} {f : Int × Int × List (Int × List Int)} (h : rfP t f) : frmI (Lib.split t [32]) = f := by
 have e := words_I h.1
 rw [h.2] at e
 rw [e, frmI_of h.1]
end Go.Proofs.YtnhdohednekhjaaGreatDoor
namespace Go.Proofs.YtnhdohednekhjaaGreatDoor
open Go.RowKit Go.Sort
theorem flat_bd {α : Type} {c : Nat} : ∀ {L : List (List α)}, (∀ x ∈ L, x.length ≤ c) → L.flatten.length ≤ c * L.length
 | [], _ => by simp
 | a :: r, h => by
  have h1 := h a (List.mem_cons_self ..)
  have h2 := flat_bd (L := r) fun x hx => h x (List.mem_cons_of_mem _ hx)
  rw [List.flatten_cons, List.length_append, List.length_cons, Nat.mul_succ]
  omega
section
variable {t : Tpl} {f g : Frm}
theorem shF_of (hf : frmOk t f) : shF f := ⟨hf.2.1, fun a ha => by
 have h := hf.2.2 a ha
 have hT := hf.1.2.1
 obtain ⟨l1, l2, l3, l4⟩ := atom_len hf.1 h
 refine ⟨?_, by omega, ⟨rfl, h.2.2⟩⟩
 by_cases c : a.1 = -1
 ·omega
 ·have := l4 c
  omega⟩
theorem tx_len (h : shF f) : (txF f).length ≤ 20000 := by
 obtain ⟨⟨h1, h2, h3⟩, ha⟩ := h
 have d1 := (dec_len (n := f.1) (by omega)).2
 have d2 := (dec_len (n := f.2.1) (by omega)).2
 have hat : ∀ x ∈ f.2.2.map atT, x.length ≤ 20 := fun x hx => by
  obtain ⟨a, hm, rfl⟩ := List.mem_map.1 hx
  obtain ⟨a1, a2, a3⟩ := ha a hm
  have hd : ∀ x ∈ a.2.map decB, x.length ≤ 2 := fun x hx => by
   obtain ⟨p, hp, rfl⟩ := List.mem_map.1 hx
   have := a3.2 p hp
   exact (dec_len (n := p) (by omega)).2
  have hb := flat_bd hd
  rw [List.length_map] at hb
  have hp : (atP a).length ≤ 8 := by
   unfold atP
   split
   ·decide
   ·rename_i hc
    have : a.1 ≠ -1 := by simpa using hc
    have d3 := (dec_len (n := a.1) (by omega)).2
    simp only [cat, List.length_append, List.length_cons, List.length_nil]
    omega
  unfold atT catL
  rw [List.length_append]
  omega
 have hb := flat_bd hat
 rw [List.length_map] at hb
 unfold txF catL
 rw [List.length_append]
 have : (fmH f).length ≤ 20 := by
  unfold fmH
  simp only [cat, List.length_append, List.length_cons, List.length_nil]
  omega
 omega
theorem read_back (hf : frmOk t f) : rfC (ftV f) = 0 ∧ rfV (ftV f) = f := by
 have hs := shF_of hf
 have hl := tx_len hs
 rw [ft_yes hs]
 exact rf_ok (decide_eq_false (by omega)) ⟨hs, rfl⟩
theorem wit_iff (hf : frmOk t f) {n : Nat} (h1 : f.1 = (n : Int)) {u : List Int} (hu : tupP t.1 n u) : headB (witX t f u) = tb (u ∈ (vaR t f).2) := by
 have h2 := va_mem hf h1 (l := u)
 have h3 := va_iff hf (tu := u) (by rw [hu.1, h1]) hu.2
 cases h : headB (witX t f u)
 ·refine (tb_false fun hm => ?_).symm
  have := h3.2 (h2.1 hm).2
  unfold vaP at this
  rw [h] at this
  cases this
 ·refine (tb_true (h2.2 ⟨hu, h3.1 h⟩)).symm
theorem tup_row {n : Nat} {u : List Int} (h1 : f.1 = (n : Int)) (hu : tupP t.1 n u) : rowOk t.1 f.1 u := ⟨by rw [hu.1, h1], hu.2⟩
/-- whether a formula holds at a tuple, and its witness -/
theorem at_tuple (hf : frmOk t f) {n : Nat} (h1 : f.1 = (n : Int)) {u : List Int} (hu : tupP t.1 n u) :
  atC t f u = 0 ∧ haB t f u = tb (u ∈ (vaR t f).2) ∧ ((waC t f u = 0 ∧ u ∈ (vaR t f).2 ∧ ((waV t f u).length : Int) = f.2.1 ∧ (waV t f u).take n = u) ∨ (waC t f u = 6 ∧ u ∉ (vaR t f).2)) := by
 have hr := tb_true (tup_row (t := t) h1 hu)
 have hw := wit_iff hf h1 hu
 obtain ⟨n', m, e1, e2, n1, n4, nm, m8, -, -⟩ := frm_nat hf
 obtain rfl : n = n' := by omega
 cases h : headB (witX t f u)
 ·obtain ⟨w1, w2, w3, w4⟩ := wa_6 (tb_true hf) hr h
  rw [h] at hw
  exact ⟨w1, by rw [w4, hw], .inr ⟨w3, fun hm => by rw [tb_true hm] at hw; cases hw⟩⟩
 ·obtain ⟨w1, w2, w3, w4⟩ := wa_0 (tb_true hf) hr h
  rw [h] at hw
  refine ⟨w1, by rw [w4, hw], .inl ⟨w3, tb_iff.1 hw.symm, ?_⟩⟩
  rw [w2]
  have hx : headV (witX t f u) ∈ witX t f u := by
   cases hq : witX t f u with
   | nil => rw [hq] at h; cases h
   | cons y r => exact List.mem_cons_self ..
  have hs := hf.1.1
  unfold sizeOk at hs
  unfold witX at hx
  rw [witL_mem (by have := hu.1; omega) (fun a ha => by have := hu.2 a ha; omega)] at hx
  refine ⟨by have := hx.1; unfold witX; omega, ?_⟩
  have := hx.2.1
  rw [hu.1] at this
  exact this
/-- two formulas that differ: the tuple that is found tells them apart -/
theorem apart_at (hf : frmOk t f) (hg : frmOk t g) {n : Nat} (h1 : f.1 = (n : Int)) (h2 : g.1 = (n : Int)) :
  twoC t f g = 0 ∧ aeB t f g = eqB (vaR t f) (vaR t g) ∧ ((faC t f g = 6 ∧ vaR t f = vaR t g) ∨ (faC t f g = 0 ∧ vaR t f ≠ vaR t g ∧ tupP t.1 n (faV t f g) ∧ haB t f (faV t f g) ≠ haB t g (faV t f g))) := by
 have h0 : twoC t f g = 0 := two_0 (tb_true hf) (tb_true hg) (by rw [h1, h2]; simp)
 have hfg : f.1 = g.1 := by rw [h1, h2]
 refine ⟨h0, by simp [aeB, h0], ?_⟩
 cases h : headB (apL t f g)
 ·exact .inl ⟨(fa_none h0 h).2.1, (apL_nil hfg).1 h⟩
 ·obtain ⟨v1, v2, -⟩ := fa_yes h0 h
  refine .inr ⟨v2, (fun e => by rw [(apL_nil hfg).2 e] at h; cases h), ?_⟩
  rw [v1]
  have hx : headV (apL t f g) ∈ apL t f g := by
   cases hq : apL t f g with
   | nil => rw [hq] at h; cases h
   | cons y r => exact List.mem_cons_self ..
  have hs := hf.1.1
  unfold sizeOk at hs
  unfold apL at hx
  rw [h1, Int.toNat_natCast] at hx
  have ht := relL_tup hs.1 hx
  have hb := (relL_iff hs.1 (pow_cast (by omega) n) ht).1 hx
  unfold apL
  rw [h1, Int.toNat_natCast]
  refine ⟨ht, ?_⟩
  rw [(at_tuple hf h1 ht).2.1, (at_tuple hg h2 ht).2.1]
  intro e
  generalize headV (relL t.1 n (apB t f g) (t.1 ^ n).toNat) = u at hb e
  unfold apB at hb
  rw [e] at hb
  simp at hb
end
end Go.Proofs.YtnhdohednekhjaaGreatDoor
namespace Go.Proofs.YtnhdohednekhjaaGreatDoor
open Go.RowKit Go.Sort
/-- the cell of a set: whether the tuple of this number is in it -/
theorem seen_dig {s : Int} (hs : 1 ≤ s) {m N k : Nat} (hN : s ^ m = N) {ts : List (List Int)} (hts : ∀ t ∈ ts, t.length = m ∧ ∀ a ∈ t, 0 ≤ a ∧ a ≤ s - 1) (hk : k < N) (h : k < (seenL s N ts).length) : (seenL s N ts)[k] = tb (digL s k m ∈ ts) := by
 have hi : idxL s 0 (digL s k m) = (k : Int) := by
  have := dig_idx (s := s) (idx := k) (n := m) hs (by omega) (by omega) m (Nat.le_refl _)
  rw [List.take_of_length_le (by rw [digL_len]; exact Nat.le_refl _)] at this
  rw [this, Nat.sub_self, Int.pow_zero, Int.ediv_one]
 exact seenL_get hs hts digL_len (digL_in hs) hi h
def Set3 (w : World) (base bx g : Nat) (s : Int) (ar N : Nat) (T : List (List Int)) : Prop := SetAt 4 base w bx g N (seenL s N T) ∧ w.cell? ⟨bx, 0, none⟩ = some (.int .i64 s) ∧ w.cell? ⟨bx, 1, none⟩ = some (.int .i64 (ar : Int))
theorem Set3.below {w w' : World} {base bx g ar N B : Nat} {s : Int} {T : List (List Int)} (h : Set3 w base bx g s ar N T) (hb : Below B w w') (hB : w.heap.size ≤ B) : Set3 w' base bx g s ar N T :=
 ⟨h.1.below hb hB, (hb.cell (p := ⟨bx, 0, none⟩) (Nat.lt_of_lt_of_le h.1.2.1 hB)).trans h.2.1, (hb.cell (p := ⟨bx, 1, none⟩) (Nat.lt_of_lt_of_le h.1.2.1 hB)).trans h.2.2⟩
theorem Set3.tch {w w' : World} {base bx g ar N : Nat} {s : Int} {T : List (List Int)} {O : Nat → Prop} (h : Set3 w base bx g s ar N T) (ht : TchP O w w') (h1 : ¬ O bx) (h2 : ¬ O g) : Set3 w' base bx g s ar N T := by
 obtain ⟨⟨q1, q2, q3, q4, q5⟩, q6, q7⟩ := h
 have hg := q5.lt
 refine ⟨⟨q1, Nat.lt_of_lt_of_le q2 ht.size, q3, (ht.cell q2 h1).trans q4, ?_⟩, (ht.cell q2 h1).trans q6, (ht.cell q2 h1).trans q7⟩
 obtain ⟨p1, p2, p3⟩ := q5
 refine ⟨p1, p2, p3.1, ?_⟩
 rcases p3.2 with h | ⟨g', c, cur, e, r1, r2, r3⟩
 ·exact .inl h
 ·simp only [Value.slice.injEq, Option.some.injEq, Addr.mk.injEq, and_true, true_and] at e
  obtain ⟨rfl, rfl⟩ := e
  exact .inr ⟨_, _, cur, rfl, r1, by rw [ht.block _ hg h2]; exact r2, r3⟩
set_option maxHeartbeats 800000 in
set_option maxRecDepth 100000 in
theorem l01Empty3_any (w : World) (s : Int) (ar : Nat) (hs : 1 ≤ s) (hs1 : s ≤ 1000) (hm : ar ≤ 5) (N : Nat) (hN : s ^ ar = N) (hN1 : N ≤ 1000000) :
  Calls Tryz.prog 164 #[.int .i64 s, .int .i64 (ar : Int)] w fun e w' => ∃ bx g, e = .returned (.pointer (some ⟨bx, 0, none⟩)) ∧ Set3 w' w.heap.size bx g s ar N [] ∧ Below w.heap.size w w' := by
 have HN : Hid (s ^ ((ar : Int)).toNat = (N : Int)) := by unfold Hid; rw [Int.toNat_natCast]; exact hN
 clear hN
 go_enter Tryz.func164, Tryz.ntmps164
 go_wp2_with fail
 refine (l01Power_any _ s (ar : Int) (by omega) hs1 (by omega)).mono ?_
 rintro e _ ⟨rfl, rfl⟩
 rw [HN.out]
 go_wp2_with (refine wpList_mkB _ rfl _ _ 214 4 rfl Tryz.underlying214 infoBool w.heap.size N rfl rfl (by omega) (by decide) (by simp) ?_; intro w1 hA hg1 hs1)
 have hb1 := below_of_grown hg1
 have HA := Lib.hid hA
 clear hA
 go_wp2_with fail
 go_ret
 exact ⟨w.heap.size + 1, w.heap.size, rfl, ⟨⟨by omega, by simp; omega, by omega, by rw [← hs1]; simp, by rw [seenL_nil]; exact HA.out.below (bA (w := w1)) HA.out.lt⟩, by rw [← hs1]; simp, by rw [← hs1]; simp⟩, hb1.alloc hb1.size _⟩
set_option maxHeartbeats 1600000 in
set_option maxRecDepth 100000 in
theorem put_any (w : World) {base bx g ar N : Nat} {s : Int} {T : List (List Int)} (h : Set3 w base bx g s ar N T) (hs : 1 ≤ s ∧ s ≤ 4) (har : ar ≤ 5) (hN : s ^ ar = N) {u : Value} {l : List Int} (hu : intsT.Rd w [u] l) (hl : l.length = ar) (hin : ∀ a ∈ l, 0 ≤ a ∧ a ≤ s - 1) :
  Calls Tryz.prog 165 #[.pointer (some ⟨bx, 0, none⟩), u] w fun e w' => e = .returned (.tuple #[]) ∧ Set3 w' base bx g s ar N (T ++ [l]) ∧ TchP (fun q => q = g) w w' := by
 obtain ⟨⟨s1, s2, s3, s4, s5⟩, s6, s7⟩ := h
 obtain ⟨i0, i1⟩ := idx_lt (s := s) (by omega) hl hin
 obtain ⟨j, hj⟩ : ∃ j : Nat, idxL s 0 l = j := ⟨(idxL s 0 l).toNat, by omega⟩
 have hjN : j < N := by rw [hN, hj] at i1; omega
 have e0 := s5.cell (j := j) (by rw [seenL_len]; exact hjN)
 have e1 := s5.free j
 have hgs := s5.lt
 have HST : Hid ((seenL s N T).set j true = seenL s N (T ++ [l])) := by
  have := seenL_set (s := s) (N := N) (ts := T ++ [l]) (k := T.length) (j := j) (by simp) (by simpa using hj) hjN
  rw [List.take_left, List.take_of_length_le (by simp)] at this
  exact this
 have HBS := Lib.hid (s5.set j true)
 have HU := Lib.hid hu
 have HIN := Lib.hid hin
 have HJ := Lib.hid hj
 have S7 := Lib.hid s7
 have hl5 : l.length ≤ 5 := by omega
 obtain ⟨au, cu, rfl⟩ := rd_slice hu
 generalize hT : (seenL s N T)[j]'(by rw [seenL_len]; exact hjN) = old at e0
 clear hT s5 s7 hu hin hj i0 i1 hN hl
 go_enter Tryz.func165, Tryz.ntmps165
 go_wp2_with fail
 refine wp_region_T (fun w' => w'.cell? ⟨bx, 0, none⟩ = some (.int .i64 s) ∧ w'.cell? ⟨bx, 2, none⟩ = some (.slice (some ⟨g, 0, none⟩) N N) ∧ w'.cell? ⟨g, j, none⟩ = some (.bool old) ∧ w'.frozen? ⟨g, j, none⟩ = false) [11] (by kernel_rfl) ⟨s6, s4, e0, e1⟩ (fun hHeld => ?_)
 refine wpAnyT_take (i := 0) (v := ?_) rfl (by kernel_rfl) (fun _ _ _ h => h) (Or.inl ⟨by rfl, ?_⟩) (by assumption) ?_
 rotate_left
 ·(intro w hSw; (try dsimp only at hSw); go_simp <;> with_reducible rfl)
 go_simp
 refine wpAnyT_take (i := 1) (v := ?_) rfl (by kernel_rfl) (fun _ _ _ h => h) (Or.inl ⟨by rfl, ?_⟩) (by assumption) ?_
 rotate_left
 ·(intro w hSw; (try dsimp only at hSw); go_simp <;> with_reducible rfl)
 go_simp
 refine wpAnyT_take (i := 2) (v := ?_) rfl (by kernel_rfl) (fun _ _ _ h => h) (Or.inl ⟨by rfl, ?_⟩) (by assumption) ?_
 rotate_left
 ·(intro w hSw; (try dsimp only at hSw); go_simp <;> with_reducible rfl)
 go_simp
 refine wpAnyT_take (i := 3) (v := ?_) rfl (by kernel_rfl) (fun _ _ _ h => h) (Or.inl ⟨by rfl, ?_⟩) (by assumption) ?_
 rotate_left
 ·(intro w hSw; (try dsimp only at hSw); go_simp <;> with_reducible rfl)
 go_simp
 refine wpAnyT_take (i := 4) (v := ?_) rfl (by kernel_rfl) (fun _ _ _ h => h) (Or.inl ⟨by rfl, ?_⟩) (by assumption) ?_
 rotate_left
 ·(intro w hSw; (try dsimp only at hSw); go_simp <;> with_reducible rfl)
 go_simp
 refine wpAnyT_take (i := 5) (v := ?_) rfl (by kernel_rfl) (fun _ _ _ h => h) (Or.inl ⟨by rfl, ?_⟩) (by assumption) ?_
 rotate_left
 ·(intro w hSw; (try dsimp only at hSw); go_simp <;> with_reducible rfl)
 go_simp
 refine wpAnyT_take (i := 6) (v := ?_) rfl (by kernel_rfl) (fun _ _ _ h => h) (Or.inl ⟨by rfl, ?_⟩) (by assumption) ?_
 rotate_left
 ·(intro w hSw; (try dsimp only at hSw); go_simp <;> with_reducible rfl)
 go_simp
 refine wpAnyT_take (i := 7) (v := ?_) rfl (by kernel_rfl) (fun _ _ _ h => h) (Or.inl ⟨by rfl, ?_⟩) (by assumption) ?_
 rotate_left
 ·(intro w hSw; (try dsimp only at hSw); go_simp <;> with_reducible rfl)
 go_simp
 refine wpAnyT_take (i := 8) (v := ?_) rfl (by kernel_rfl) (fun _ _ _ h => h) (Or.inl ⟨by rfl, ?_⟩) (by assumption) ?_
 rotate_left
 ·(intro w hSw; (try dsimp only at hSw); go_simp <;> with_reducible rfl)
 go_simp
 refine wpAnyT_one (i := 9) rfl (by kernel_rfl) (fun K hK => ?_)
 go_simp
 go_at_call 195
 refine (l01Code_any _ s (HU.out.below bD) hs.1 (by omega) hl5 HIN.out).mono ?_
 rintro e _ ⟨rfl, rfl⟩
 rw [HJ.out]
 dsimp only
 refine hK.out _ _ hHeld (fun hHeld => ?_)
 clear hK K
 refine wpAnyT_take (i := 10) (v := ?_) rfl (by kernel_rfl) (fun _ _ _ h => h) (Or.inl ⟨by rfl, ?_⟩) (by assumption) ?_
 rotate_left
 ·(intro w hSw; (try dsimp only at hSw); go_simp <;> with_reducible rfl)
 go_simp
 obtain ⟨c0, c1, c2, c3⟩ := hHeld
 refine wpAnyT_last (i := 11) rfl (by kernel_rfl) (by kernel_rfl) (fun K hK => ?_)
 go_simp
 refine hK.out _ _ ?_
 clear hK K
 refine wpAnyT_done (by kernel_rfl) ?_ _
 go_simp
 go_wp2_with fail
 go_end0
 refine ⟨rfl, ⟨⟨s1, by simpa [World.setCell] using s2, s3, (World.cell?_setCell_other _ _ _ _ (by first | (simp; done) | (simp; omega))).trans s4, by rw [← HST.out]; exact HBS.out⟩, (World.cell?_setCell_other _ _ _ _ (by first | (simp; done) | (simp; omega))).trans s6, (World.cell?_setCell_other _ _ _ _ (by first | (simp; done) | (simp; omega))).trans S7.out⟩, (TchP.of_below (bD (w := w)) _).then (TchP.set (O := fun q => q = g) rfl) (fun _ _ h => h)⟩
end Go.Proofs.YtnhdohednekhjaaGreatDoor
