/-
  Plain mathematics: a formula made simpler.
-/
import Derived.Test.YtepebfpgmnidnaaK37
import Derived.Test.YtepebfpgmnidnaaK42
namespace Go.Proofs.Ytepebfpgmnidnaa
open Go.RowKit Go.Sort
abbrev Atoms := List (Int × List Int)
def mrgX (a : Int × List Int) : Int := a.2.getD 0 0
def mrgY (a : Int × List Int) : Int := a.2.getD 1 0
def loA (a : Int × List Int) : Int := min (mrgX a) (mrgY a)
def hiA (a : Int × List Int) : Int := max (mrgX a) (mrgY a)
/-- it says that two variables are equal, of which one at least is bound -/
def mrgB (fr : Int) (a : Int × List Int) : Bool := (a.1 == -1) && ((mrgX a != mrgY a) && decide (fr ≤ hiA a))
theorem mrgB_iff {fr : Int} {a : Int × List Int} : mrgB fr a = true ↔ a.1 = -1 ∧ mrgX a ≠ mrgY a ∧ fr ≤ hiA a := by simp [mrgB]
def subTo (lo hi v : Int) : Int := match (v == hi) with
  | true => lo
  | false => v
theorem sub_eq {lo hi v : Int} (h : v = hi) : subTo lo hi v = lo := by simp [subTo, h]
theorem sub_ne {lo hi v : Int} (h : v ≠ hi) : subTo lo hi v = v := by
  have : (v == hi) = false := by simpa using h
  simp [subTo, this]
/-- the greater variable of an atom replaced by the lesser one -/
def stM (l : Atoms) (a : Int × List Int) : Atoms := rnL (subTo (loA a) (hiA a)) l
def mrgL (fr : Int) : Nat → Atoms → Atoms
  | 0, l => l
  | n + 1, l => match l.find? (mrgB fr) with
    | none => l
    | some a => mrgL fr n (stM l a)
theorem mrgL_some {fr : Int} {n : Nat} {l : Atoms} {a : Int × List Int} (h : l.find? (mrgB fr) = some a) : mrgL fr (n + 1) l = mrgL fr n (stM l a) := by simp only [mrgL, h]
theorem mrgL_none {fr : Int} {n : Nat} {l : Atoms} (h : l.find? (mrgB fr) = none) : mrgL fr n l = l := by
  cases n with
  | zero => rfl
  | succ n => simp only [mrgL, h]
/-- as long as there is one -/
def mrgF (fr : Int) (l : Atoms) : Atoms := mrgL fr l.length l
def eq2 (l : Atoms) : Prop := ∀ a ∈ l, a.1 = -1 → a.2.length = 2
theorem len_two {xs : List Int} (h : xs.length = 2) : ∃ x y, xs = [x, y] := by
  match xs, h with
  | [x, y], _ => exact ⟨x, y, rfl⟩
theorem mrg_ren {b : Int × List Int} {g : Int → Int} (h : b.2.length = 2) : mrgX (b.1, b.2.map g) = g (mrgX b) ∧ mrgY (b.1, b.2.map g) = g (mrgY b) := by
  obtain ⟨x, y, e⟩ := len_two h
  simp [mrgX, mrgY, e]
theorem st_old {fr : Int} {a b : Int × List Int} (hb : b.1 = -1 → b.2.length = 2) (ha : mrgB fr a = true) (h : mrgB fr (b.1, b.2.map (subTo (loA a) (hiA a))) = true) : mrgB fr b = true := by
  obtain ⟨h1, h2, h3⟩ := mrgB_iff.1 h
  obtain ⟨e1, e2⟩ := mrg_ren (g := subTo (loA a) (hiA a)) (hb h1)
  have h3' : fr ≤ max (mrgX (b.1, b.2.map (subTo (loA a) (hiA a)))) (mrgY (b.1, b.2.map (subTo (loA a) (hiA a)))) := h3
  rw [e1, e2] at h2 h3'
  obtain ⟨-, -, a3⟩ := mrgB_iff.1 ha
  refine mrgB_iff.2 ⟨h1, fun e => h2 (by rw [e]), ?_⟩
  by_cases c1 : mrgX b = hiA a
  · have : hiA b = max (mrgX b) (mrgY b) := rfl
    omega
  · by_cases c2 : mrgY b = hiA a
    · have : hiA b = max (mrgX b) (mrgY b) := rfl
      omega
    · rw [sub_ne c1, sub_ne c2] at h3'
      exact h3'
theorem st_self {fr : Int} {a : Int × List Int} (hb : a.2.length = 2) (ha : mrgB fr a = true) : mrgB fr (a.1, a.2.map (subTo (loA a) (hiA a))) = false := by
  cases h : mrgB fr (a.1, a.2.map (subTo (loA a) (hiA a)))
  · rfl
  · exfalso
    obtain ⟨-, h2, -⟩ := mrgB_iff.1 h
    obtain ⟨e1, e2⟩ := mrg_ren (g := subTo (loA a) (hiA a)) hb
    rw [e1, e2] at h2
    obtain ⟨-, a2, -⟩ := mrgB_iff.1 ha
    have d1 : loA a = min (mrgX a) (mrgY a) := rfl
    have d2 : hiA a = max (mrgX a) (mrgY a) := rfl
    rcases Int.lt_or_gt_of_ne a2 with c | c
    · exact h2 (by rw [sub_ne (show mrgX a ≠ hiA a by omega), sub_eq (show mrgY a = hiA a by omega)]; omega)
    · exact h2 (by rw [sub_ne (show mrgY a ≠ hiA a by omega), sub_eq (show mrgX a = hiA a by omega)]; omega)
theorem count_lt {α : Type} {p q : α → Bool} : ∀ {l : List α}, (∀ b ∈ l, p b = true → q b = true) → (∃ a, a ∈ l ∧ q a = true ∧ p a = false) → l.countP p < l.countP q
  | [], _, ⟨a, ha, _⟩ => by simp at ha
  | b :: r, h, ⟨a, ha, h1, h2⟩ => by
    have hr := fun x hx => h x (List.mem_cons_of_mem b hx)
    have hle : r.countP p ≤ r.countP q := List.countP_mono_left hr
    rw [List.countP_cons, List.countP_cons]
    rcases List.mem_cons.1 ha with rfl | hm
    · rw [h1, h2]
      simp
      omega
    · have := count_lt hr ⟨a, hm, h1, h2⟩
      have hb := h b (List.mem_cons_self ..)
      cases hp : p b
      · simp
        omega
      · rw [hb hp]
        simp
        omega
theorem cnt_st {fr : Int} {l : Atoms} {a : Int × List Int} (he : eq2 l) (ha : a ∈ l) (hm : mrgB fr a = true) : (stM l a).countP (mrgB fr) < l.countP (mrgB fr) := by
  unfold stM rnL
  rw [List.countP_map]
  exact count_lt (fun b hb h => st_old (he b hb) hm h) ⟨a, ha, hm, st_self (he a ha (mrgB_iff.1 hm).1) hm⟩
theorem eq2_rn {l : Atoms} {g : Int → Int} (h : eq2 l) : eq2 (rnL g l) := fun a ha h1 => by
  obtain ⟨b, hb, rfl⟩ := List.mem_map.1 ha
  show (b.2.map g).length = 2
  rw [List.length_map]
  exact h b hb h1
theorem mrg_stab {fr : Int} : ∀ (n : Nat) (l : Atoms), eq2 l → l.countP (mrgB fr) ≤ n → mrgL fr n l = mrgL fr (n + 1) l
  | 0, l, _, hc => by
    have : l.find? (mrgB fr) = none := by
      rw [List.find?_eq_none]
      exact List.countP_eq_zero.1 (Nat.le_zero.1 hc)
    rw [mrgL_none this, mrgL_none this]
  | n + 1, l, he, hc => by
    cases hf : l.find? (mrgB fr) with
    | none => rw [mrgL_none hf, mrgL_none hf]
    | some a =>
      have h1 := cnt_st he (List.mem_of_find?_eq_some hf) (List.find?_some hf)
      rw [mrgL_some hf, mrgL_some hf]
      exact mrg_stab n (stM l a) (eq2_rn he) (by omega)
theorem mrg_done {fr : Int} {l : Atoms} (h : l.find? (mrgB fr) = none) : mrgF fr l = l := mrgL_none h
theorem mrg_go {fr : Int} {l : Atoms} {a : Int × List Int} (he : eq2 l) (h : l.find? (mrgB fr) = some a) : mrgF fr (stM l a) = mrgF fr l := by
  have ha := List.mem_of_find?_eq_some h
  have hm := List.find?_some h
  have h1 := cnt_st he ha hm
  have h2 := List.countP_le_length (p := mrgB fr) (l := l)
  have h3 : (stM l a).length = l.length := rnL_len
  unfold mrgF
  rw [h3]
  obtain ⟨n, hn⟩ : ∃ n, l.length = n + 1 := ⟨l.length - 1, by have := List.length_pos_of_mem ha; omega⟩
  rw [hn, mrgL_some h]
  exact (mrg_stab n (stM l a) (eq2_rn he) (by omega)).symm
theorem first_find {α : Type} {p : α → Bool} {xs : List α} : (firstI p xs = -1 ∧ xs.find? p = none) ∨ ∃ k, ∃ h : k < xs.length, firstI p xs = (k : Int) ∧ xs.find? p = some xs[k] ∧ p xs[k] = true := by
  unfold firstI
  cases h : xs.findIdx? p with
  | none =>
    rw [List.findIdx?_eq_none_iff] at h
    refine .inl ⟨rfl, ?_⟩
    rw [List.find?_eq_none]
    intro x hx
    simp [h x hx]
  | some k =>
    rw [List.findIdx?_eq_some_iff_getElem] at h
    obtain ⟨h1, h2, h3⟩ := h
    refine .inr ⟨k, h1, rfl, ?_, h2⟩
    rw [List.find?_eq_some_iff_getElem]
    exact ⟨h2, k, h1, rfl, fun j hj => by simpa using h3 j hj⟩
/-- what the loops keep -/
def okL (vars : Int) (l : Atoms) : Prop := ∀ a ∈ l, (∀ p ∈ a.2, 0 ≤ p ∧ p < vars) ∧ a.2.length ≤ 4 ∧ (a.1 = -1 → a.2.length = 2)
theorem okL_eq2 {vars : Int} {l : Atoms} (h : okL vars l) : eq2 l := fun a ha => (h a ha).2.2
theorem ok_rn {vars : Int} {l : Atoms} {g : Int → Int} (h : okL vars l) (hg : ∀ a ∈ l, ∀ p ∈ a.2, 0 ≤ g p ∧ g p < vars) : okL vars (rnL g l) := fun a ha => by
  obtain ⟨b, hb, rfl⟩ := List.mem_map.1 ha
  obtain ⟨_, h2, h3⟩ := h b hb
  refine ⟨fun p hp => ?_, by simpa using h2, fun h4 => by simpa using h3 h4⟩
  obtain ⟨q, hq, rfl⟩ := List.mem_map.1 hp
  exact hg b hb q hq
theorem xy_in {vars : Int} {l : Atoms} (h : okL vars l) {a : Int × List Int} (ha : a ∈ l) (h1 : a.1 = -1) : (0 ≤ mrgX a ∧ mrgX a < vars) ∧ 0 ≤ mrgY a ∧ mrgY a < vars := by
  obtain ⟨h2, _, h4⟩ := h a ha
  obtain ⟨x, y, e⟩ := len_two (h4 h1)
  rw [e] at h2
  have hx := h2 x (by simp)
  have hy := h2 y (by simp)
  simp only [mrgX, mrgY, e]
  exact ⟨hx, hy⟩
theorem sub_in {vars : Int} {l : Atoms} (h : okL vars l) {a : Int × List Int} (ha : a ∈ l) (h1 : a.1 = -1) {p : Int} (hp : 0 ≤ p ∧ p < vars) : 0 ≤ subTo (loA a) (hiA a) p ∧ subTo (loA a) (hiA a) p < vars := by
  obtain ⟨hx, hy⟩ := xy_in h ha h1
  by_cases c : p = hiA a
  · rw [sub_eq c]
    unfold loA
    omega
  · rw [sub_ne c]
    exact hp
theorem ok_st {vars : Int} {l : Atoms} (h : okL vars l) {a : Int × List Int} (ha : a ∈ l) (h1 : a.1 = -1) : okL vars (stM l a) := ok_rn h (fun b hb p hp => sub_in h ha h1 ((h b hb).1 p hp))
/-- atoms that say nothing, or have come before -/
def dropB (left : Atoms) (a : Int × List Int) : Bool := ((a.1 == -1) && (mrgX a == mrgY a)) || anyB (fun b => eqB a b) left
def lessS (left : Atoms) (a : Int × List Int) : Atoms := match dropB left a with
  | true => left
  | false => left ++ [a]
def lessL (l : Atoms) (k : Nat) : Atoms := (l.take k).foldl lessS []
theorem less_zero {l : Atoms} : lessL l 0 = [] := by simp [lessL]
theorem less_succ {l : Atoms} {k : Nat} (h : k < l.length) : lessL l (k + 1) = lessS (lessL l k) l[k] := by
  unfold lessL
  rw [List.take_succ_eq_append_getElem h, List.foldl_append]
  rfl
theorem less_yes {left : Atoms} {a : Int × List Int} (h : dropB left a = true) : lessS left a = left := by simp [lessS, h]
theorem less_no {left : Atoms} {a : Int × List Int} (h : dropB left a = false) : lessS left a = left ++ [a] := by simp [lessS, h]
theorem less_mem {l : Atoms} : ∀ k, k ≤ l.length → (∀ b ∈ lessL l k, b ∈ l) ∧ (lessL l k).length ≤ k
  | 0, _ => by rw [less_zero]; simp
  | k + 1, h => by
    obtain ⟨h1, h2⟩ := less_mem (l := l) k (by omega)
    rw [less_succ (show k < l.length by omega)]
    cases hd : dropB (lessL l k) (l[k]'(by omega))
    · rw [less_no hd]
      refine ⟨fun b hb => ?_, by rw [List.length_append]; simp; omega⟩
      rcases List.mem_append.1 hb with hb | hb
      · exact h1 b hb
      · rw [List.mem_singleton.1 hb]
        exact List.getElem_mem _
    · rw [less_yes hd]
      exact ⟨h1, by omega⟩
/-- does a variable occur? -/
def usB (left : Atoms) (v : Int) : Bool := anyB (fun a => hasI a.2 v) left
def varS (fr : Nat) (left : Atoms) (k : Nat) : List Int := upL 0 fr ++ ((List.range k).map fun i : Nat => ((fr + i : Nat) : Int)).filter (usB left)
theorem var_zero {fr : Nat} {left : Atoms} : varS fr left 0 = upL 0 fr := by simp [varS]
theorem var_yes {fr : Nat} {left : Atoms} {k : Nat} (h : usB left ((fr + k : Nat) : Int) = true) : varS fr left k ++ [((fr + k : Nat) : Int)] = varS fr left (k + 1) := by
  unfold varS
  rw [List.range_succ, List.map_append, List.filter_append, ← List.append_assoc]
  congr 1
  simp only [List.map_cons, List.map_nil, List.filter_cons, h, if_true, List.filter_nil]
theorem var_no {fr : Nat} {left : Atoms} {k : Nat} (h : usB left ((fr + k : Nat) : Int) = false) : varS fr left k = varS fr left (k + 1) := by
  unfold varS
  rw [List.range_succ, List.map_append, List.filter_append, ← List.append_assoc]
  simp only [List.map_cons, List.map_nil, List.filter_cons, h, List.filter_nil]
  simp
theorem var_pre {fr : Nat} {left : Atoms} {k : Nat} : ∀ m, ∃ r, varS fr left (k + m) = varS fr left k ++ r
  | 0 => ⟨[], by simp⟩
  | m + 1 => by
    obtain ⟨r, hr⟩ := var_pre (fr := fr) (left := left) (k := k) m
    cases h : usB left ((fr + (k + m) : Nat) : Int)
    · exact ⟨r, by rw [← Nat.add_assoc, ← var_no h, hr]⟩
    · exact ⟨r ++ [((fr + (k + m) : Nat) : Int)], by rw [← Nat.add_assoc, ← var_yes h, hr, List.append_assoc]⟩
theorem var_lt {fr : Nat} {left : Atoms} {k : Nat} : ∀ v ∈ varS fr left k, v < ((fr + k : Nat) : Int) := fun v hv => by
  unfold varS at hv
  rcases List.mem_append.1 hv with h | h
  · unfold upL at h
    obtain ⟨i, hi, rfl⟩ := List.mem_map.1 h
    simp at hi
    omega
  · obtain ⟨i, hi, rfl⟩ := List.mem_map.1 (List.mem_filter.1 h).1
    simp at hi
    omega
theorem var_len {fr : Nat} {left : Atoms} {k : Nat} : fr ≤ (varS fr left k).length ∧ (varS fr left k).length ≤ fr + k := by
  unfold varS
  rw [List.length_append, upL_len]
  have := List.length_filter_le (usB left) ((List.range k).map fun i : Nat => ((fr + i : Nat) : Int))
  rw [List.length_map, List.length_range] at this
  omega
/-- the new number of a variable -/
def numTo (fr : Nat) (left : Atoms) (v : Int) : Int := if v < fr then v else ((varS fr left (v - fr).toNat).length : Int)
theorem num_lt {fr : Nat} {left : Atoms} {v : Int} (h : v < fr) : numTo fr left v = v := if_pos h
theorem num_ge {fr : Nat} {left : Atoms} {k : Nat} : numTo fr left ((fr + k : Nat) : Int) = ((varS fr left k).length : Int) := by
  unfold numTo
  rw [if_neg (by omega), show (((fr + k : Nat) : Int) - (fr : Int)).toNat = k by omega]
theorem var_first {fr K : Nat} {left : Atoms} {v : Int} (h0 : 0 ≤ v) (h1 : v < ((fr + K : Nat) : Int)) (hu : usB left v = true) : firstI (fun a => v == a) (varS fr left K) = numTo fr left v := by
  rcases ilt v fr with h | h
  · obtain ⟨k, rfl⟩ : ∃ k : Nat, v = k := ⟨v.toNat, by omega⟩
    rw [num_lt h]
    have hk : k < (varS fr left K).length := by have := (var_len (fr := fr) (left := left) (k := K)).1; omega
    have hku : k < (upL 0 fr).length := by rw [upL_len]; omega
    refine firstI_at hk (fun x hx => ?_) ?_
    · unfold varS at hx
      rw [List.take_append_of_le_length (by omega)] at hx
      obtain ⟨i, hi, rfl⟩ := List.mem_iff_getElem.1 hx
      rw [List.getElem_take]
      have hi2 : i < k := by rw [List.length_take] at hi; omega
      have : (upL 0 fr)[i]'(by omega) = (i : Int) := by simp [upL]
      rw [this]
      have : (k : Int) ≠ i := by omega
      simpa using this
    · have : (varS fr left K)[k] = (k : Int) := by
        have h2 : (upL 0 fr ++ ((List.range K).map fun i : Nat => ((fr + i : Nat) : Int)).filter (usB left))[k]'hk = (upL 0 fr)[k] := List.getElem_append_left hku
        refine Eq.trans h2 ?_
        simp [upL]
      rw [this]
      simp
  · obtain ⟨k, rfl⟩ : ∃ k : Nat, v = ((fr + k : Nat) : Int) := ⟨(v - fr).toNat, by omega⟩
    rw [num_ge]
    obtain ⟨r, hr⟩ := var_pre (fr := fr) (left := left) (k := k + 1) (K - (k + 1))
    rw [show k + 1 + (K - (k + 1)) = K by omega, ← var_yes hu] at hr
    rw [hr]
    refine firstI_at (k := (varS fr left k).length) (by simp) (fun x hx => ?_) ?_
    · rw [List.append_assoc, List.take_append_of_le_length (Nat.le_refl _), List.take_length] at hx
      have := var_lt x hx
      have h3 : ((fr + k : Nat) : Int) ≠ x := by omega
      simpa using h3
    · simp
theorem rn_congr {l : Atoms} {g g' : Int → Int} (h : ∀ a ∈ l, ∀ p ∈ a.2, g p = g' p) : rnL g l = rnL g' l := by
  unfold rnL
  refine List.map_congr_left fun a ha => ?_
  rw [List.map_congr_left (h a ha)]
theorem us_yes {left : Atoms} {a : Int × List Int} {p : Int} (ha : a ∈ left) (hp : p ∈ a.2) : usB left p = true := by
  unfold usB anyB hasI anyB
  rw [List.any_eq_true]
  refine ⟨a, ha, ?_⟩
  rw [List.any_eq_true]
  exact ⟨p, hp, by simp⟩
/-- what is left of the atoms -/
def lefL (f : Int × Int × Atoms) : Atoms := lessL (mrgF f.1 f.2.2) (mrgF f.1 f.2.2).length
def simF (f : Int × Int × Atoms) : Int × Int × Atoms := (f.1, ((varS f.1.toNat (lefL f) (f.2.1 - f.1).toNat).length : Int), rnL (numTo f.1.toNat (lefL f)) (lefL f))
theorem mrg_keeps {fr vars : Int} : ∀ (n : Nat) {l : Atoms}, okL vars l → okL vars (mrgL fr n l) ∧ (mrgL fr n l).length = l.length
  | 0, _, h => ⟨h, rfl⟩
  | n + 1, l, h => by
    cases hf : l.find? (mrgB fr) with
    | none => rw [mrgL_none hf]; exact ⟨h, rfl⟩
    | some a =>
      rw [mrgL_some hf]
      obtain ⟨h1, h2⟩ := mrg_keeps n (ok_st h (List.mem_of_find?_eq_some hf) (mrgB_iff.1 (List.find?_some hf)).1)
      exact ⟨h1, h2.trans rnL_len⟩
theorem frm_okL {t : Int × List (Int × List (List Int))} {f : Int × Int × Atoms} (h : frmOk t f) : okL f.2.1 f.2.2 := fun a ha => by
  obtain ⟨-, -, -, -, h5⟩ := frm_bd (tb_true h)
  obtain ⟨h6, h7⟩ := h5 a ha
  refine ⟨h6, h7, fun h1 => ?_⟩
  have h8 := (h.2.2 a ha).2.1
  rw [h1] at h8
  have h9 : arOf t (-1) = 2 := by simp [arOf]
  omega
theorem lef_ok {t : Int × List (Int × List (List Int))} {f : Int × Int × Atoms} (h : frmOk t f) : okL f.2.1 (lefL f) ∧ (lefL f).length ≤ 16 := by
  obtain ⟨h1, h2⟩ := mrg_keeps (fr := f.1) f.2.2.length (frm_okL h)
  obtain ⟨h3, h4⟩ := less_mem (l := mrgF f.1 f.2.2) _ (Nat.le_refl _)
  obtain ⟨-, -, -, h5, -⟩ := frm_bd (tb_true h)
  refine ⟨fun a ha => h1 a (h3 a ha), ?_⟩
  have h6 : (mrgF f.1 f.2.2).length = f.2.2.length := h2
  unfold lefL
  omega
section
variable (t : Int × List (Int × List (List Int))) (f : Int × Int × Atoms)
noncomputable def simV : Int × Int × Atoms := match tb (frmOk t f) with
  | true => simF f
  | false => frm0
noncomputable def simC : Int := match tb (frmOk t f) with
  | true => 0
  | false => 1
end
section
variable {t : Int × List (Int × List (List Int))} {f : Int × Int × Atoms}
theorem sim_no (h : tb (frmOk t f) = false) : simV t f = frm0 ∧ simC t f = 1 := by simp [simV, simC, h]
theorem sim_yes (h : tb (frmOk t f) = true) : simV t f = simF f ∧ simC t f = 0 := by simp [simV, simC, h]
theorem sim_cnt : cntFrm (simV t f) ≤ 1000000 := by
  cases h : tb (frmOk t f)
  · rw [(sim_no h).1, cnt_frm0]; omega
  · rw [(sim_yes h).1]
    obtain ⟨h1, h2⟩ := lef_ok (tb_iff.1 h)
    have h3 := cntOps_bd (xs := lefL f) (fun a ha => (h1 a ha).2.1)
    have h4 : cntFrm (simF f) = cntOps (rnL (numTo f.1.toNat (lefL f)) (lefL f)) := rfl
    rw [h4, rnL_cnt]
    omega
end
end Go.Proofs.Ytepebfpgmnidnaa
