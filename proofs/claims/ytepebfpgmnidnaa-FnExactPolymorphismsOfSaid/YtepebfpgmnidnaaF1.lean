/-
  Plain mathematics of the search for operations: the program's recursion and the reference's steps answer alike. No program is named here.
-/
import Derived.Test.YtepebfpgmnidnaaBase
namespace Go.Proofs.Ytepebfpgmnidnaa
/-- a code, how many steps, what has been told -/
abbrev FR := Int × Nat × List (List Int)
/-- is a value barred by one that is told? -/
def skipB (fx : List Int) (i : Nat) (a : Int) : Bool := decide (0 ≤ fx.getD i 0) && (fx.getD i 0 != a)
/-- one value at the next place -/
def stepA (rec : List Int → FR → FR) (okT : List Int → Bool) (fx vals : List Int) (r : FR) (a : Nat) : FR :=
  match r.1 == 0, skipB fx vals.length a, r.2.1 == 6000, okT (vals ++ [(a : Int)]) with
  | false, _, _, _ => r
  | true, true, _, _ => r
  | true, false, true, _ => (7, r.2)
  | true, false, false, true => rec (vals ++ [(a : Int)]) (0, r.2.1 + 1, r.2.2)
  | true, false, false, false => (0, r.2.1 + 1, r.2.2)
/-- the search behind a list of values: m more are to be chosen -/
def srch (s : Nat) (okT : List Int → Bool) (fx : List Int) (yc : List (List Int) → Int) : Nat → List Int → FR → FR
  | 0, vals, r => (yc (r.2.2 ++ [vals]), r.2.1, r.2.2 ++ [vals])
  | m + 1, vals, r => (List.range s).foldl (stepA (srch s okT fx yc m) okT fx vals) r
section
variable {s : Nat} {okT : List Int → Bool} {fx : List Int} {yc : List (List Int) → Int} {m : Nat} {vals : List Int} {r : FR} {rec : List Int → FR → FR} {a : Nat}
/-- the first k values -/
def srchTo (s : Nat) (okT : List Int → Bool) (fx : List Int) (yc : List (List Int) → Int) (m : Nat) (vals : List Int) (k : Nat) (r : FR) : FR := (List.range k).foldl (stepA (srch s okT fx yc m) okT fx vals) r
theorem srch_succ : srch s okT fx yc (m + 1) vals r = srchTo s okT fx yc m vals s r := rfl
theorem srchTo_zero : srchTo s okT fx yc m vals 0 r = r := rfl
theorem srchTo_succ {k : Nat} : srchTo s okT fx yc m vals (k + 1) r = stepA (srch s okT fx yc m) okT fx vals (srchTo s okT fx yc m vals k r) k := by
  unfold srchTo
  rw [List.range_succ, List.foldl_append]
  rfl
theorem step_stop (h : r.1 ≠ 0) : stepA rec okT fx vals r a = r := by
  have : (r.1 == 0) = false := by simpa using h
  simp only [stepA, this]
theorem step_skip (h : skipB fx vals.length a = true) : stepA rec okT fx vals r a = r := by
  cases h0 : (r.1 == 0) <;> simp only [stepA, h, h0]
theorem step_bud (h0 : r.1 = 0) (h : skipB fx vals.length a = false) (h1 : r.2.1 = 6000) : stepA rec okT fx vals r a = (7, r.2) := by
  simp only [stepA, h, h0, h1, beq_self_eq_true]
theorem step_no (h0 : r.1 = 0) (h : skipB fx vals.length a = false) (h1 : r.2.1 ≠ 6000) (h2 : okT (vals ++ [(a : Int)]) = false) : stepA rec okT fx vals r a = (0, r.2.1 + 1, r.2.2) := by
  have : (r.2.1 == 6000) = false := by simpa using h1
  simp only [stepA, h, h0, this, h2, beq_self_eq_true]
theorem step_yes (h0 : r.1 = 0) (h : skipB fx vals.length a = false) (h1 : r.2.1 ≠ 6000) (h2 : okT (vals ++ [(a : Int)]) = true) : stepA rec okT fx vals r a = rec (vals ++ [(a : Int)]) (0, r.2.1 + 1, r.2.2) := by
  have : (r.2.1 == 6000) = false := by simpa using h1
  simp only [stepA, h, h0, this, h2, beq_self_eq_true]
theorem fold_stop (h : r.1 ≠ 0) : ∀ l : List Nat, l.foldl (stepA rec okT fx vals) r = r
  | [] => rfl
  | a :: l => by rw [List.foldl_cons, step_stop h]; exact fold_stop h l
theorem fold_skip : ∀ {l : List Nat}, (∀ a ∈ l, skipB fx vals.length a = true) → l.foldl (stepA rec okT fx vals) r = r
  | [], _ => rfl
  | a :: l, h => by rw [List.foldl_cons, step_skip (h a (List.mem_cons_self ..))]; exact fold_skip fun b hb => h b (List.mem_cons_of_mem _ hb)
theorem srchTo_stop {k j : Nat} (h : (srchTo s okT fx yc m vals k r).1 ≠ 0) (hk : k ≤ j) : srchTo s okT fx yc m vals j r = srchTo s okT fx yc m vals k r := by
  obtain ⟨d, rfl⟩ : ∃ d, j = k + d := ⟨j - k, by omega⟩
  induction d with
  | zero => rfl
  | succ d ih =>
    rw [← Nat.add_assoc, srchTo_succ, ih (by omega), step_stop h]
/-- the values from k on -/
def srchFr (s : Nat) (okT : List Int → Bool) (fx : List Int) (yc : List (List Int) → Int) (m : Nat) (vals : List Int) (k : Nat) (r : FR) : FR := ((List.range s).drop k).foldl (stepA (srch s okT fx yc m) okT fx vals) r
theorem srchFr_zero : srchFr s okT fx yc m vals 0 r = srch s okT fx yc (m + 1) vals r := by unfold srchFr; rw [List.drop_zero]; rfl
theorem srchFr_next {k : Nat} (h : k < s) : srchFr s okT fx yc m vals k r = srchFr s okT fx yc m vals (k + 1) (stepA (srch s okT fx yc m) okT fx vals r k) := by
  unfold srchFr
  rw [List.drop_eq_getElem_cons (by simpa using h), List.foldl_cons, List.getElem_range]
theorem srchFr_done {k : Nat} (h : s ≤ k) : srchFr s okT fx yc m vals k r = r := by
  unfold srchFr
  rw [List.drop_of_length_le (by simpa using h)]
  rfl
theorem srchFr_stop {k : Nat} (h : r.1 ≠ 0) : srchFr s okT fx yc m vals k r = r := fold_stop h _
theorem srchFr_skip {k : Nat} (h : ∀ a : Nat, k ≤ a → a < s → skipB fx vals.length a = true) : srchFr s okT fx yc m vals k r = r := by
  unfold srchFr
  refine fold_skip fun a ha => ?_
  obtain ⟨i, hi, rfl⟩ := List.mem_iff_getElem.1 ha
  rw [List.getElem_drop, List.getElem_range]
  rw [List.length_drop, List.length_range] at hi
  exact h _ (by omega) (by omega)
theorem srchFr_skips {k : Nat} : ∀ d, k + d ≤ s → (∀ a : Nat, k ≤ a → a < k + d → skipB fx vals.length a = true) → srchFr s okT fx yc m vals k r = srchFr s okT fx yc m vals (k + d) r
  | 0, _, _ => rfl
  | d + 1, hs, h => by
    rw [srchFr_skips d (by omega) (fun a h1 h2 => h a h1 (by omega)), srchFr_next (show k + d < s by omega), step_skip (h _ (by omega) (by omega))]
    rfl
/-- what is left of the search behind the values pre and the value cur: then up -/
def upF (s : Nat) (okT : List Int → Bool) (fx : List Int) (yc : List (List Int) → Int) (N : Nat) : Nat → List Int → Int → FR → FR
  | 0, pre, cur, r => srchFr s okT fx yc (N - 1) pre (cur + 1).toNat r
  | d + 1, pre, cur, r =>
    match (srchFr s okT fx yc (N - 1 - (d + 1)) pre (cur + 1).toNat r).1 == 0 with
    | true => upF s okT fx yc N d pre.dropLast (pre.getLastD 0) (srchFr s okT fx yc (N - 1 - (d + 1)) pre (cur + 1).toNat r)
    | false => srchFr s okT fx yc (N - 1 - (d + 1)) pre (cur + 1).toNat r
/-- so far so good: each value is one, and the one that is told -/
def preOk (s : Nat) (fx : List Int) (pre : List Int) : Prop := ∀ i (h : i < pre.length), 0 ≤ pre[i] ∧ pre[i] < s ∧ (0 ≤ fx.getD i 0 → pre[i] = fx.getD i 0)
def curOk (s : Nat) (fx : List Int) (i : Nat) (cur : Int) : Prop := cur = -1 ∨ (0 ≤ cur ∧ cur < s ∧ (0 ≤ fx.getD i 0 → cur = fx.getD i 0))
/-- the reference's next value at a place, or -1 -/
def otherV (s : Nat) (fx : List Int) (i : Nat) (cur : Int) : Int :=
  match decide (0 ≤ fx.getD i 0), decide (cur < 0), decide (cur + 1 < s) with
  | true, true, _ => fx.getD i 0
  | true, false, _ => -1
  | false, _, true => cur + 1
  | false, _, false => -1
theorem preOk_nil : preOk s fx [] := fun i h => by simp at h
theorem preOk_snoc {pre : List Int} {v : Int} (h : preOk s fx pre) (h0 : 0 ≤ v) (h1 : v < s) (h2 : 0 ≤ fx.getD pre.length 0 → v = fx.getD pre.length 0) : preOk s fx (pre ++ [v]) := fun i hi => by
  rcases Nat.lt_or_ge i pre.length with h' | h'
  · rw [List.getElem_append_left h']
    exact h i h'
  · obtain rfl : i = pre.length := by simp at hi; omega
    rw [show (pre ++ [v])[pre.length] = v by simp]
    exact ⟨h0, h1, h2⟩
theorem preOk_drop {pre : List Int} (h : preOk s fx pre) : preOk s fx pre.dropLast := fun i hi => by
  rw [List.length_dropLast] at hi
  rw [List.getElem_dropLast]
  exact h i (by omega)
theorem preOk_last {pre : List Int} {d : Nat} (h : preOk s fx pre) (hd : pre.length = d + 1) : curOk s fx d (pre.getLastD 0) := by
  have h1 := h d (by omega)
  have e : pre.getLastD 0 = pre[d]'(by omega) := by
    have e2 : pre.length - 1 = d := by omega
    rw [List.getLastD_eq_getLast?, List.getLast?_eq_getElem?]
    simp only [e2]
    rw [List.getElem?_eq_getElem (by omega)]
    rfl
  rw [e]
  exact .inr h1
/-- no value is left -/
theorem other_none {pre : List Int} {cur : Int} (hc : curOk s fx pre.length cur) (_hf : fx.getD pre.length 0 < s) (h : otherV s fx pre.length cur < 0) (m : Nat) : srchFr s okT fx yc m pre (cur + 1).toNat r = r := by
  unfold otherV at h
  cases h1 : decide (0 ≤ fx.getD pre.length 0)
  · have h1' := of_decide_eq_false h1
    cases h3 : decide (cur + 1 < (s : Int))
    · have := of_decide_eq_false h3
      exact srchFr_done (by omega)
    · rw [h1, h3] at h
      have h' : cur + 1 < 0 := h
      rcases hc with e | ⟨e, _⟩ <;> omega
  · have h1' := of_decide_eq_true h1
    cases h2 : decide (cur < 0)
    · have h2' := of_decide_eq_false h2
      rcases hc with e | ⟨_, _, e⟩
      · omega
      · have e := e h1'
        refine srchFr_skip fun a ha hs => ?_
        unfold skipB
        rw [h1]
        have : fx.getD pre.length 0 ≠ (a : Int) := by omega
        simpa using this
    · rw [h1, h2] at h
      have h' : fx.getD pre.length 0 < 0 := h
      omega
/-- the next value -/
theorem other_some {pre : List Int} {cur : Int} {v : Nat} (hc : curOk s fx pre.length cur) (hf : fx.getD pre.length 0 < s) (h : otherV s fx pre.length cur = v) (m : Nat) :
    v < s ∧ (0 ≤ fx.getD pre.length 0 → (v : Int) = fx.getD pre.length 0) ∧ skipB fx pre.length v = false ∧ ∀ r, srchFr s okT fx yc m pre (cur + 1).toNat r = srchFr s okT fx yc m pre (v + 1) (stepA (srch s okT fx yc m) okT fx pre r v) := by
  unfold otherV at h
  cases h1 : decide (0 ≤ fx.getD pre.length 0)
  · have h1' := of_decide_eq_false h1
    cases h3 : decide (cur + 1 < (s : Int))
    · rw [h1, h3] at h
      have h' : (-1 : Int) = v := h
      omega
    · have h3' := of_decide_eq_true h3
      rw [h1, h3] at h
      have h' : cur + 1 = (v : Int) := h
      clear h
      refine ⟨by omega, fun h => absurd h h1', by unfold skipB; rw [h1]; rfl, fun r => ?_⟩
      rw [show (cur + 1).toNat = v by omega]
      exact srchFr_next (by omega)
  · have h1' := of_decide_eq_true h1
    cases h2 : decide (cur < 0)
    · rw [h1, h2] at h
      have h' : (-1 : Int) = v := h
      omega
    · have h2' := of_decide_eq_true h2
      rw [h1, h2] at h
      replace h : fx.getD pre.length 0 = (v : Int) := h
      have hv : v < s := by omega
      refine ⟨hv, fun _ => h.symm, by unfold skipB; rw [h1, h]; simp, fun r => ?_⟩
      have hc1 : cur = -1 := by rcases hc with e | ⟨e, _⟩ <;> omega
      rw [hc1, show ((-1 : Int) + 1).toNat = 0 from rfl, srchFr_skips (k := 0) v (by omega) (fun a _ ha => by
        unfold skipB
        rw [h1]
        have : fx.getD pre.length 0 ≠ (a : Int) := by omega
        simpa using this), Nat.zero_add]
      exact srchFr_next hv
section
variable {N d : Nat} {pre : List Int} {cur : Int}
/-- back: up -/
theorem up_back (_ : pre.length = d + 1) (hc : curOk s fx pre.length cur) (hf : fx.getD pre.length 0 < s) (h : otherV s fx pre.length cur < 0) (h0 : r.1 = 0) : upF s okT fx yc N (d + 1) pre cur r = upF s okT fx yc N d pre.dropLast (pre.getLastD 0) r := by
  simp only [upF]
  rw [other_none hc hf h, h0]
  rfl
theorem up_end (hd : pre.length = 0) (hc : curOk s fx 0 cur) (hf : fx.getD 0 0 < s) (h : otherV s fx 0 cur < 0) : upF s okT fx yc N 0 pre cur r = r := by
  simp only [upF]
  rw [← hd] at hc hf h
  exact other_none hc hf h _
/-- on: what the value does, then what is behind it -/
def upN (s : Nat) (okT : List Int → Bool) (fx : List Int) (yc : List (List Int) → Int) (N d : Nat) (pre : List Int) (cur : Int) (r : FR) : FR :=
  match r.1 == 0 with
  | true => upF s okT fx yc N d pre cur r
  | false => r
theorem upN_yes (h : r.1 = 0) : upN s okT fx yc N d pre cur r = upF s okT fx yc N d pre cur r := by simp [upN, h]
theorem upN_no (h : r.1 ≠ 0) : upN s okT fx yc N d pre cur r = r := by
  have : (r.1 == 0) = false := by simpa using h
  simp only [upN, this]
theorem up_next {v : Nat} (hd : pre.length = d) (hN : d < N) (hc : curOk s fx pre.length cur) (hf : fx.getD pre.length 0 < s) (h : otherV s fx pre.length cur = v) :
    upF s okT fx yc N d pre cur r = upN s okT fx yc N d pre v (stepA (srch s okT fx yc (N - 1 - d)) okT fx pre r v) := by
  obtain ⟨-, -, -, h1⟩ := other_some (okT := okT) (yc := yc) hc hf h (N - 1 - d)
  have e : ((v : Int) + 1).toNat = v + 1 := by omega
  cases hz : ((stepA (srch s okT fx yc (N - 1 - d)) okT fx pre r v).1 == 0)
  · have hz' : (stepA (srch s okT fx yc (N - 1 - d)) okT fx pre r v).1 ≠ 0 := by simpa using hz
    rw [upN_no hz']
    cases d with
    | zero =>
      simp only [upF, Nat.sub_zero] at h1 hz' ⊢
      rw [h1, srchFr_stop hz']
    | succ d =>
      simp only [upF]
      rw [h1, srchFr_stop hz', hz]
  · have hz' : (stepA (srch s okT fx yc (N - 1 - d)) okT fx pre r v).1 = 0 := by simpa using hz
    rw [upN_yes hz']
    cases d with
    | zero =>
      simp only [upF, Nat.sub_zero] at h1 hz' ⊢
      rw [h1, e]
    | succ d =>
      simp only [upF]
      rw [h1, e]
/-- down -/
theorem up_down {v : Nat} (_ : pre.length = d) (hN : d + 1 < N) : upF s okT fx yc N (d + 1) (pre ++ [(v : Int)]) (-1) r = upN s okT fx yc N d pre v (srch s okT fx yc (N - 1 - d) (pre ++ [(v : Int)]) r) := by
  simp only [upF, upN]
  rw [show ((-1 : Int) + 1).toNat = 0 from rfl, srchFr_zero, show N - 1 - (d + 1) + 1 = N - 1 - d by omega]
  have e1 : (pre ++ [(v : Int)]).dropLast = pre := by simp
  have e2 : (pre ++ [(v : Int)]).getLastD 0 = v := by simp [List.getLastD_eq_getLast?]
  rw [e1, e2]
/-- behind a value: the end of the steps, one that does not go, one that goes on, one that is the last -/
theorem go_bud {v st : Nat} {L : List (List Int)} (hd : pre.length = d) (hN : d < N) (hc : curOk s fx pre.length cur) (hf : fx.getD pre.length 0 < s) (h : otherV s fx pre.length cur = v) (hst : st = 6000) :
    upF s okT fx yc N d pre cur (0, st, L) = (7, 6000, L) := by
  obtain ⟨-, -, hk, -⟩ := other_some (okT := okT) (yc := yc) hc hf h 0
  rw [up_next hd hN hc hf h, step_bud rfl hk hst, upN_no (show (7 : Int) ≠ 0 by decide), hst]
theorem go_no {v st : Nat} {L : List (List Int)} (hd : pre.length = d) (hN : d < N) (hc : curOk s fx pre.length cur) (hf : fx.getD pre.length 0 < s) (h : otherV s fx pre.length cur = v) (hst : st ≠ 6000) (ht : okT (pre ++ [(v : Int)]) = false) :
    upF s okT fx yc N d pre cur (0, st, L) = upF s okT fx yc N d pre v (0, st + 1, L) := by
  obtain ⟨-, -, hk, -⟩ := other_some (okT := okT) (yc := yc) hc hf h 0
  rw [up_next hd hN hc hf h, step_no rfl hk hst ht, upN_yes rfl]
theorem go_on {v st : Nat} {L : List (List Int)} (hd : pre.length = d) (hN : d + 1 < N) (hc : curOk s fx pre.length cur) (hf : fx.getD pre.length 0 < s) (h : otherV s fx pre.length cur = v) (hst : st ≠ 6000) (ht : okT (pre ++ [(v : Int)]) = true) :
    upF s okT fx yc N d pre cur (0, st, L) = upF s okT fx yc N (d + 1) (pre ++ [(v : Int)]) (-1) (0, st + 1, L) := by
  obtain ⟨-, -, hk, -⟩ := other_some (okT := okT) (yc := yc) hc hf h 0
  rw [up_next hd (by omega) hc hf h, step_yes rfl hk hst ht, up_down hd hN]
/-- what comes behind one that has been found -/
def contF (s : Nat) (okT : List Int → Bool) (fx : List Int) (yc : List (List Int) → Int) (N d : Nat) (pre : List Int) (v : Int) (st : Nat) (L : List (List Int)) : FR :=
  upN s okT fx yc N d pre v (yc (L ++ [pre ++ [v]]), st, L ++ [pre ++ [v]])
theorem go_found {v st : Nat} {L : List (List Int)} (hd : pre.length = d) (hN : d + 1 = N) (hc : curOk s fx pre.length cur) (hf : fx.getD pre.length 0 < s) (h : otherV s fx pre.length cur = v) (hst : st ≠ 6000) (ht : okT (pre ++ [(v : Int)]) = true) :
    upF s okT fx yc N d pre cur (0, st, L) = contF s okT fx yc N d pre v (st + 1) L := by
  obtain ⟨-, -, hk, -⟩ := other_some (okT := okT) (yc := yc) hc hf h 0
  rw [up_next hd (by omega) hc hf h, step_yes rfl hk hst ht, show N - 1 - d = 0 by omega]
  rfl
theorem up_all (hN : 0 < N) : upF s okT fx yc N 0 [] (-1) r = srch s okT fx yc N [] r := by
  simp only [upF]
  rw [show ((-1 : Int) + 1).toNat = 0 from rfl, srchFr_zero, show N - 1 + 1 = N by omega]
theorem cont_yes {v : Int} {st : Nat} {L : List (List Int)} (h : yc (L ++ [pre ++ [v]]) = 0) : contF s okT fx yc N d pre v st L = upF s okT fx yc N d pre v (0, st, L ++ [pre ++ [v]]) := by
  unfold contF
  rw [upN_yes h, h]
theorem cont_no {v : Int} {st : Nat} {L : List (List Int)} (h : yc (L ++ [pre ++ [v]]) ≠ 0) : contF s okT fx yc N d pre v st L = (yc (L ++ [pre ++ [v]]), st, L ++ [pre ++ [v]]) := by
  unfold contF
  rw [upN_no h]
end
/-- the steps only grow, and never go past their end -/
theorem srch_steps : ∀ (m : Nat) (vals : List Int) (r : FR), r.2.1 ≤ 6000 → (srch s okT fx yc m vals r).2.1 ≤ 6000
  | 0, vals, r, h => h
  | m + 1, vals, r, h => by
    have key : ∀ (l : List Nat) (r : FR), r.2.1 ≤ 6000 → (l.foldl (stepA (srch s okT fx yc m) okT fx vals) r).2.1 ≤ 6000 := by
      intro l
      induction l with
      | nil => exact fun r h => h
      | cons a l ih =>
        intro r h
        rw [List.foldl_cons]
        refine ih _ ?_
        by_cases h0 : r.1 = 0
        · cases h1 : skipB fx vals.length a
          · by_cases h2 : r.2.1 = 6000
            · rw [step_bud h0 h1 h2]; exact h
            · cases h3 : okT (vals ++ [(a : Int)])
              · rw [step_no h0 h1 h2 h3]; show r.2.1 + 1 ≤ 6000; omega
              · rw [step_yes h0 h1 h2 h3]; exact srch_steps m _ _ (by show r.2.1 + 1 ≤ 6000; omega)
          · rw [step_skip h1]; exact h
        · rw [step_stop h0]; exact h
    exact key _ _ h
theorem srchTo_steps {k : Nat} (h : r.2.1 ≤ 6000) : (srchTo s okT fx yc m vals k r).2.1 ≤ 6000 := by
  induction k with
  | zero => exact h
  | succ k ih =>
    rw [srchTo_succ]
    generalize srchTo s okT fx yc m vals k r = q at *
    by_cases h0 : q.1 = 0
    · cases h1 : skipB fx vals.length k
      · by_cases h2 : q.2.1 = 6000
        · rw [step_bud h0 h1 h2]; exact ih
        · cases h3 : okT (vals ++ [(k : Int)])
          · rw [step_no h0 h1 h2 h3]; show q.2.1 + 1 ≤ 6000; omega
          · rw [step_yes h0 h1 h2 h3]; exact srch_steps m _ _ (by show q.2.1 + 1 ≤ 6000; omega)
      · rw [step_skip h1]; exact ih
    · rw [step_stop h0]; exact ih
/-- no more are told than steps are taken -/
theorem srch_told : ∀ (m : Nat) (vals : List Int) (r : FR), (srch s okT fx yc (m + 1) vals r).2.2.length + r.2.1 ≤ r.2.2.length + (srch s okT fx yc (m + 1) vals r).2.1 ∧ r.2.1 ≤ (srch s okT fx yc (m + 1) vals r).2.1 := by
  intro m
  induction m with
  | zero =>
    intro vals r
    have key : ∀ (l : List Nat) (r : FR), (l.foldl (stepA (srch s okT fx yc 0) okT fx vals) r).2.2.length + r.2.1 ≤ r.2.2.length + (l.foldl (stepA (srch s okT fx yc 0) okT fx vals) r).2.1 ∧ r.2.1 ≤ (l.foldl (stepA (srch s okT fx yc 0) okT fx vals) r).2.1 := by
      intro l
      induction l with
      | nil => exact fun r => ⟨Nat.le_refl _, Nat.le_refl _⟩
      | cons a l ih =>
        intro r
        rw [List.foldl_cons]
        by_cases h0 : r.1 = 0
        · cases h1 : skipB fx vals.length a
          · by_cases h2 : r.2.1 = 6000
            · rw [step_bud h0 h1 h2]; exact ih (7, r.2)
            · cases h3 : okT (vals ++ [(a : Int)])
              · rw [step_no h0 h1 h2 h3]
                obtain ⟨i1, i2⟩ := ih (0, r.2.1 + 1, r.2.2)
                simp only at i1 i2
                constructor <;> omega
              · rw [step_yes h0 h1 h2 h3]
                have e : srch s okT fx yc 0 (vals ++ [(a : Int)]) (0, r.2.1 + 1, r.2.2) = (yc (r.2.2 ++ [vals ++ [(a : Int)]]), r.2.1 + 1, r.2.2 ++ [vals ++ [(a : Int)]]) := rfl
                rw [e]
                obtain ⟨i1, i2⟩ := ih (yc (r.2.2 ++ [vals ++ [(a : Int)]]), r.2.1 + 1, r.2.2 ++ [vals ++ [(a : Int)]])
                simp only [List.length_append, List.length_singleton] at i1 i2
                constructor <;> omega
          · rw [step_skip h1]; exact ih r
        · rw [step_stop h0]; exact ih r
    exact key _ r
  | succ m ihm =>
    intro vals r
    have key : ∀ (l : List Nat) (r : FR), (l.foldl (stepA (srch s okT fx yc (m + 1)) okT fx vals) r).2.2.length + r.2.1 ≤ r.2.2.length + (l.foldl (stepA (srch s okT fx yc (m + 1)) okT fx vals) r).2.1 ∧ r.2.1 ≤ (l.foldl (stepA (srch s okT fx yc (m + 1)) okT fx vals) r).2.1 := by
      intro l
      induction l with
      | nil => exact fun r => ⟨Nat.le_refl _, Nat.le_refl _⟩
      | cons a l ih =>
        intro r
        rw [List.foldl_cons]
        by_cases h0 : r.1 = 0
        · cases h1 : skipB fx vals.length a
          · by_cases h2 : r.2.1 = 6000
            · rw [step_bud h0 h1 h2]; exact ih (7, r.2)
            · cases h3 : okT (vals ++ [(a : Int)])
              · rw [step_no h0 h1 h2 h3]
                obtain ⟨i1, i2⟩ := ih (0, r.2.1 + 1, r.2.2)
                simp only at i1 i2
                constructor <;> omega
              · rw [step_yes h0 h1 h2 h3]
                obtain ⟨j1, j2⟩ := ihm (vals ++ [(a : Int)]) (0, r.2.1 + 1, r.2.2)
                obtain ⟨i1, i2⟩ := ih (srch s okT fx yc (m + 1) (vals ++ [(a : Int)]) (0, r.2.1 + 1, r.2.2))
                simp only at j1 j2
                constructor <;> omega
          · rw [step_skip h1]; exact ih r
        · rw [step_stop h0]; exact ih r
    exact key _ r
theorem srchTo_told {k : Nat} : (srchTo s okT fx yc m vals k r).2.2.length + r.2.1 ≤ r.2.2.length + (srchTo s okT fx yc m vals k r).2.1 ∧ r.2.1 ≤ (srchTo s okT fx yc m vals k r).2.1 := by
  induction k with
  | zero => exact ⟨Nat.le_refl _, Nat.le_refl _⟩
  | succ k ih =>
    rw [srchTo_succ]
    generalize srchTo s okT fx yc m vals k r = q at *
    obtain ⟨i1, i2⟩ := ih
    by_cases h0 : q.1 = 0
    · cases h1 : skipB fx vals.length k
      · by_cases h2 : q.2.1 = 6000
        · rw [step_bud h0 h1 h2]; exact ⟨i1, i2⟩
        · cases h3 : okT (vals ++ [(k : Int)])
          · rw [step_no h0 h1 h2 h3]
            show q.2.2.length + r.2.1 ≤ r.2.2.length + (q.2.1 + 1) ∧ r.2.1 ≤ q.2.1 + 1
            constructor <;> omega
          · rw [step_yes h0 h1 h2 h3]
            cases m with
            | zero =>
              show (q.2.2 ++ [vals ++ [(k : Int)]]).length + r.2.1 ≤ r.2.2.length + (q.2.1 + 1) ∧ r.2.1 ≤ q.2.1 + 1
              rw [List.length_append, List.length_singleton]
              constructor <;> omega
            | succ m =>
              obtain ⟨j1, j2⟩ := srch_told (s := s) (okT := okT) (fx := fx) (yc := yc) m (vals ++ [(k : Int)]) (0, q.2.1 + 1, q.2.2)
              simp only at j1 j2
              constructor <;> omega
      · rw [step_skip h1]; exact ⟨i1, i2⟩
    · rw [step_stop h0]; exact ⟨i1, i2⟩
end
end Go.Proofs.Ytepebfpgmnidnaa
