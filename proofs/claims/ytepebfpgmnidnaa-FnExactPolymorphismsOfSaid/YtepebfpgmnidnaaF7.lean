/-
  Small lemmas of lists of tuples that both searches use. No program is named here.
  A finder's data while they are made: rows of lists that are due, each a row of its own, and a row of sets; what each append keeps. No program is named here.
-/
import Derived.Test.YtepebfpgmnidnaaF2
import Derived.Test.YtepebfpgmnidnaaF3
namespace Go.Proofs.Ytepebfpgmnidnaa
open Go.RowKit Go.Sort
theorem cellsL_zero {s : Int} {ar : Nat} {r : Int × List (List Int)} {i : Int} : (cellsL s ar r i).take 0 = [] := List.take_zero
theorem fr_blk {α : Type} {E : Ty α} {base : Nat} {w : World} {b o n cap : Nat} {xs : List α} (h : (Ty.slice E).Fr base w [.slice (some ⟨b, o, none⟩) n cap] xs) (h0 : 0 < xs.length) : base ≤ b := by
  obtain ⟨fp, ⟨ad, cap', hv, _, _, h3⟩, _, h4, _⟩ := h
  rcases h3 with ⟨h3, _⟩ | ⟨_, b', o', fps, rfl, _, rfl, _⟩
  · omega
  · simp only [List.cons.injEq, Value.slice.injEq, Option.some.injEq, Addr.mk.injEq, and_true] at hv
    obtain ⟨⟨rfl, rfl⟩, -, -⟩ := hv
    exact h4 _ (List.mem_cons_self ..)
theorem col_at {ts : List (List Int)} {n ar : Nat} {i : Int} {p q dn : Nat} (hn : ts.length = n) (hq : q < (digL (n : Int) i ar).length) (hd : (digL (n : Int) i ar)[q] = (dn : Int)) (hdn : dn < ts.length) (hp : p < (ts[dn]).length) (hq' : q < (colL (picks ts ar i) p).length) : (colL (picks ts ar i) p)[q] = (ts[dn])[p] := by
  subst hn
  simp [colL, picks, hd, hdn, hp]
theorem picks_tups {s : Int} {ar : Nat} {r : Int × List (List Int)} {i : Int} (hr : relOk s r) (h0 : 0 < r.2.length) : tupsOk s (ar : Int) r.1.toNat (picks r.2 ar i) := by
  refine ⟨by rw [picks_len], fun u hu => ?_⟩
  obtain ⟨k, hk, rfl⟩ := List.mem_map.1 hu
  have hk2 := dig_mem (n := (r.2.length : Int)) (by omega) hk
  have hkl : k.toNat < r.2.length := by omega
  rw [List.getD_eq_getElem?_getD, List.getElem?_eq_getElem hkl]
  obtain ⟨h1, h2⟩ := (hr.2.2 k.toNat hkl).1
  have := hr.2.1
  exact ⟨by show (r.2[k.toNat]).length = r.1.toNat; omega, h2⟩
theorem cells_get {s : Int} {ar : Nat} {r : Int × List (List Int)} {i : Int} {p : Nat} (h : p < r.1.toNat) : (cellsL s ar r i).take p ++ [idxL s 0 (colL (picks r.2 ar i) p)] = (cellsL s ar r i).take (p + 1) := by
  have h' : p < (cellsL s ar r i).length := by rw [cells_len]; exact h
  rw [List.take_succ_eq_append_getElem h']
  simp [cellsL]
abbrev ZP := (Int × List Int) × (Int × Value)
def zF (Z : List ZP) (v : Nat) : List ZP := Z.filter fun z => topI z.1.2 == (v : Int)
theorem zF_nil {v : Nat} : zF [] v = [] := rfl
theorem zF_yes {Z : List ZP} {z : ZP} {v : Nat} (h : topI z.1.2 = (v : Int)) : zF (Z ++ [z]) v = zF Z v ++ [z] := by
  unfold zF
  rw [List.filter_append]
  simp [h]
theorem zF_no {Z : List ZP} {z : ZP} {v : Nat} (h : topI z.1.2 ≠ (v : Int)) : zF (Z ++ [z]) v = zF Z v := by
  unfold zF
  rw [List.filter_append]
  simp [h]
theorem zF_fst {Z : List ZP} {v : Nat} : (zF Z v).map (·.1) = dueF (Z.map (·.1)) v := by
  unfold zF dueF
  rw [List.filter_map]
  rfl
theorem zF_mem {Z : List ZP} {v : Nat} {z : ZP} (h : z ∈ zF Z v) : z ∈ Z := (List.mem_filter.1 h).1
theorem zF_len {Z : List ZP} {v : Nat} : (zF Z v).length ≤ Z.length := List.length_filter_le _ _
/-- blocks of what is finished -/
def okN (base N : Nat) (us : Nat → Value) (vin : Value) (k : Nat) : Prop := base ≤ k ∧ (∀ v, v < N → (us v).ownBlock ≠ some k) ∧ vin.ownBlock ≠ some k
structure FinS (B : Ty (List Bool)) (eL eR eB base N : Nat) (w : World) (g : Nat) (us : Nat → Value) (vin : Value) (Z : List ZP) (vs : List Value) (ins : List (List Bool)) : Prop where
  du : DU eL eR base w.heap.size w g N us (fun v => (zF Z v).map (·.2))
  zs : ∀ z ∈ Z, pvR (okN base N us vin) w z
  vi : Bl Ty.val eB base w.heap.size w vin vs
  bl : vs.length = ins.length
  br : ∀ i (h : i < vs.length) (h' : i < ins.length), B.RdP (okN base N us vin) w [vs[i]] ins[i]
  vu : ∀ v, v < N → ∀ k, (us v).ownBlock = some k → vin.ownBlock ≠ some k
section
variable {B : Ty (List Bool)} {eL eR eB base N g : Nat} {w w' : World} {us : Nat → Value} {vin : Value} {Z : List ZP} {vs : List Value} {ins : List (List Bool)}
theorem FinS.lt (h : FinS B eL eR eB base N w g us vin Z vs ins) : g < w.heap.size := h.du.lt
theorem FinS.below (h : FinS B eL eR eB base N w g us vin Z vs ins) (hB : base ≤ w.heap.size) (hb : Below w.heap.size w w') : FinS B eL eR eB base N w' g us vin Z vs ins :=
  ⟨(h.du.below hb (Nat.le_refl _) hB).mono hb.size, fun z hz => (h.zs z hz).below hb, (h.vi.below hb (Nat.le_refl _)).mono hb.size, h.bl, fun i h1 h2 => (h.br i h1 h2).below hb, h.vu⟩
/-- a cell of an older block -/
theorem FinS.set {b i : Nat} {u : Value} (h : FinS B eL eR eB base N w g us vin Z vs ins) (hb : b < base) (hg : b ≠ g) : FinS B eL eR eB base N (w.setCell ⟨b, i, none⟩ u) g us vin Z vs ins := by
  have ht : TchP (fun k => k = b) w (w.setCell ⟨b, i, none⟩ u) := TchP.set rfl
  have hk : ∀ k, k < w.heap.size → okN base N us vin k → ¬ (k = b) := fun k _ hk e => by have := hk.1; omega
  have hz : (w.setCell ⟨b, i, none⟩ u).heap.size = w.heap.size := by simp [World.setCell]
  have hh : ∀ k, k ≠ b → (w.setCell ⟨b, i, none⟩ u).heap[k]? = w.heap[k]? := fun k hk => Below.heap_setCell _ _ _ _ hk
  refine ⟨?_, fun z hz => (h.zs z hz).tchP ht hk, bl_val_same h.vi (fun q hq => hh q (by have := h.vi.ge hq; omega)) (by rw [hz]; exact Nat.le_refl _), h.bl, fun j h1 h2 => (h.br j h1 h2).tchP ht hk, h.vu⟩
  obtain ⟨d1, d2, d3, d4⟩ := h.du
  refine ⟨owns_same d1 (hh g (Ne.symm hg)), d2, fun v hv => ?_, d4⟩
  exact pv_same (d3 v hv) (fun q hq => hh q (by have := (d3 v hv).ge hq; omega)) (by rw [hz]; exact Nat.le_refl _)
/-- one more set -/
theorem FinS.pushIn {v' x : Value} {L : List Bool} (h : FinS B eL eR eB base N w g us vin Z vs ins) (_ : base ≤ w.heap.size) (hB : Bl Ty.val eB base w'.heap.size w' v' (vs ++ [x])) (hg : w.grownBy w' vin.ownBlock) (hv : v'.ownBlock = vin.ownBlock ∨ v'.ownBlock = some w.heap.size) (hx : B.RdP (okN base N us vin) w [x] L) :
    FinS B eL eR eB base N w' g us v' Z (vs ++ [x]) (ins ++ [L]) := by
  have ht : TchP (fun k => vin.ownBlock = some k) w w' := TchP.grown hg (fun k h => h)
  have hk : ∀ k, k < w.heap.size → okN base N us vin k → ¬ (vin.ownBlock = some k) := fun k _ hk e => hk.2.2 e
  have hm : ∀ k, k < w'.heap.size → k < w.heap.size → okN base N us vin k → okN base N us v' k := fun k _ hl hk => ⟨hk.1, hk.2.1, fun e => by
    rcases hv with hv | hv
    · rw [hv] at e; exact hk.2.2 e
    · rw [hv] at e; simp at e; omega⟩
  have key : ∀ {α : Type} {E : Ty α} {cs : List Value} {y : α}, E.RdP (okN base N us vin) w cs y → E.RdP (okN base N us v') w' cs y := fun {α} {E} {cs} {y} hy => by
    obtain ⟨fp, h1, h2⟩ := hy
    have hlt := E.lt h1
    exact ⟨fp, E.same h1 (fun k hk' => ht.block k (hlt k hk') (hk k (hlt k hk') (h2 k hk'))), fun k hk' => hm k (Nat.lt_of_lt_of_le (hlt k hk') ht.size) (hlt k hk') (h2 k hk')⟩
  obtain ⟨d1, d2, d3, d4⟩ := h.du
  refine ⟨⟨owns_same d1 (hg.block g h.lt (fun e => by have := h.vi.ge e.symm; omega)), d2, fun v hv' => ?_, d4⟩, fun z hz => ⟨(h.zs z hz).1, (h.zs z hz).2.1, key (h.zs z hz).2.2⟩, hB, by simp [h.bl], fun i h1 h2 => ?_, fun v hv' k hk' e => ?_⟩
  · exact pv_same (d3 v hv') (fun q hq => hg.block q ((d3 v hv').lt_top hq) (fun e => h.vu v hv' q hq e.symm)) hg.size
  · rcases Nat.lt_or_ge i vs.length with hi | hi
    · rw [List.getElem_append_left hi, List.getElem_append_left (by rw [← h.bl]; exact hi)]
      exact key (h.br i hi (by rw [← h.bl]; exact hi))
    · obtain rfl : i = vs.length := by simp at h1; omega
      have e1 : (vs ++ [x])[vs.length]'h1 = x := by simp
      have e2 : (ins ++ [L])[vs.length]'h2 = L := by simp [h.bl]
      rw [e1, e2]
      exact key hx
  · rcases hv with hv | hv
    · rw [hv] at e; exact h.vu v hv' k hk' e
    · rw [hv] at e
      simp at e
      have := (d3 v hv').lt_top hk'
      omega
/-- one more list that is due -/
theorem FinS.pushDue {l : Nat} {v1 : Value} {z : ZP} (h : FinS B eL eR eB base N w g us vin Z vs ins) (_ : base ≤ w.heap.size) (hl : l < N) (ht : topI z.1.2 = (l : Int)) (hB : Bl pvT eL base w'.heap.size w' v1 ((zF Z l).map (·.2) ++ [z.2])) (hg : w.grownBy w' (us l).ownBlock) (hv : v1.ownBlock = (us l).ownBlock ∨ v1.ownBlock = some w.heap.size) (hz : pvR (okN base N us vin) w z) :
    FinS B eL eR eB base N (w'.setCell ⟨g, l, none⟩ v1) g (fun v => if v = l then v1 else us v) vin (Z ++ [z]) vs ins := by
  have hd := DU.push h.du hl hB hg hv (Nat.le_refl _)
  have hzz : (w'.setCell ⟨g, l, none⟩ v1).heap.size = w'.heap.size := by simp [World.setCell]
  have hgb' : g < base := h.du.2.1
  have hs : ∀ k, k < w.heap.size → (us l).ownBlock ≠ some k → k ≠ g → (w'.setCell ⟨g, l, none⟩ v1).heap[k]? = w.heap[k]? := fun k hk hne hkg => (Below.heap_setCell _ _ _ _ (by simpa using hkg)).trans (hg.block k hk (fun e => hne e.symm))
  have hm : ∀ k, k < w.heap.size → okN base N us vin k → okN base N (fun v => if v = l then v1 else us v) vin k := fun k hk' hk => ⟨hk.1, fun v hv' => by
    by_cases e : v = l
    · simp only [if_pos e]
      rcases hv with hv | hv
      · rw [hv]; exact hk.2.1 l hl
      · rw [hv]; intro e'; simp at e'; omega
    · simp only [if_neg e]; exact hk.2.1 v hv', hk.2.2⟩
  have key : ∀ {α : Type} {E : Ty α} {cs : List Value} {y : α}, E.RdP (okN base N us vin) w cs y → E.RdP (okN base N (fun v => if v = l then v1 else us v) vin) (w'.setCell ⟨g, l, none⟩ v1) cs y := fun {α} {E} {cs} {y} hy => by
    obtain ⟨fp, h1, h2⟩ := hy
    have hlt := E.lt h1
    exact ⟨fp, E.same h1 (fun k hk' => hs k (hlt k hk') ((h2 k hk').2.1 l hl) (by have := (h2 k hk').1; omega)), fun k hk' => hm k (hlt k hk') (h2 k hk')⟩
  refine ⟨?_, fun y hy => ?_, bl_val_same h.vi (fun q hq => hs q (h.vi.lt_top hq) (fun e => h.vu l hl q e hq) (by have := h.vi.ge hq; omega)) (by rw [hzz]; exact hg.size), h.bl, fun i h1 h2 => key (h.br i h1 h2), fun v hv' k hk' e => ?_⟩
  · rw [hzz]
    have e : (fun v => if v = l then (zF Z l).map (·.2) ++ [z.2] else (zF Z v).map (·.2)) = fun v => (zF (Z ++ [z]) v).map (·.2) := by
      funext v
      by_cases e : v = l
      · subst e
        rw [if_pos rfl, zF_yes ht, List.map_append]
        rfl
      · rw [if_neg e, zF_no (by rw [ht]; intro h; exact e (by omega))]
    rw [e] at hd
    exact hd
  · rcases List.mem_append.1 hy with hy | hy
    · exact ⟨(h.zs y hy).1, (h.zs y hy).2.1, key (h.zs y hy).2.2⟩
    · rw [List.mem_singleton.1 hy]
      exact ⟨hz.1, hz.2.1, key hz.2.2⟩
  · by_cases e' : v = l
    · simp only [if_pos e'] at hk'
      rcases hv with hv | hv
      · rw [hv] at hk'; exact h.vu l hl k hk' e
      · rw [hv] at hk'
        simp at hk'
        have := h.vi.lt_top e
        omega
    · simp only [if_neg e'] at hk'
      exact h.vu v hv' k hk' e
/-- what they read as in the end -/
theorem FinS.dues (h : FinS B eL eR eB base N w g us vin Z vs ins) (hN : N ≤ 1000) (hZ : Z.length ≤ 1000000) : duesT.RdP (fun k => k = g ∨ base ≤ k) w [.slice (some ⟨g, 0, none⟩) N N] (duesF (Z.map (·.1)) N) := by
  have h1 := dues_of (ok := fun k => k = g ∨ base ≤ k) h.du (by unfold capMax; omega) (fun v _ => by have := zF_len (Z := Z) (v := v); unfold capMax; omega) (fun v _ z hz => (h.zs z (zF_mem hz)).mono (fun k _ hk => .inr hk.1)) (.inl rfl) (fun k hk _ => .inr hk)
  have h2 : (fun v => (zF Z v).map (·.1)) = dueF (Z.map (·.1)) := by
    funext v
    exact zF_fst
  have h3 : ((List.range N).map fun v => (zF Z v).map (·.1)) = duesF (Z.map (·.1)) N := by
    unfold duesF
    rw [← h2]
  rw [h3] at h1
  exact h1
theorem FinS.sets (h : FinS B eL eR eB base N w g us vin Z vs ins) (hB : B.sz = 1) (hn : vs.length ≤ 1000) : (Ty.slice B).RdP (fun k => k = g ∨ base ≤ k) w [vin] ins :=
  rows_ofP hB (bl_val_rdP h.vi (by unfold capMax; omega) (fun q hq => .inr (h.vi.ge hq))) h.bl (fun i h1 h2 => (h.br i h1 h2).mono (fun k _ hk => .inr hk.1))
end
/-- nothing is there yet -/
theorem FinS.start {B : Ty (List Bool)} {eL eR eB base N g : Nat} {w : World} (h : ∀ eA top, DU eA eR base top w g N (fun _ => .slice none 0 0) (fun _ => [])) : FinS B eL eR eB base N w g (fun _ => .slice none 0 0) (.slice none 0 0) [] [] [] :=
  ⟨by simpa [zF] using h eL w.heap.size, fun z hz => by simp at hz, Bl.nil, rfl, fun i h => by simp at h, fun v _ k hk => by simp [Value.ownBlock] at hk⟩
end Go.Proofs.Ytepebfpgmnidnaa
