/-
Small lemmas of lists of tuples that both searches use. No program is named here.
  A finder's data while they are made: rows of lists that are due, each a row of its own, and a row of sets; what each append keeps. No program is named here.
A region that draws its order: what may come up when two or three may; two boxes that are filled last. No program is named here.
Contracts: a finder, made. (Its first region is printed by gen_nf.py.)
-/
import Derived.Test.YthjafhjghjbdmaaGreatQAC
import Derived.Test.YthjafhjghjbdmaaGreatQAD
import Derived.Test.YthjafhjghjbdmaaGreatQAB
namespace Go.Proofs.YthjafhjghjbdmaaGreat
open Go.RowKit Go.Sort
theorem cellsL_zero {s : Int} {ar : Nat} {r : Int × List (List Int)} {i : Int} : (cellsL s ar r i).take 0 = [] := List.take_zero
theorem fr_blk {α : Type} {E : Ty α} {base : Nat} {w : World} {b o n cap : Nat} {xs : List α} (h : (Ty.slice E).Fr base w [.slice (some ⟨b, o, none⟩) n cap] xs) (h0 : 0 < xs.length) : base ≤ b := by
  obtain ⟨fp, ⟨ad, cap', hv, _, _, h3⟩, _, h4, _⟩ := h
  rcases h3 with ⟨h3, _⟩ | ⟨_, b', o', fps, rfl, _, rfl, _⟩
  · omega
  · simp only [List.cons.injEq, Value.slice.injEq, Option.some.injEq, Addr.mk.injEq, and_true] at hv
    obtain ⟨⟨rfl, rfl⟩, -, -⟩ := hv
    exact h4 _ (List.mem_cons_self ..)
theorem col_at {ts : List (List Int)} {n ar : Nat} {i : Int} {p q dn : Nat} (hn : ts.length = n) (hq : q < (digL (n : Int) i ar).length) (hd : (digL (n : Int) i ar)[q] = (dn : Int)) (hdn : dn < ts.length) (hp : p < (ts[dn]).length) (hq' : q < (colL (picks ts ar i) p).length) : (colL (picks ts ar i) p)[q] = (ts[dn])[p] := by
  subst hn
  simp [colL, picks, hd, hdn, hp]
theorem picks_tups {s : Int} {ar : Nat} {r : Int × List (List Int)} {i : Int} (hr : relOk s r) (h0 : 0 < r.2.length) : tupsOk s (ar : Int) r.1.toNat (picks r.2 ar i) := by
  refine ⟨by rw [picks_len], fun u hu => ?_⟩
  obtain ⟨k, hk, rfl⟩ := List.mem_map.1 hu
  have hk2 := dig_mem (n := (r.2.length : Int)) (by omega) hk
  have hkl : k.toNat < r.2.length := by omega
  rw [List.getD_eq_getElem?_getD, List.getElem?_eq_getElem hkl]
  obtain ⟨h1, h2⟩ := (hr.2.2 k.toNat hkl).1
  have := hr.2.1
  exact ⟨by show (r.2[k.toNat]).length = r.1.toNat; omega, h2⟩
theorem cells_get {s : Int} {ar : Nat} {r : Int × List (List Int)} {i : Int} {p : Nat} (h : p < r.1.toNat) : (cellsL s ar r i).take p ++ [idxL s 0 (colL (picks r.2 ar i) p)] = (cellsL s ar r i).take (p + 1) := by
  have h' : p < (cellsL s ar r i).length := by rw [cells_len]; exact h
  rw [List.take_succ_eq_append_getElem h']
  simp [cellsL]
abbrev ZP := (Int × List Int) × (Int × Value)
def zF (Z : List ZP) (v : Nat) : List ZP := Z.filter fun z => topI z.1.2 == (v : Int)
theorem zF_yes {Z : List ZP} {z : ZP} {v : Nat} (h : topI z.1.2 = (v : Int)) : zF (Z ++ [z]) v = zF Z v ++ [z] := by
  unfold zF
  rw [List.filter_append]
  simp [h]
theorem zF_no {Z : List ZP} {z : ZP} {v : Nat} (h : topI z.1.2 ≠ (v : Int)) : zF (Z ++ [z]) v = zF Z v := by
  unfold zF
  rw [List.filter_append]
  simp [h]
theorem zF_fst {Z : List ZP} {v : Nat} : (zF Z v).map (·.1) = dueF (Z.map (·.1)) v := by
  unfold zF dueF
  rw [List.filter_map]
  rfl
theorem zF_mem {Z : List ZP} {v : Nat} {z : ZP} (h : z ∈ zF Z v) : z ∈ Z := (List.mem_filter.1 h).1
theorem zF_len {Z : List ZP} {v : Nat} : (zF Z v).length ≤ Z.length := List.length_filter_le _ _
/-- blocks of what is finished -/
def okN (base N : Nat) (us : Nat → Value) (vin : Value) (k : Nat) : Prop := base ≤ k ∧ (∀ v, v < N → (us v).ownBlock ≠ some k) ∧ vin.ownBlock ≠ some k
structure FinS (B : Ty (List Bool)) (eL eR eB base N : Nat) (w : World) (g : Nat) (us : Nat → Value) (vin : Value) (Z : List ZP) (vs : List Value) (ins : List (List Bool)) : Prop where
  du : DU eL eR base w.heap.size w g N us (fun v => (zF Z v).map (·.2))
  zs : ∀ z ∈ Z, pvR (okN base N us vin) w z
  vi : Bl Ty.val eB base w.heap.size w vin vs
  bl : vs.length = ins.length
  br : ∀ i (h : i < vs.length) (h' : i < ins.length), B.RdP (okN base N us vin) w [vs[i]] ins[i]
  vu : ∀ v, v < N → ∀ k, (us v).ownBlock = some k → vin.ownBlock ≠ some k
section
variable {B : Ty (List Bool)} {eL eR eB base N g : Nat} {w w' : World} {us : Nat → Value} {vin : Value} {Z : List ZP} {vs : List Value} {ins : List (List Bool)}
theorem FinS.lt (h : FinS B eL eR eB base N w g us vin Z vs ins) : g < w.heap.size := h.du.lt
theorem FinS.below (h : FinS B eL eR eB base N w g us vin Z vs ins) (hB : base ≤ w.heap.size) (hb : Below w.heap.size w w') : FinS B eL eR eB base N w' g us vin Z vs ins :=
  ⟨(h.du.below hb (Nat.le_refl _) hB).mono hb.size, fun z hz => (h.zs z hz).below hb, (h.vi.below hb (Nat.le_refl _)).mono hb.size, h.bl, fun i h1 h2 => (h.br i h1 h2).below hb, h.vu⟩
/-- a cell of an older block -/
theorem FinS.set {b i : Nat} {u : Value} (h : FinS B eL eR eB base N w g us vin Z vs ins) (hb : b < base) (hg : b ≠ g) : FinS B eL eR eB base N (w.setCell ⟨b, i, none⟩ u) g us vin Z vs ins := by
  have ht : TchP (fun k => k = b) w (w.setCell ⟨b, i, none⟩ u) := TchP.set rfl
  have hk : ∀ k, k < w.heap.size → okN base N us vin k → ¬ (k = b) := fun k _ hk e => by have := hk.1; omega
  have hz : (w.setCell ⟨b, i, none⟩ u).heap.size = w.heap.size := by simp [World.setCell]
  have hh : ∀ k, k ≠ b → (w.setCell ⟨b, i, none⟩ u).heap[k]? = w.heap[k]? := fun k hk => Below.heap_setCell _ _ _ _ hk
  refine ⟨?_, fun z hz => (h.zs z hz).tchP ht hk, bl_val_same h.vi (fun q hq => hh q (by have := h.vi.ge hq; omega)) (by rw [hz]; exact Nat.le_refl _), h.bl, fun j h1 h2 => (h.br j h1 h2).tchP ht hk, h.vu⟩
  obtain ⟨d1, d2, d3, d4⟩ := h.du
  refine ⟨owns_same d1 (hh g (Ne.symm hg)), d2, fun v hv => ?_, d4⟩
  exact pv_same (d3 v hv) (fun q hq => hh q (by have := (d3 v hv).ge hq; omega)) (by rw [hz]; exact Nat.le_refl _)
/-- one more set -/
theorem FinS.pushIn {v' x : Value} {L : List Bool} (h : FinS B eL eR eB base N w g us vin Z vs ins) (_ : base ≤ w.heap.size) (hB : Bl Ty.val eB base w'.heap.size w' v' (vs ++ [x])) (hg : w.grownBy w' vin.ownBlock) (hv : v'.ownBlock = vin.ownBlock ∨ v'.ownBlock = some w.heap.size) (hx : B.RdP (okN base N us vin) w [x] L) :
    FinS B eL eR eB base N w' g us v' Z (vs ++ [x]) (ins ++ [L]) := by
  have ht : TchP (fun k => vin.ownBlock = some k) w w' := TchP.grown hg (fun k h => h)
  have hk : ∀ k, k < w.heap.size → okN base N us vin k → ¬ (vin.ownBlock = some k) := fun k _ hk e => hk.2.2 e
  have hm : ∀ k, k < w'.heap.size → k < w.heap.size → okN base N us vin k → okN base N us v' k := fun k _ hl hk => ⟨hk.1, hk.2.1, fun e => by
    rcases hv with hv | hv
    · rw [hv] at e; exact hk.2.2 e
    · rw [hv] at e; simp at e; omega⟩
  have key : ∀ {α : Type} {E : Ty α} {cs : List Value} {y : α}, E.RdP (okN base N us vin) w cs y → E.RdP (okN base N us v') w' cs y := fun {α} {E} {cs} {y} hy => by
    obtain ⟨fp, h1, h2⟩ := hy
    have hlt := E.lt h1
    exact ⟨fp, E.same h1 (fun k hk' => ht.block k (hlt k hk') (hk k (hlt k hk') (h2 k hk'))), fun k hk' => hm k (Nat.lt_of_lt_of_le (hlt k hk') ht.size) (hlt k hk') (h2 k hk')⟩
  obtain ⟨d1, d2, d3, d4⟩ := h.du
  refine ⟨⟨owns_same d1 (hg.block g h.lt (fun e => by have := h.vi.ge e.symm; omega)), d2, fun v hv' => ?_, d4⟩, fun z hz => ⟨(h.zs z hz).1, (h.zs z hz).2.1, key (h.zs z hz).2.2⟩, hB, by simp [h.bl], fun i h1 h2 => ?_, fun v hv' k hk' e => ?_⟩
  · exact pv_same (d3 v hv') (fun q hq => hg.block q ((d3 v hv').lt_top hq) (fun e => h.vu v hv' q hq e.symm)) hg.size
  · rcases Nat.lt_or_ge i vs.length with hi | hi
    · rw [List.getElem_append_left hi, List.getElem_append_left (by rw [← h.bl]; exact hi)]
      exact key (h.br i hi (by rw [← h.bl]; exact hi))
    · obtain rfl : i = vs.length := by simp at h1; omega
      have e1 : (vs ++ [x])[vs.length]'h1 = x := by simp
      have e2 : (ins ++ [L])[vs.length]'h2 = L := by simp [h.bl]
      rw [e1, e2]
      exact key hx
  · rcases hv with hv | hv
    · rw [hv] at e; exact h.vu v hv' k hk' e
    · rw [hv] at e
      simp at e
      have := (d3 v hv').lt_top hk'
      omega
/-- one more list that is due -/
theorem FinS.pushDue {l : Nat} {v1 : Value} {z : ZP} (h : FinS B eL eR eB base N w g us vin Z vs ins) (_ : base ≤ w.heap.size) (hl : l < N) (ht : topI z.1.2 = (l : Int)) (hB : Bl pvT eL base w'.heap.size w' v1 ((zF Z l).map (·.2) ++ [z.2])) (hg : w.grownBy w' (us l).ownBlock) (hv : v1.ownBlock = (us l).ownBlock ∨ v1.ownBlock = some w.heap.size) (hz : pvR (okN base N us vin) w z) :
    FinS B eL eR eB base N (w'.setCell ⟨g, l, none⟩ v1) g (fun v => if v = l then v1 else us v) vin (Z ++ [z]) vs ins := by
  have hd := DU.push h.du hl hB hg hv (Nat.le_refl _)
  have hzz : (w'.setCell ⟨g, l, none⟩ v1).heap.size = w'.heap.size := by simp [World.setCell]
  have hgb' : g < base := h.du.2.1
  have hs : ∀ k, k < w.heap.size → (us l).ownBlock ≠ some k → k ≠ g → (w'.setCell ⟨g, l, none⟩ v1).heap[k]? = w.heap[k]? := fun k hk hne hkg => (Below.heap_setCell _ _ _ _ (by simpa using hkg)).trans (hg.block k hk (fun e => hne e.symm))
  have hm : ∀ k, k < w.heap.size → okN base N us vin k → okN base N (fun v => if v = l then v1 else us v) vin k := fun k hk' hk => ⟨hk.1, fun v hv' => by
    by_cases e : v = l
    · simp only [if_pos e]
      rcases hv with hv | hv
      · rw [hv]; exact hk.2.1 l hl
      · rw [hv]; intro e'; simp at e'; omega
    · simp only [if_neg e]; exact hk.2.1 v hv', hk.2.2⟩
  have key : ∀ {α : Type} {E : Ty α} {cs : List Value} {y : α}, E.RdP (okN base N us vin) w cs y → E.RdP (okN base N (fun v => if v = l then v1 else us v) vin) (w'.setCell ⟨g, l, none⟩ v1) cs y := fun {α} {E} {cs} {y} hy => by
    obtain ⟨fp, h1, h2⟩ := hy
    have hlt := E.lt h1
    exact ⟨fp, E.same h1 (fun k hk' => hs k (hlt k hk') ((h2 k hk').2.1 l hl) (by have := (h2 k hk').1; omega)), fun k hk' => hm k (hlt k hk') (h2 k hk')⟩
  refine ⟨?_, fun y hy => ?_, bl_val_same h.vi (fun q hq => hs q (h.vi.lt_top hq) (fun e => h.vu l hl q e hq) (by have := h.vi.ge hq; omega)) (by rw [hzz]; exact hg.size), h.bl, fun i h1 h2 => key (h.br i h1 h2), fun v hv' k hk' e => ?_⟩
  · rw [hzz]
    have e : (fun v => if v = l then (zF Z l).map (·.2) ++ [z.2] else (zF Z v).map (·.2)) = fun v => (zF (Z ++ [z]) v).map (·.2) := by
      funext v
      by_cases e : v = l
      · subst e
        rw [if_pos rfl, zF_yes ht, List.map_append]
        rfl
      · rw [if_neg e, zF_no (by rw [ht]; intro h; exact e (by omega))]
    rw [e] at hd
    exact hd
  · rcases List.mem_append.1 hy with hy | hy
    · exact ⟨(h.zs y hy).1, (h.zs y hy).2.1, key (h.zs y hy).2.2⟩
    · rw [List.mem_singleton.1 hy]
      exact ⟨hz.1, hz.2.1, key hz.2.2⟩
  · by_cases e' : v = l
    · simp only [if_pos e'] at hk'
      rcases hv with hv | hv
      · rw [hv] at hk'; exact h.vu l hl k hk' e
      · rw [hv] at hk'
        simp at hk'
        have := h.vi.lt_top e
        omega
    · simp only [if_neg e'] at hk'
      exact h.vu v hv' k hk' e
/-- what they read as in the end -/
theorem FinS.dues (h : FinS B eL eR eB base N w g us vin Z vs ins) (hN : N ≤ 1000) (hZ : Z.length ≤ 1000000) : duesT.RdP (fun k => k = g ∨ base ≤ k) w [.slice (some ⟨g, 0, none⟩) N N] (duesF (Z.map (·.1)) N) := by
  have h1 := dues_of (ok := fun k => k = g ∨ base ≤ k) h.du (by unfold capMax; omega) (fun v _ => by have := zF_len (Z := Z) (v := v); unfold capMax; omega) (fun v _ z hz => (h.zs z (zF_mem hz)).mono (fun k _ hk => .inr hk.1)) (.inl rfl) (fun k hk _ => .inr hk)
  have h2 : (fun v => (zF Z v).map (·.1)) = dueF (Z.map (·.1)) := by
    funext v
    exact zF_fst
  have h3 : ((List.range N).map fun v => (zF Z v).map (·.1)) = duesF (Z.map (·.1)) N := by
    unfold duesF
    rw [← h2]
  rw [h3] at h1
  exact h1
theorem FinS.sets (h : FinS B eL eR eB base N w g us vin Z vs ins) (hB : B.sz = 1) (hn : vs.length ≤ 1000) : (Ty.slice B).RdP (fun k => k = g ∨ base ≤ k) w [vin] ins :=
  rows_ofP hB (bl_val_rdP h.vi (by unfold capMax; omega) (fun q hq => .inr (h.vi.ge hq))) h.bl (fun i h1 h2 => (h.br i h1 h2).mono (fun k _ hk => .inr hk.1))
end
/-- nothing is there yet -/
theorem FinS.start {B : Ty (List Bool)} {eL eR eB base N g : Nat} {w : World} (h : ∀ eA top, DU eA eR base top w g N (fun _ => .slice none 0 0) (fun _ => [])) : FinS B eL eR eB base N w g (fun _ => .slice none 0 0) (.slice none 0 0) [] [] [] :=
  ⟨by simpa [zF] using h eL w.heap.size, fun z hz => by simp at hz, Bl.nil, rfl, fun i h => by simp at h, fun v _ k hk => by simp [Value.ownBlock] at hk⟩
end Go.Proofs.YthjafhjghjbdmaaGreat
namespace Go.Proofs.YthjafhjghjbdmaaGreat
open Go.RowKit
section
variable {P : Program} {ops : Array Oper} {Q : Exit → Act → World → Prop} {md : Region.Mode} {S : World → Prop} {tail : List Nat}
/-- number i comes up -/
def stepT (P : Program) (md : Region.Mode) (ops : Array Oper) (Q : Exit → Act → World → Prop) (S : World → Prop) (tail : List Nat) (fuel : Nat) (listed : Array Bool) (a : Act) (w : World) (i : Nat) (o : Oper) : Prop :=
  ∀ K' : Act → World → Prop, Shut (∀ a w, S w → (S w → wpAnyT P md ops Q S tail fuel (listed.setIfInBounds i true) a w) → K' a w) → if Region.wanted o (yielded ops a.tmps) = true then Oper.wp P o a w K' Q else K' (a.put o.dst undef) w
theorem wpAnyT_two {i j : Nat} {oi oj : Oper} {fuel : Nat} {listed : Array Bool} {a : Act} {w : World} (hi : ops[i]? = some oi) (hj : ops[j]? = some oj) (hr : Region.ready md ops listed = [i, j])
    (h1 : stepT P md ops Q S tail fuel listed a w i oi) (h2 : stepT P md ops Q S tail fuel listed a w j oj) : wpAnyT P md ops Q S tail (fuel + 1) listed a w := by
  refine ⟨fun h0 => (by rw [h0] at hr; cases hr), fun k hk => ?_⟩
  rw [hr] at hk
  have hk' : k = i ∨ k = j := by simpa using hk
  rcases hk' with rfl | rfl
  · exact wpOp_step hi (fun K' hK => h1 K' (fun a w hS hW => hK a w ⟨fun _ => hS, hW hS⟩))
  · exact wpOp_step hj (fun K' hK => h2 K' (fun a w hS hW => hK a w ⟨fun _ => hS, hW hS⟩))
theorem wpAnyT_three {i j k : Nat} {oi oj ok : Oper} {fuel : Nat} {listed : Array Bool} {a : Act} {w : World} (hi : ops[i]? = some oi) (hj : ops[j]? = some oj) (hk : ops[k]? = some ok) (hr : Region.ready md ops listed = [i, j, k])
    (h1 : stepT P md ops Q S tail fuel listed a w i oi) (h2 : stepT P md ops Q S tail fuel listed a w j oj) (h3 : stepT P md ops Q S tail fuel listed a w k ok) : wpAnyT P md ops Q S tail (fuel + 1) listed a w := by
  refine ⟨fun h0 => (by rw [h0] at hr; cases hr), fun q hq => ?_⟩
  rw [hr] at hq
  have hq' : q = i ∨ q = j ∨ q = k := by simpa using hq
  rcases hq' with rfl | rfl | rfl
  · exact wpOp_step hi (fun K' hK => h1 K' (fun a w hS hW => hK a w ⟨fun _ => hS, hW hS⟩))
  · exact wpOp_step hj (fun K' hK => h2 K' (fun a w hS hW => hK a w ⟨fun _ => hS, hW hS⟩))
  · exact wpOp_step hk (fun K' hK => h3 K' (fun a w hS hW => hK a w ⟨fun _ => hS, hW hS⟩))
end
end Go.Proofs.YthjafhjghjbdmaaGreat
namespace Go.Proofs.YthjafhjghjbdmaaGreat
open Go.RowKit Go.Sort
def mkV (w0 : World) (e N : Nat) : VP := fun v w => ∃ g, v = .slice (some ⟨g, 0, none⟩) N N ∧ w0.heap.size ≤ g ∧ w.ownsRow g e 1 (.slice (some ⟨g, 0, none⟩) N N) N ((List.range N).map fun _ => Value.slice none 0 0)
theorem st_mkV {w0 : World} {e N : Nat} : Stab (mkV w0 e N) := fun _ _ _ ⟨g, h1, h2, h3⟩ hb => ⟨g, h1, h2, owns_same h3 (hb.block g (h3.lt g rfl).2)⟩
theorem mkV_du {w0 w : World} {e N : Nat} {v : Value} (h : mkV w0 e N v w) : ∃ g, v = .slice (some ⟨g, 0, none⟩) N N ∧ w0.heap.size ≤ g ∧ g < w.heap.size ∧ (∀ eA base top, g < base → DU eA e base top w g N (fun _ => .slice none 0 0) (fun _ => [])) ∧ ∃ cur, w.heap[g]? = some (.cells cur e (0, 0)) := by
  obtain ⟨g, h1, h2, h3⟩ := h
  refine ⟨g, h1, h2, (h3.lt g rfl).2, fun eA base top hb => ⟨h3, hb, fun v _ => Bl.nil, fun v _ b hb => by simp [Value.ownBlock] at hb⟩, ?_⟩
  rcases h3.2 with ⟨h', _⟩ | ⟨g', cap, cur, hg', _, hh, _⟩
  · simp at h'
  · simp only [Value.slice.injEq, Option.some.injEq, Addr.mk.injEq, and_true, true_and] at hg'
    obtain ⟨rfl, rfl⟩ := hg'
    exact ⟨cur, hh⟩
theorem loose_mkN {P : Program} {w0 w' : World} {o : Oper} {ev : Operand → Value} (l c : Operand) (t e : TypeId) {bytes : Nat} (hop : o.op = Op.makeSlice t l c) (ht : P.underlying t = some (.slice e)) (hinfo : (P.info? e).map (fun i => (i.zero, i.size, i.bytes)) = some (some (.slice none 0 0), 1, bytes)) (n : Nat)
    (hl : ev l = .int .i64 (n : Int)) (hc : ev c = .int .i64 (n : Int)) (hn : n ≤ 1000000000) (hby : bytes ≤ 100000) (hw : w0.heap.size ≤ w'.heap.size) : looseUpon P w' (mkV w0 e n) ((execOp ev o).run P w') := by
  obtain ⟨i, hi, hz, hsz, hbt'⟩ := info_parts hinfo
  have hlen' : bytes * n ≤ 281474976710656 := Nat.le_trans (Nat.mul_le_mul hby hn) (by decide)
  have hb48 : (i.bytes : Int) * (n : Int) ≤ 281474976710656 := by
    have h : ((bytes * n : Nat) : Int) ≤ 281474976710656 := by omega
    rw [hbt']
    rwa [Int.natCast_mul] at h
  have hr := run_make (P := P) w' t e i (.slice none 0 0) ht hi hz .i64 .i64 (n : Int) (n : Int) (by omega) (Int.le_refl _) hb48 (by omega)
  simp only [Int.toNat_natCast] at hr
  simp only [execOp, hop, hl, hc, hr, Result.andThen_ok, Sem.run_bind, Sem.run_pure]
  have hown := World.ownsRow_lit (base := w'.heap.size) (e := e) (size := 1) w' (madeCells (Value.slice none 0 0).cells (n * i.size)) n (Nat.le_refl _) (by unfold maxLen; omega) (by rw [size_madeCells, hsz])
  have e1 : (madeCells (Value.slice none 0 0).cells (n * i.size)).toList = (List.range n).map (fun _ => Value.slice none 0 0) := by
    rw [hsz, Nat.mul_one]
    have hc0 : (Value.slice none 0 0).cells = #[.slice none 0 0] := by simp [Value.cells]
    rw [hc0, toList_madeCells_one, List.map_const', List.length_range]
  rw [e1] at hown
  exact ⟨(Below.refl _ w').alloc (Nat.le_refl _) _, _, rfl, hw, hown⟩
def oneV : VP := fun v w => ∃ b, v = .slice (some ⟨b, 0, none⟩) 1 1 ∧ b < w.heap.size ∧ w.cell? ⟨b, 0, none⟩ = some (.int .i64 (-1))
theorem st_oneV : Stab oneV := fun _ _ _ ⟨b, h1, h2, h3⟩ hb => ⟨b, h1, Nat.lt_of_lt_of_le h2 hb.size, (cellB hb h2).trans h3⟩
def repV (w0 : World) (N : Nat) : VP := fun v w => ∃ g, v = .slice (some ⟨g, 0, none⟩) N N ∧ w0.heap.size ≤ g ∧ w.heap[g]? = some (.cells (mone N N).toArray 2 (0, 0))
theorem st_repV {w0 : World} {N : Nat} : Stab (repV w0 N) := fun _ _ _ ⟨g, h1, h2, h3⟩ hb => ⟨g, h1, h2, (hb.block g (lt_of_block h3)).trans h3⟩
def bdV (w0 : World) (s : Int) (v1 : Value) (ar : Int) (N : Nat) : VP := fun v w => ∃ gd gt, v = .agg #[.int .i64 s, v1, .int .i64 ar, .slice (some ⟨gd, 0, none⟩) N N, .slice none 0 0, .slice (some ⟨gt, 0, none⟩) N N, .int .i64 0, .slice none 0 0] ∧
  mkV w0 168 N (.slice (some ⟨gd, 0, none⟩) N N) w ∧ repV w0 N (.slice (some ⟨gt, 0, none⟩) N N) w
theorem st_bdV {w0 : World} {s ar : Int} {v1 : Value} {N : Nat} : Stab (bdV w0 s v1 ar N) := fun _ _ _ ⟨gd, gt, h1, h2, h3⟩ hb => ⟨gd, gt, h1, st_mkV _ _ _ h2 hb, st_repV _ _ _ h3 hb⟩
def bxV (w0 : World) (s : Int) (v1 : Value) (ar : Int) (N : Nat) : VP := fun v w => ∃ bs gd gt, v = .pointer (some ⟨bs, 0, none⟩) ∧ w0.heap.size ≤ bs ∧ w.heap[bs]? = some (.cells #[.int .i64 s, v1, .int .i64 ar, .slice (some ⟨gd, 0, none⟩) N N, .slice none 0 0, .slice (some ⟨gt, 0, none⟩) N N, .int .i64 0, .slice none 0 0] 163 (0, 0)) ∧
  mkV w0 168 N (.slice (some ⟨gd, 0, none⟩) N N) w ∧ repV w0 N (.slice (some ⟨gt, 0, none⟩) N N) w
theorem st_bxV {w0 : World} {s ar : Int} {v1 : Value} {N : Nat} : Stab (bxV w0 s v1 ar N) := fun _ _ _ ⟨bs, gd, gt, h1, h0, hh, h2, h3⟩ hb => ⟨bs, gd, gt, h1, h0, (hb.block bs (lt_of_block hh)).trans hh, st_mkV _ _ _ h2 hb, st_repV _ _ _ h3 hb⟩
theorem infoLookS : (Tryz.prog.info? 168).map (fun i => (i.zero, i.size, i.bytes)) = some (some (.slice none 0 0), 1, 24) := by kernel_rfl
theorem elLook : ElT Tryz.prog 168 166 2 32 := ElT.mk (z := .agg #[.int .i64 0, .slice none 0 0]) Tryz.underlying168 (by kernel_rfl) (by kernel_rfl) (by decide)
theorem elBoolS : ElT Tryz.prog 161 164 1 24 := ElT.mk (z := .slice none 0 0) Tryz.underlying161 (by kernel_rfl) (by kernel_rfl) (by decide)
/-- a finder's box -/
def BxF (w : World) (bs : Nat) (s ar : Int) (gd gt N : Nat) (vin : Value) : Prop :=
  bs < w.heap.size ∧ w.cell? ⟨bs, 0, none⟩ = some (.int .i64 s) ∧ w.cell? ⟨bs, 2, none⟩ = some (.int .i64 ar) ∧ w.cell? ⟨bs, 3, none⟩ = some (.slice (some ⟨gd, 0, none⟩) N N) ∧ w.cell? ⟨bs, 4, none⟩ = some vin ∧ w.cell? ⟨bs, 5, none⟩ = some (.slice (some ⟨gt, 0, none⟩) N N) ∧
    w.cell? ⟨bs, 6, none⟩ = some (.int .i64 0) ∧ w.cell? ⟨bs, 7, none⟩ = some (.slice none 0 0) ∧ w.frozen? ⟨bs, 4, none⟩ = false ∧ w.frozen? ⟨bs, 6, none⟩ = false ∧ w.frozen? ⟨bs, 7, none⟩ = false
theorem BxF.same {w w' : World} {bs : Nat} {s ar : Int} {gd gt N : Nat} {vin : Value} (h : BxF w bs s ar gd gt N vin) (hs : w'.heap[bs]? = w.heap[bs]?) (hz : w.heap.size ≤ w'.heap.size) : BxF w' bs s ar gd gt N vin := by
  obtain ⟨h0, c0, c2, c3, c4, c5, c6, c7, f4, f6, f7⟩ := h
  have c : ∀ i, w'.cell? ⟨bs, i, none⟩ = w.cell? ⟨bs, i, none⟩ := fun i => World.cell?_of_block (a := ⟨bs, i, none⟩) hs
  have f : ∀ i, w'.frozen? ⟨bs, i, none⟩ = w.frozen? ⟨bs, i, none⟩ := fun i => World.frozen?_of_block (a := ⟨bs, i, none⟩) hs
  exact ⟨Nat.lt_of_lt_of_le h0 hz, (c 0).trans c0, (c 2).trans c2, (c 3).trans c3, (c 4).trans c4, (c 5).trans c5, (c 6).trans c6, (c 7).trans c7, (f 4).trans f4, (f 6).trans f6, (f 7).trans f7⟩
theorem BxF.set {w : World} {bs : Nat} {s ar : Int} {gd gt N : Nat} {vin v' : Value} (h : BxF w bs s ar gd gt N vin) : BxF (w.setCell ⟨bs, 4, none⟩ v') bs s ar gd gt N v' := by
  obtain ⟨h0, c0, c2, c3, c4, c5, c6, c7, f4, f6, f7⟩ := h
  have c : ∀ i, i ≠ 4 → (w.setCell ⟨bs, 4, none⟩ v').cell? ⟨bs, i, none⟩ = w.cell? ⟨bs, i, none⟩ := fun _ hi => World.cell?_setCell_other _ _ _ _ (fun e => hi (congrArg Addr.off e.symm))
  have f : ∀ i, (w.setCell ⟨bs, 4, none⟩ v').frozen? ⟨bs, i, none⟩ = w.frozen? ⟨bs, i, none⟩ := fun i => World.frozen?_setCell _ _ _ _
  exact ⟨by simpa [World.setCell] using h0, (c 0 (by decide)).trans c0, (c 2 (by decide)).trans c2, (c 3 (by decide)).trans c3, World.cell?_setCell_same _ _ _ c4, (c 5 (by decide)).trans c5, (c 6 (by decide)).trans c6, (c 7 (by decide)).trans c7, (f 4).trans f4, (f 6).trans f6, (f 7).trans f7⟩
/-- what a new finder is -/
def NfR (w : World) (t : Tpl) (ar : Int) (N : Nat) (e : Ending) (w' : World) : Prop :=
  ∃ bs gd gt vin, e = .returned (.pointer (some ⟨bs, 0, none⟩)) ∧ w.heap.size ≤ bs ∧ w.heap.size ≤ gt ∧ gt ≠ bs ∧ BxF w' bs t.1 ar gd gt N vin ∧ w'.heap[gt]? = some (.cells (mone N N).toArray 2 (0, 0)) ∧
    duesT.RdP (fun k => w.heap.size ≤ k ∧ k ≠ bs ∧ k ≠ gt) w' [.slice (some ⟨gd, 0, none⟩) N N] (duesF (looksA t ar.toNat) N) ∧ (Ty.slice boolsT).RdP (fun k => w.heap.size ≤ k ∧ k ≠ bs ∧ k ≠ gt) w' [vin] (insF t) ∧ Below w.heap.size w w'
/-- what the making of a finder keeps -/
def NfI (base : Nat) (W : World) (t : Tpl) (ar : Int) (N bs gd gt : Nat) (L : List (Int × List Int)) (I : List (List Bool)) (us : Nat → Value) (vin : Value) (Z : List ZP) (vs : List Value) (wr : World) : Prop :=
  FinS boolsT 166 168 164 base N wr gd us vin Z vs I ∧ Z.map (·.1) = L ∧ BxF wr bs t.1 ar gd gt N vin ∧ wr.heap[gt]? = some (.cells (mone N N).toArray 2 (0, 0)) ∧ Below W.heap.size W wr ∧ base ≤ wr.heap.size
theorem NfI.below {base : Nat} {W wr wx : World} {t : Tpl} {ar : Int} {N bs gd gt : Nat} {L : List (Int × List Int)} {I : List (List Bool)} {us : Nat → Value} {vin : Value} {Z : List ZP} {vs : List Value} (h : NfI base W t ar N bs gd gt L I us vin Z vs wr) (hb : Below wr.heap.size wr wx) : NfI base W t ar N bs gd gt L I us vin Z vs wx := by
  obtain ⟨h1, h2, h3, h4, h5, h6⟩ := h
  have := hb.size
  exact ⟨h1.below h6 hb, h2, h3.same (hb.block bs h3.1) hb.size, (hb.block gt (lt_of_block h4)).trans h4, bthen h5 hb, by omega⟩
theorem ins_take {t : Tpl} {k : Nat} (h : k < t.2.length) : (insF t).take k ++ [seenL t.1 (t.1 ^ (t.2[k]).1.toNat).toNat (t.2[k]).2] = (insF t).take (k + 1) := by
  have h' : k < (insF t).length := by rw [insF_len]; exact h
  rw [List.take_succ_eq_append_getElem h', insF_get h h']
set_option maxHeartbeats 12800000 in
set_option maxRecDepth 100000 in
theorem newFinder_any (w : World) {ct : Array Value} {t : Tpl} (ht : tplT.Rd w ct.toList t) (hT : tplOk t) {ar : Int} (har : 1 ≤ ar ∧ ar ≤ 3) (hlim : limF t ar.toNat = false) {N : Nat} (hN : t.1 ^ ar.toNat = (N : Int)) :
    Calls Tryz.prog 50 #[.agg ct, .int .i64 ar] w (NfR w t ar N) := by
  obtain ⟨v1, hct, -, hrls⟩ := pair_ex ht
  obtain ⟨ra, rc, hv1, -, -, hrce⟩ := pairs_ex hrls
  replace hv1 : v1 = .slice ra t.2.length rc := by simpa using hv1
  have HV1 := Lib.hid hv1
  have HRC := Lib.hid hrce
  obtain rfl := agg_of hct
  have HTR := Lib.hid ht
  have HT := Lib.hid hT
  have hs := hT.1
  unfold sizeOk at hs
  have htn : tabN N := tabN_of hs (ar := ar.toNat) (by omega) hN
  have hNb := tabN_bd htn
  have HTN := Lib.hid htn
  have HNN := Lib.hid hN
  have HLM := Lib.hid hlim
  have hrl := hT.2.1
  clear ht hct hT htn hN hlim hrls hv1 hrce
  go_enter Tryz.func50, Tryz.ntmps50
  go_wp2_with fail
  generalize hW : World.alloc _ _ = W
  have hbW : Below w.heap.size w W := hW ▸ bA
  have hsW : w.heap.size + 1 ≤ W.heap.size := by rw [← hW]; simp
  have t0 : W.cell? ⟨w.heap.size, 0, none⟩ = some (.int .i64 t.1) := by rw [← hW]; simp
  have t1 : W.cell? ⟨w.heap.size, 1, none⟩ = some v1 := by rw [← hW]; simp
  have hzW : w.heap.size < W.heap.size := by omega
  clear hW
  refine wp_region_loose [exV (.agg #[.int .i64 t.1, v1]), exV (.int .i64 ar), exV (.pointer (some ⟨w.heap.size, 0, none⟩)), exV (.int .i64 t.1), exV (.int .i64 ar), exV (.int .i64 (N : Int)), mkV W 168 N, oneV, exV (.pointer (some ⟨w.heap.size, 0, none⟩)), exV (.int .i64 t.1), exV (.int .i64 ar), exV (.int .i64 (N : Int)), repV W N, bdV W t.1 v1 ar N, bxV W t.1 v1 ar N, bxV W t.1 v1 ar N] (by kernel_rfl) (by kernel_rfl) ⟨st_exV, st_exV, st_exV, st_exV, st_exV, st_exV, st_mkV, st_oneV, st_exV, st_exV, st_exV, st_exV, st_repV, st_bdV, st_bxV, st_bxV, trivial⟩ ⟨?j1_0, ?j1_1, ?j1_2, ?j1_3, ?j1_4, ?j1_5, ?j1_6, ?j1_7, ?j1_8, ?j1_9, ?j1_10, ?j1_11, ?j1_12, ?j1_13, ?j1_14, ?j1_15, trivial⟩ ?hQ1
  case j1_0 =>
    intro a' w' hb hd
    have e2 : a'.tmps[2]?.getD undef = .pointer (some ⟨w.heap.size, 0, none⟩) := ev (slot_o hd 2 rfl rfl)
    have q : ∀ b o, b < W.heap.size → w'.cell? ⟨b, o, none⟩ = W.cell? ⟨b, o, none⟩ := (bcell hb).1
    go_simp
    exact ⟨Below.refl _ _, rfl⟩
  case j1_1 =>
    intro a' w' hb hd
    have e1 : a'.tmps[1]?.getD undef = .int .i64 ar := ev (slot_o hd 1 rfl rfl)
    go_simp
    exact ⟨Below.refl _ _, rfl⟩
  case j1_2 =>
    intro a' w' hb hd
    have e2 : a'.tmps[2]?.getD undef = .pointer (some ⟨w.heap.size, 0, none⟩) := ev (slot_o hd 2 rfl rfl)
    go_simp
    exact ⟨Below.refl _ _, rfl⟩
  case j1_3 =>
    intro a' w' hb hd
    have e22 : a'.tmps[22]?.getD undef = .pointer (some ⟨w.heap.size, 0, none⟩) := ev (slot_w hd 22 (exV (.pointer (some ⟨w.heap.size, 0, none⟩))) rfl rfl)
    have q : ∀ b o, b < W.heap.size → w'.cell? ⟨b, o, none⟩ = W.cell? ⟨b, o, none⟩ := (bcell hb).1
    go_simp
    exact ⟨Below.refl _ _, rfl⟩
  case j1_4 =>
    intro a' w' hb hd
    have e1 : a'.tmps[1]?.getD undef = .int .i64 ar := ev (slot_o hd 1 rfl rfl)
    go_simp
    exact ⟨Below.refl _ _, rfl⟩
  case j1_5 =>
    intro a' w' hb hd
    have e23 : a'.tmps[23]?.getD undef = .int .i64 t.1 := ev (slot_w hd 23 (exV (.int .i64 t.1)) rfl rfl)
    have e24 : a'.tmps[24]?.getD undef = .int .i64 ar := ev (slot_w hd 24 (exV (.int .i64 ar)) rfl rfl)
    go_simp
    exact ⟨Below.refl _ _, (power_any w' t.1 ar (by omega) (by omega) (by omega)).mono fun e w'' ⟨he, hw⟩ => ⟨_, he, by rw [← hw]; exact Below.refl _ _, congrArg (Value.int .i64) HNN.out⟩⟩
  case j1_6 =>
    intro a' w' hb hd
    have e25 : a'.tmps[25]?.getD undef = .int .i64 (N : Int) := ev (slot_w hd 25 (exV (.int .i64 (N : Int))) rfl rfl)
    exact loose_mkN (.tmp 25) (.tmp 25) 159 168 rfl Tryz.underlying159 infoLookS N (by simpa [Act.eval] using e25) (by simpa [Act.eval] using e25) (by omega) (by decide) hb.size
  case j1_7 =>
    intro a' w' hb hd
    go_simp
    exact ⟨bA, _, rfl, by simp, by simp [go_sem]⟩
  case j1_8 =>
    intro a' w' hb hd
    have e2 : a'.tmps[2]?.getD undef = .pointer (some ⟨w.heap.size, 0, none⟩) := ev (slot_o hd 2 rfl rfl)
    go_simp
    exact ⟨Below.refl _ _, rfl⟩
  case j1_9 =>
    intro a' w' hb hd
    have e28 : a'.tmps[28]?.getD undef = .pointer (some ⟨w.heap.size, 0, none⟩) := ev (slot_w hd 28 (exV (.pointer (some ⟨w.heap.size, 0, none⟩))) rfl rfl)
    have q : ∀ b o, b < W.heap.size → w'.cell? ⟨b, o, none⟩ = W.cell? ⟨b, o, none⟩ := (bcell hb).1
    go_simp
    exact ⟨Below.refl _ _, rfl⟩
  case j1_10 =>
    intro a' w' hb hd
    have e1 : a'.tmps[1]?.getD undef = .int .i64 ar := ev (slot_o hd 1 rfl rfl)
    go_simp
    exact ⟨Below.refl _ _, rfl⟩
  case j1_11 =>
    intro a' w' hb hd
    have e29 : a'.tmps[29]?.getD undef = .int .i64 t.1 := ev (slot_w hd 29 (exV (.int .i64 t.1)) rfl rfl)
    have e30 : a'.tmps[30]?.getD undef = .int .i64 ar := ev (slot_w hd 30 (exV (.int .i64 ar)) rfl rfl)
    go_simp
    exact ⟨Below.refl _ _, (power_any w' t.1 ar (by omega) (by omega) (by omega)).mono fun e w'' ⟨he, hw⟩ => ⟨_, he, by rw [← hw]; exact Below.refl _ _, congrArg (Value.int .i64) HNN.out⟩⟩
  case j1_12 =>
    intro a' w' hb hd
    have d27 := slot_w hd 27 (oneV) rfl rfl
    have e31 : a'.tmps[31]?.getD undef = .int .i64 (N : Int) := ev (slot_w hd 31 (exV (.int .i64 (N : Int))) rfl rfl)
    obtain ⟨rb, hrb, hrl, hrc⟩ := d27
    have e27 : a'.tmps[27]?.getD undef = .slice (some ⟨rb, 0, none⟩) 1 1 := ev hrb
    go_simp
    exact ⟨Below.refl _ _, (Repeat_any w' hrl hrc HTN.out).mono fun e w'' ⟨g, he, h1, h2, h3⟩ => ⟨_, he, h3, g, rfl, Nat.le_trans hb.size h1, h2⟩⟩
  case j1_13 =>
    intro a' w' hb hd
    have e20 : a'.tmps[20]?.getD undef = .agg #[.int .i64 t.1, v1] := ev (slot_w hd 20 (exV (.agg #[.int .i64 t.1, v1])) rfl rfl)
    have e21 : a'.tmps[21]?.getD undef = .int .i64 ar := ev (slot_w hd 21 (exV (.int .i64 ar)) rfl rfl)
    have d26 := slot_w hd 26 (mkV W 168 N) rfl rfl
    have d32 := slot_w hd 32 (repV W N) rfl rfl
    obtain ⟨gd, hgd, hgl, hgo⟩ := d26
    have e26 : a'.tmps[26]?.getD undef = .slice (some ⟨gd, 0, none⟩) N N := ev hgd
    obtain ⟨gt, hgt, htl, hth⟩ := d32
    have e32 : a'.tmps[32]?.getD undef = .slice (some ⟨gt, 0, none⟩) N N := ev hgt
    go_simp
    exact ⟨Below.refl _ _, gd, gt, rfl, ⟨_, rfl, hgl, hgo⟩, ⟨_, rfl, htl, hth⟩⟩
  case j1_14 =>
    intro a' w' hb hd
    have d33 := slot_w hd 33 (bdV W t.1 v1 ar N) rfl rfl
    obtain ⟨gd, gt, h33, hgd, hgt⟩ := d33
    have e33 : a'.tmps[33]?.getD undef = .agg #[.int .i64 t.1, v1, .int .i64 ar, .slice (some ⟨gd, 0, none⟩) N N, .slice none 0 0, .slice (some ⟨gt, 0, none⟩) N N, .int .i64 0, .slice none 0 0] := ev h33
    go_simp
    exact ⟨bA, _, gd, gt, rfl, hb.size, heap_alloc_new w' _, st_mkV _ _ _ hgd bA, st_repV _ _ _ hgt bA⟩
  case j1_15 =>
    intro a' w' hb hd
    have d34 := slot_w hd 34 (bxV W t.1 v1 ar N) rfl rfl
    obtain ⟨bs, gd, gt, h34, h35⟩ := d34
    have e34 : a'.tmps[34]?.getD undef = .pointer (some ⟨bs, 0, none⟩) := ev h34
    go_simp
    exact ⟨Below.refl _ _, bs, gd, gt, rfl, h35⟩
  intro vs1 w1 hb1 H0
  obtain ⟨z1_0, _, rfl, p0, H1⟩ := HAll_cons H0
  obtain ⟨z1_1, _, rfl, p1, H2⟩ := HAll_cons H1
  obtain ⟨z1_2, _, rfl, p2, H3⟩ := HAll_cons H2
  obtain ⟨z1_3, _, rfl, p3, H4⟩ := HAll_cons H3
  obtain ⟨z1_4, _, rfl, p4, H5⟩ := HAll_cons H4
  obtain ⟨z1_5, _, rfl, p5, H6⟩ := HAll_cons H5
  obtain ⟨z1_6, _, rfl, p6, H7⟩ := HAll_cons H6
  obtain ⟨z1_7, _, rfl, p7, H8⟩ := HAll_cons H7
  obtain ⟨z1_8, _, rfl, p8, H9⟩ := HAll_cons H8
  obtain ⟨z1_9, _, rfl, p9, H10⟩ := HAll_cons H9
  obtain ⟨z1_10, _, rfl, p10, H11⟩ := HAll_cons H10
  obtain ⟨z1_11, _, rfl, p11, H12⟩ := HAll_cons H11
  obtain ⟨z1_12, _, rfl, p12, H13⟩ := HAll_cons H12
  obtain ⟨z1_13, _, rfl, p13, H14⟩ := HAll_cons H13
  obtain ⟨z1_14, _, rfl, p14, H15⟩ := HAll_cons H14
  obtain ⟨z1_15, _, rfl, p15, H16⟩ := HAll_cons H15
  obtain rfl := HAll_nil H16
  obtain rfl := p0 rfl
  obtain rfl := p1 rfl
  obtain rfl := p2 rfl
  obtain rfl := p3 rfl
  obtain rfl := p4 rfl
  obtain rfl := p5 rfl
  obtain rfl := p8 rfl
  obtain rfl := p9 rfl
  obtain rfl := p10 rfl
  obtain rfl := p11 rfl
  have hbx := p15 rfl
  have hmk := p6 rfl
  have hon := p7 rfl
  have hrp := p12 rfl
  have hbd := p13 rfl
  have hbo := p14 rfl
  obtain ⟨_, rfl, -⟩ := hmk
  obtain ⟨_, rfl, -⟩ := hon
  obtain ⟨_, rfl, -⟩ := hrp
  obtain ⟨_, _, rfl, -⟩ := hbd
  obtain ⟨_, _, _, rfl, -⟩ := hbo
  clear p0 p1 p2 p3 p4 p5 p6 p7 p8 p9 p10 p11 p12 p13 p14 p15 H0 H1 H2 H3 H4 H5 H6 H7 H8 H9 H10 H11 H12 H13 H14 H15 H16
  obtain ⟨bs, gd, gt, rfl, hbsl, hbsh, hgdv, hgtv⟩ := hbx
  simp only [putAll, Act.put]
  go_simp
  obtain ⟨_, hgd0, hgdl, hgdlt, hDU, cur, hcur⟩ := mkV_du hgdv
  obtain rfl : gd = _ := by simpa using hgd0
  obtain ⟨_, hgt0, hgtl, hgth⟩ := hgtv
  obtain rfl : gt = _ := by simpa using hgt0
  have hne1 : bs ≠ gd := fun e => by rw [e, hcur] at hbsh; simp at hbsh
  have hne2 : gt ≠ bs := fun e => by rw [e, hbsh] at hgth; simp at hgth
  have hne3 : gt ≠ gd := fun e => by rw [e, hcur] at hgth; simp at hgth
  have hbslt := lt_of_block hbsh
  have hgtlt := lt_of_block hgth
  have HI0 : Hid (NfI w1.heap.size W t ar N bs gd gt (looksT t ar.toNat 0) ((insF t).take 0) (fun _ => .slice none 0 0) (.slice none 0 0) [] [] w1) :=
    ⟨FinS.start (fun eA top => hDU eA _ top hgdlt), rfl, ⟨hbslt, by simp [World.cell?, hbsh], by simp [World.cell?, hbsh], by simp [World.cell?, hbsh], by simp [World.cell?, hbsh], by simp [World.cell?, hbsh], by simp [World.cell?, hbsh], by simp [World.cell?, hbsh], by simp [World.frozen?, hbsh], by simp [World.frozen?, hbsh], by simp [World.frozen?, hbsh]⟩, hgth, hb1, Nat.le_refl _⟩
  obtain rfl := HV1.out
  have HT0 := t0
  have HT1 := t1
  clear hgd0 hDU hcur hgt0 hgth hbsh hgdv
  replace t0 := (cellB hb1 (by omega)).trans t0
  replace t1 := (cellB hb1 (by omega)).trans t1
  go_wp2_with fail
  clear t0 t1
  go_loopw [38] (fun i wr => ∃ (k : Nat) (us : Nat → Value) (vin : Value) (Z : List ZP) (vs : List Value), k ≤ t.2.length ∧ i = .int .i64 k ∧ NfI w1.heap.size W t ar N bs gd gt (looksT t ar.toNat k) ((insF t).take k) us vin Z vs wr) (fun i _ => t.2.length - (intOf i).toNat)
  case atStart => exact ⟨0, _, _, [], [], Nat.zero_le _, rfl, HI0.out⟩
  case round =>
    obtain ⟨k, us, vin, Z, vs, hk, rfl, hNI⟩ := hrel
    have HNI := Lib.hid hNI
    have hbe := hNI.2.2.2.2.1
    have hz6 := hNI.2.2.2.2.2
    clear hNI HI0
    by_cases hkl : k < t.2.length
    · have hr := HT.out.2.2 _ (List.getElem_mem hkl)
      have hm := hr.2.1
      unfold sizeOk at hm
      have hrl2 := (rel_len_le hr).1
      have hrl3 := (rel_len_le hr).2
      obtain ⟨Nr, hNr⟩ : ∃ Nr : Nat, t.1 ^ (t.2[k]).1.toNat = (Nr : Int) := ⟨(t.1 ^ (t.2[k]).1.toNat).toNat, by omega⟩
      have hNr256 : Nr ≤ 256 ∧ (t.2[k]).2.length ≤ 256 := by omega
      obtain ⟨b, o, rfl, hb, hce⟩ := HRC.out (by omega)
      obtain ⟨ur, hur, -, g0, g1⟩ := hce k hkl
      obtain ⟨ua, uc, hue, -, -, huc⟩ := slices_ex hur
      obtain rfl : ur = _ := by simpa using hue
      have HUC := Lib.hid huc
      have HR := Lib.hid hr
      have HNr := Lib.hid hNr
      have HIT : Hid ((insF t).take k ++ [seenL t.1 Nr (t.2[k]).2] = (insF t).take (k + 1)) := by have h := ins_take hkl; rw [hNr, Int.toNat_natCast] at h; exact h
      have hbwr : Below w.heap.size w wr := bthen hbW hbe
      have d0 := (hbwr.cell hb).trans g0
      have d1 := (hbwr.cell hb).trans g1
      have t0 := (hbe.cell (p := ⟨w.heap.size, 0, none⟩) hzW).trans HT0
      have hzr := hbwr.size
      have hlt : w.heap.size < wr.heap.size := by have := hbe.size; omega
      obtain ⟨wv, rfl⟩ : ∃ wv : World, wv = wr := ⟨_, rfl⟩
      clear hce g0 g1 hur hue huc hr hrl2 hrl3 hNr
      go_wp2_with fail
      generalize hWa : World.alloc wv _ = wa
      have hba : Below wv.heap.size wv wa := hWa ▸ bA
      have hsa : wv.heap.size + 1 ≤ wa.heap.size := by rw [← hWa]; simp
      have r0 : wa.cell? ⟨wv.heap.size, 0, none⟩ = some (.int .i64 (t.2[k]).1) := by rw [← hWa]; simp [go_sem]
      have r1 : wa.cell? ⟨wv.heap.size, 1, none⟩ = some (.slice ua (t.2[k]).2.length uc) := by rw [← hWa]; simp [go_sem]
      have HN1 := Lib.hid (HNI.out.below hba)
      replace t0 := (cellB hba (by omega)).trans t0
      have hbwa := bthen hbwr hba
      clear hWa d0 d1
      refine (power_any _ t.1 (t.2[k]).1 (by omega) (by omega) (by omega)).mono ?_
      rintro e _ ⟨rfl, rfl⟩
      rw [HNr.out]
      go_wp2_with (refine wpList_mkB _ rfl _ _ 164 4 rfl Tryz.underlying164 infoBool w1.heap.size Nr rfl rfl (by omega) (by decide) (by omega) ?_; intro wb hA hgb hsb; have hbb := below_of_grown hgb; have r0 := (cellB hbb (by omega)).trans r0; have r1 := (cellB hbb (by omega)).trans r1; have t0 := (cellB hbb (by omega)).trans t0)
      have hzb := hbb.size
      have HA := Lib.hid hA
      have HN2 := Lib.hid (HN1.out.below hbb)
      have hbwb := bthen hbwa hbb
      clear hA hgb
      go_loopw [52] (fun i wi => ∃ j : Nat, j ≤ (t.2[k]).2.length ∧ i = .int .i64 j ∧ BR 4 w1.heap.size wi wa.heap.size Nr Nr (seenL t.1 Nr ((t.2[k]).2.take j)) ∧ Below wa.heap.size wb wi) (fun i _ => (t.2[k]).2.length - (intOf i).toNat)
      case atStart => exact ⟨0, Nat.zero_le _, rfl, by rw [List.take_zero, seenL_nil]; exact HA.out, Below.refl _ _⟩
      case round =>
        obtain ⟨j, hj, rfl, hBR, hbel⟩ := hrel
        have HB := Lib.hid hBR
        clear hBR HA
        have hzi := hbel.size
        replace r0 := (cellB hbel (by omega)).trans r0
        replace r1 := (cellB hbel (by omega)).trans r1
        replace t0 := (cellB hbel (by omega)).trans t0
        have hbai := hbb.trans hbel
        have hbwi := bthen hbwa hbai
        by_cases hjl : j < (t.2[k]).2.length
        · obtain ⟨a, q, rfl, haa, hce⟩ := HUC.out (by omega)
          obtain ⟨u, hu, hcu⟩ := hce j hjl
          obtain ⟨ua2, un2, uc2, rfl⟩ := rd_sl hu
          have d2 := (hbwi.cell haa).trans hcu
          obtain ⟨x1, x2⟩ := (HR.out.2.2 j hjl).1
          have htl : ((t.2[k]).2[j]).length = (t.2[k]).1.toNat := by omega
          obtain ⟨i0, i1⟩ := idx_lt (s := t.1) (by omega) htl x2
          rw [HNr.out] at i1
          obtain ⟨l, hl⟩ : ∃ l : Nat, idxL t.1 0 (t.2[k]).2[j] = l := ⟨(idxL t.1 0 (t.2[k]).2[j]).toNat, by omega⟩
          have hlN : l < Nr := by omega
          have e0 := HB.out.cell (j := l) (by rw [seenL_len]; exact hlN)
          have e1 := HB.out.free l
          have HST := Lib.hid (seenL_set hjl hl hlN)
          have HBS := Lib.hid (HB.out.set l true)
          have HU := Lib.hid (hu.below hbwi)
          have HX2 := Lib.hid x2
          have HJ := Lib.hid hl
          have hlen5 : ((t.2[k]).2[j]).length ≤ 5 := by omega
          clear hce hu hcu x1 x2 htl hl i0 i1
          go_wp2_with fail
          refine (indexOf_any _ t.1 HU.out (by omega) (by omega) hlen5 HX2.out).mono ?_
          rintro e _ ⟨rfl, rfl⟩
          rw [HJ.out]
          go_wp2_with fail
          go_roundw
          case rel => exact ⟨j + 1, by omega, by go_num, by rw [← HST.out]; exact HBS.out, hbel.setCell (Nat.le_refl _) _⟩
          case measure => simp [intOf]; omega
        · obtain rfl : j = (t.2[k]).2.length := by omega
          have HNi := Lib.hid (HN1.out.below hbai)
          obtain ⟨FS, FZ, FB, FG, FW, FZ6⟩ := HN1.out.below hbai
          obtain ⟨va4, vn4, vc4, rfl⟩ := ex_slice (FS.vi.fr (by rw [FS.bl, List.length_take, insF_len]; unfold capMax; omega))
          obtain ⟨hbsi, -, -, -, b4, -, -, -, f4, -, -⟩ := id FB
          have HFS := Lib.hid FS
          have HFB := Lib.hid FB
          have HFG := Lib.hid FG
          have HVI := Lib.hid FS.vi
          have hvsl : vs.length ≤ 6 := by rw [FS.bl, List.length_take, insF_len]; omega
          have hown4 : Hid ((Value.slice va4 vn4 vc4).ownBlock ≠ some bs) := fun e => by have := HVI.out.ge e; omega
          have hgtw : gt < wr.heap.size := lt_of_block FG
          have HX : Hid (boolsT.RdP (okN w1.heap.size N us (.slice va4 vn4 vc4)) wr [.slice (some ⟨wa.heap.size, 0, none⟩) Nr Nr] (seenL t.1 Nr (t.2[k]).2)) := by
            have h1 := HB.out
            rw [List.take_length] at h1
            refine h1.rdP (by unfold capMax; omega) ⟨by omega, fun v hv e => ?_, fun e => ?_⟩
            · have := (HN1.out.1.du.2.2.1 v hv).lt_top e
              omega
            · have := HN1.out.1.vi.lt_top e
              omega
          clear FS FZ FB FG
          obtain ⟨wj, rfl⟩ : ∃ wj : World, wj = wr := ⟨_, rfl⟩
          go_upto_region 12 with (at_builtin; go_loud (refine wpList_push (E := Ty.val) _ rfl _ _ 161 164 rfl elBoolS rfl (HVI.out.below bA (Nat.le_refl _)) rfl news1 (fr_val rfl) (by omega) (by decide) (by omega) (by first | (simp; done) | (simp; omega)) ?_; intro v5 w5 hB5 hg5 hown; obtain ⟨a5, n5, c5, rfl⟩ := ex_slice (hB5.fr (by rw [List.length_append]; unfold capMax; simp only [List.length_singleton]; omega)); have i4 := (grown_cell' (i := 4) hg5 (show bs < _ by first | (simp; done) | (simp; omega)) hown4.out).trans ((cellB (bA (w := wj)) hbsi).trans b4); have j4 := (World.frozen?_of_block (a := ⟨bs, 4, none⟩) (hg5.block bs (by first | (simp; done) | (simp; omega)) (fun e => hown4.out e.symm))).trans ((frozenB (bA (w := wj)) hbsi).trans f4)))
          have hbj : ∀ ob : Obj, Below wj.heap.size wj (wj.alloc ob) := fun _ => bA
          have hg6 : (wj.alloc (.cells #[.slice (some ⟨wa.heap.size, 0, none⟩) Nr Nr] 164)).grownBy w5 (Value.slice va4 vn4 vc4).ownBlock := hg5
          have hown6 : (Value.slice a5 n5 c5).ownBlock = (Value.slice va4 vn4 vc4).ownBlock ∨ (Value.slice a5 n5 c5).ownBlock = some (wj.alloc (.cells #[.slice (some ⟨wa.heap.size, 0, none⟩) Nr Nr] 164)).heap.size := hown
          have HX5 := Lib.hid (HX.out.below (hbj (.cells #[.slice (some ⟨wa.heap.size, 0, none⟩) Nr Nr] 164)))
          have HF6 := Lib.hid (((HFS.out.below (by omega) (hbj (.cells #[.slice (some ⟨wa.heap.size, 0, none⟩) Nr Nr] 164))).pushIn (by simp; omega) hB5 hg6 hown6 HX5.out).set (i := 4) (u := .slice a5 n5 c5) (show bs < w1.heap.size by omega) hne1)
          have ht5 : TchP (fun q => (Value.slice va4 vn4 vc4).ownBlock = some q) wj w5 := (TchP.of_below (hbj _) _).then (TchP.grown hg6 (fun q h => h)) (fun q _ h => h)
          have ht6 : TchP (fun q => q = bs ∨ (Value.slice va4 vn4 vc4).ownBlock = some q) wj (w5.setCell ⟨bs, 4, none⟩ (.slice a5 n5 c5)) := (ht5.mono (fun q _ h => .inr h)).then (TchP.set (O := fun q => q = bs) rfl) (fun q _ h => .inl h)
          have hgt4 : (Value.slice va4 vn4 vc4).ownBlock ≠ some gt := fun e => by have := HVI.out.ge e; omega
          have HB6 := Lib.hid ((HFB.out.same (ht5.block bs hbsi hown4.out) ht5.size).set (v' := .slice a5 n5 c5))
          have HG6 := Lib.hid ((ht6.block gt hgtw (fun h => by
            rcases h with h | h
            · exact hne2 h
            · exact hgt4 h)).trans HFG.out)
          have hb6 : Below W.heap.size wj (w5.setCell ⟨bs, 4, none⟩ (.slice a5 n5 c5)) := ht6.below (by have := FW.size; omega) (fun q hq h => by
            rcases h with h | h
            · omega
            · have := HVI.out.ge h; omega)
          have hlrb : wv.heap.size < wj.heap.size := by omega
          have q0 := (ht6.cell (i := 0) hlrb (fun h => by
            rcases h with h | h
            · omega
            · have := HNI.out.1.vi.lt_top h; omega)).trans r0
          have q1 := (ht6.cell (i := 1) hlrb (fun h => by
            rcases h with h | h
            · omega
            · have := HNI.out.1.vi.lt_top h; omega)).trans r1
          have HOKR : Hid (okN w1.heap.size N us (.slice a5 n5 c5) wv.heap.size) := ⟨hz6, fun v hv e => by have := (HNI.out.1.du.2.2.1 v hv).lt_top e; omega, fun e => by
            rcases hown6 with h | h
            · rw [h] at e; have := HNI.out.1.vi.lt_top e; omega
            · rw [h] at e; simp at e; omega⟩
          have hz7 := ht6.size
          have HN6 : Hid (NfI w1.heap.size W t ar N bs gd gt (looksT t ar.toNat k) ((insF t).take (k + 1)) us (.slice a5 n5 c5) Z (vs ++ [.slice (some ⟨wa.heap.size, 0, none⟩) Nr Nr]) (w5.setCell ⟨bs, 4, none⟩ (.slice a5 n5 c5))) := by
            refine ⟨?_, HNi.out.2.1, HB6.out, HG6.out, FW.trans (hb6.mono (Nat.le_refl _)), by omega⟩
            rw [← HIT.out]
            exact HF6.out
          have z0 := (cellB hb6 (show w.heap.size < W.heap.size by omega)).trans t0
          clear hB5 hg5 hown hg6 hown6 HF6 ht5 ht6 hgt4 HB6 HG6 i4 j4 b4 f4 HX HX5 HFS HFB HFG HVI hown4 r0 r1 t0 HNi HN1 HN2 HB
          generalize w5.setCell ⟨bs, 4, none⟩ (.slice a5 n5 c5) = w6 at *
          generalize vs ++ [.slice (some ⟨wa.heap.size, 0, none⟩) Nr Nr] = vs6 at *
          generalize Value.slice a5 n5 c5 = vin6 at *
          obtain ⟨n, hn⟩ : ∃ n, (t.2[k]).2.length = n := ⟨_, rfl⟩
          obtain ⟨M, hM⟩ : ∃ M, powN n ar.toNat = M := ⟨_, rfl⟩
          have HMC : Hid ((n : Int) ^ ar.toNat = (M : Int)) := by unfold Hid; rw [← hM, powN_cast]
          have hZM : (looksT t ar.toNat k).length + M ≤ 4000 := by have := looksT_le' HLM.out hkl; rw [hn, hM] at this; exact this
          have hn256 : n ≤ 256 := by omega
          have HNC := Lib.hid hn
          have HMN := Lib.hid hM
          have hm4 : 1 ≤ (t.2[k]).1 ∧ (t.2[k]).1 ≤ 4 := hm
          rw [hn] at q1
          clear hn hM
          go_wp2_with fail
          refine (power_any _ (n : Int) ar (by omega) (by omega) (by omega)).mono ?_
          rintro e _ ⟨rfl, rfl⟩
          rw [HMC.out]
          go_wp2_with fail
          have hrb6 : wv.heap.size < w6.heap.size := by omega
          clear z0
          go_loopw [79] (fun i wi => ∃ (c : Nat) (us' : Nat → Value) (Z' : List ZP), c ≤ M ∧ i = .int .i64 c ∧ NfI w1.heap.size W t ar N bs gd gt (looksT t ar.toNat k ++ looksR t.1 ar.toNat k t.2[k] c) ((insF t).take (k + 1)) us' vin6 Z' vs6 wi ∧ okN w1.heap.size N us' vin6 wv.heap.size ∧ wi.cell? ⟨wv.heap.size, 0, none⟩ = some (.int .i64 (t.2[k]).1) ∧ wi.cell? ⟨wv.heap.size, 1, none⟩ = some (.slice ua n uc) ∧ wv.heap.size < wi.heap.size) (fun i _ => M - (intOf i).toNat)
          case atStart => exact ⟨0, us, Z, Nat.zero_le _, rfl, by rw [looksR_zero, List.append_nil]; exact HN6.out, HOKR.out, q0, q1, hrb6⟩
          case round =>
            obtain ⟨c, us', Z', hc, rfl, hNI, hokr, q0, q1, hrbw⟩ := hrel
            have HNC3 := Lib.hid hNI
            have HOK3 := Lib.hid hokr
            have hbW3 := hNI.2.2.2.2.1
            have hz3 := hNI.2.2.2.2.2
            have hbw3 : Below w.heap.size w wr := bthen hbW hbW3
            have z0 := (cellB hbW3 hzW).trans HT0
            have hzw3 := hbW3.size
            have hz0l : w.heap.size < wr.heap.size := by omega
            clear hNI hokr HN6 HOKR
            by_cases hcl : c < M
            · have hn1 : 1 ≤ n := by
                rcases Nat.eq_zero_or_pos n with h | h
                · have h2 := HMN.out
                  unfold powN at h2
                  rw [h, Nat.zero_pow (by omega)] at h2
                  omega
                · exact h
              obtain ⟨wi, rfl⟩ : ∃ wi : World, wi = wr := ⟨_, rfl⟩
              have hcl' : (c : Int) < (M : Int) := by omega
              go_wp2_with fail
              generalize hWo : World.alloc wi _ = wo
              have hbo : Below wi.heap.size wi wo := hWo ▸ bA
              have hso : wi.heap.size + 1 ≤ wo.heap.size := by rw [← hWo]; simp
              have o0 : wo.cell? ⟨wi.heap.size, 0, none⟩ = some (.int .i64 (k : Int)) := by rw [← hWo]; simp [go_sem]
              have o1 : wo.cell? ⟨wi.heap.size, 1, none⟩ = some (.slice none 0 0) := by rw [← hWo]; simp [go_sem]
              have om : wo.frozen? ⟨wi.heap.size, 1, none⟩ = false := by rw [← hWo]; simp [go_sem]
              have r0p := q0
              have r1p := q1
              have z0p := z0
              replace q0 := (cellB hbo (by omega)).trans q0
              replace q1 := (cellB hbo (by omega)).trans q1
              replace z0 := (cellB hbo (by omega)).trans z0
              clear hWo
              have hlist := listOf_any wo (n : Int) (c : Int) ar.toNat (by omega) (by omega) (by omega) (by omega) (by omega)
              rw [show ((ar.toNat : Nat) : Int) = ar by omega] at hlist
              refine hlist.mono ?_
              rintro e wl ⟨ul, rfl, hfl, hbl⟩
              obtain ⟨la, lc, rfl⟩ := fr_slice hfl
              obtain ⟨_, _, hle, -, -, hlc⟩ := ints_ex hfl.rd
              simp only [List.cons.injEq, Value.slice.injEq, and_true, true_and] at hle
              obtain ⟨rfl, rfl⟩ := hle
              have HLC := Lib.hid hlc
              have hzl := hbl.size
              replace q0 := (cellB hbl (by omega)).trans q0
              replace q1 := (cellB hbl (by omega)).trans q1
              replace z0 := (cellB hbl (by omega)).trans z0
              replace o0 := (cellB hbl (by omega)).trans o0
              replace o1 := (cellB hbl (by omega)).trans o1
              replace om := (frozenB hbl (by omega)).trans om
              have hbil := bthen hbo hbl
              have HDL := Lib.hid (digL_len (s := (n : Int)) (idx := (c : Int)) (n := ar.toNat))
              have hdl5 : (digL (n : Int) (c : Int) ar.toNat).length ≤ 3 := by rw [digL_len]; omega
              have hlb := fun o b (e : la = some ⟨b, o, none⟩) => fr_blk (b := b) (o := o) (e ▸ hfl) (by rw [digL_len]; omega)
              have HLB := Lib.hid hlb
              obtain ⟨a8, o8, rfl, haa, hce⟩ := HUC.out (by have := HNC.out; omega)
              have HCE := Lib.hid hce
              have HTU := Lib.hid (picks_tups (ar := ar.toNat) (i := (c : Int)) HR.out (by have := HNC.out; omega))
              clear hfl hlc hlist hlb hce
              go_wp2_with fail
              have p0' := r0p
              have p1' := r1p
              have pz' := z0p
              clear q0 q1 z0
              go_loopw [90] (fun i wp => ∃ (p : Nat) (vc : Value), p ≤ (t.2[k]).1.toNat ∧ i = .int .i64 p ∧ Bl Ty.int 2 wl.heap.size wp.heap.size wp vc ((cellsL t.1 ar.toNat t.2[k] c).take p) ∧ wp.cell? ⟨wi.heap.size, 0, none⟩ = some (.int .i64 (k : Int)) ∧ wp.cell? ⟨wi.heap.size, 1, none⟩ = some vc ∧ wp.frozen? ⟨wi.heap.size, 1, none⟩ = false ∧ TchP (fun q => q = wi.heap.size) wl wp) (fun i _ => (t.2[k]).1.toNat - (intOf i).toNat)
              case atStart => exact ⟨0, _, Nat.zero_le _, rfl, by rw [cellsL_zero]; exact Bl.nil, o0, o1, om, TchP.refl _ _⟩
              case round =>
                obtain ⟨p, vc, hp, rfl, hBl, o0, o1, om, htp⟩ := hrel
                have HBL := Lib.hid hBl
                have HTP := Lib.hid htp
                have hzp := htp.size
                have hbip : Below wi.heap.size wi wr := hbil.trans (htp.below (B := wi.heap.size) (by omega) (fun q hq e => by omega))
                clear hBl htp
                have hobl : wi.heap.size < wr.heap.size := by omega
                have hrbl : wv.heap.size < wi.heap.size := hrbw
                have q0 := (cellB hbip hrbl).trans (show wi.cell? ⟨wv.heap.size, 0, none⟩ = _ from p0')
                have q1 := (cellB hbip hrbl).trans (show wi.cell? ⟨wv.heap.size, 1, none⟩ = _ from p1')
                have z0 := (cellB hbip (show w.heap.size < wi.heap.size by omega)).trans pz'
                have hbwp := bthen hbw3 hbip
                obtain ⟨wp, rfl⟩ : ∃ wp : World, wp = wr := ⟨_, rfl⟩
                by_cases hpl : p < (t.2[k]).1.toNat
                · have hpI : (p : Int) < (t.2[k]).1 := by omega
                  have hPL : Hid (digL (n : Int) (c : Int) ar.toNat = digL (n : Int) (c : Int) ar.toNat) := rfl
                  go_wp2_with fail
                  go_loopw [95, 16] (fun i v wq => ∃ q : Nat, q ≤ (digL (n : Int) (c : Int) ar.toNat).length ∧ i = .int .i64 q ∧ v = .int .i64 (idxL t.1 0 ((colL (picks (t.2[k]).2 ar.toNat (c : Int)) p).take q)) ∧ Quiet wp wq) (fun i _ _ => (digL (n : Int) (c : Int) ar.toNat).length - (intOf i).toNat)
                  case atStart => exact ⟨0, Nat.zero_le _, rfl, by simp [idxL], Quiet.refl _⟩
                  case round =>
                    obtain ⟨q, hq, rfl, rfl, hqi⟩ := hrel
                    have hbq := hqi.below
                    have hzq := hbq.size
                    replace q0 := (cellB hbq (by omega)).trans q0
                    replace q1 := (cellB hbq (by omega)).trans q1
                    replace z0 := (cellB hbq (by omega)).trans z0
                    replace o0 := (cellB hbq (by omega)).trans o0
                    replace o1 := (cellB hbq (by omega)).trans o1
                    replace om := (frozenB hbq (by omega)).trans om
                    have hbwq := bthen hbwp hbq
                    by_cases hql : q < (digL (n : Int) (c : Int) ar.toNat).length
                    · obtain ⟨b7, o7, rfl, hb7, hc7⟩ := HLC.out (by omega)
                      have e7 := (hc7 q hql).2
                      have hb7o := HLB.out _ _ rfl
                      obtain ⟨dn, hdn⟩ : ∃ dn : Nat, (digL (n : Int) (c : Int) ar.toNat)[q] = (dn : Int) := ⟨((digL (n : Int) (c : Int) ar.toNat)[q]).toNat, by have := dig_mem (n := (n : Int)) (by omega) (List.getElem_mem hql); omega⟩
                      have hdn2 := dig_mem (n := (n : Int)) (by omega) (List.getElem_mem hql)
                      rw [hdn] at e7 hdn2
                      have hdnn : dn < n := by omega
                      have hdnl : dn < (t.2[k]).2.length := by have := HNC.out; omega
                      obtain ⟨ud, hud, hcd⟩ := HCE.out dn hdnl
                      have hdr := (HR.out.2.2 dn hdnl).1
                      have hpd : p < ((t.2[k]).2[dn]).length := by have := hdr.1; omega
                      obtain ⟨da, dc, hde, -, -, hdc⟩ := ints_ex hud
                      obtain rfl : ud = _ := by simpa using hde
                      obtain ⟨b9, o9, rfl, hb9, hc9⟩ := hdc (by omega)
                      have e9 := (hc9 p hpd).2
                      have f7 := (cellB hbq (show b7 < wp.heap.size by omega)).trans ((HTP.out.cell hb7 (show ¬ (b7 = wi.heap.size) by omega)).trans e7)
                      have f8 := (cellB hbwq haa).trans hcd
                      have f9 := (cellB hbwq hb9).trans e9
                      have hqc : q < (colL (picks (t.2[k]).2 ar.toNat (c : Int)) p).length := by rw [colL_len, picks_len]; rw [HDL.out] at hql; exact hql
                      have HAI := Lib.hid (colL_in HTU.out hpl)
                      have b0 := idx_bd (s := t.1) (by omega) HAI.out q (by omega)
                      have b1 := idx_bd (s := t.1) (by omega) HAI.out (q + 1) (by omega)
                      have p0 := pow_le (s := t.1) (by omega) (by omega) (k := q + 1) (by omega)
                      have ha := HAI.out _ (List.getElem_mem hqc)
                      have hr := idxL_take (s := t.1) hqc
                      rw [col_at HNC.out hql hdn hdnl hpd hqc] at ha hr
                      have HQ : -1000000000000000000 ≤ idxL t.1 0 ((colL (picks (t.2[k]).2 ar.toNat (c : Int)) p).take q) * t.1 ∧ idxL t.1 0 ((colL (picks (t.2[k]).2 ar.toNat (c : Int)) p).take q) * t.1 ≤ 1000000000000000000 := by
                        have hq := Int.mul_nonneg b0.1 (show (0 : Int) ≤ t.1 by omega)
                        rw [hr] at b1
                        generalize t.1 ^ (q + 1) = P at *
                        generalize idxL t.1 0 ((colL (picks (t.2[k]).2 ar.toNat (c : Int)) p).take q) * t.1 = Q at *
                        omega
                      have hw1 : IntKind.i64.wrap (idxL t.1 0 ((colL (picks (t.2[k]).2 ar.toNat (c : Int)) p).take q) * t.1) = idxL t.1 0 ((colL (picks (t.2[k]).2 ar.toNat (c : Int)) p).take q) * t.1 := wrap_small HQ.1 HQ.2
                      have hw2 : IntKind.i64.wrap (idxL t.1 0 ((colL (picks (t.2[k]).2 ar.toNat (c : Int)) p).take q) * t.1 + ((t.2[k]).2[dn])[p]) = idxL t.1 0 ((colL (picks (t.2[k]).2 ar.toNat (c : Int)) p).take q) * t.1 + ((t.2[k]).2[dn])[p] := wrap_small (by omega) (by omega)
                      have HRR := Lib.hid hr
                      clear b0 b1 p0 ha hr HQ hdn hc7 hcd hdr hdc hc9 hud hde
                      go_wp2_with fail
                      go_quiet (fail)
                      go_wp2_with fail
                      clear hw1 hw2
                      go_roundw
                      case rel => exact ⟨q + 1, by omega, by go_num, by rw [HRR.out], hqi.then (Quiet.drewN _ _)⟩
                      case measure => simp [intOf]; omega
                    · obtain rfl : q = (digL (n : Int) (c : Int) ar.toNat).length := by omega
                      have hcl2 : (digL (n : Int) (c : Int) ar.toNat).length = (colL (picks (t.2[k]).2 ar.toNat (c : Int)) p).length := by rw [colL_len, picks_len, HDL.out]
                      rw [show (colL (picks (t.2[k]).2 ar.toNat (c : Int)) p).take (digL (n : Int) (c : Int) ar.toNat).length = colL (picks (t.2[k]).2 ar.toNat (c : Int)) p by rw [hcl2, List.take_length]]
                      have hix := idx_lt (s := t.1) (by omega) (xs := colL (picks (t.2[k]).2 ar.toNat (c : Int)) p) (m := ar.toNat) (by rw [colL_len, picks_len]) (colL_in HTU.out hpl)
                      rw [HNN.out] at hix
                      have hI : I64 (idxL t.1 0 (colL (picks (t.2[k]).2 ar.toNat (c : Int)) p)) := I64.small (by omega) (by omega)
                      have HCG := Lib.hid (cells_get (s := t.1) (ar := ar.toNat) (r := t.2[k]) (i := (c : Int)) hpl)
                      have HBLq := Lib.hid ((HBL.out.below hbq (Nat.le_refl _)).mono hbq.size)
                      obtain ⟨va5, vn5, vc5, rfl⟩ := ex_slice (HBLq.out.fr (by rw [List.length_take, cells_len]; unfold capMax; omega))
                      have hlv : ((cellsL t.1 ar.toNat t.2[k] (c : Int)).take p).length ≤ 4 := by rw [List.length_take, cells_len]; omega
                      have HVO : Hid ((Value.slice va5 vn5 vc5).ownBlock ≠ some wi.heap.size) := fun e => by have := HBLq.out.ge e; omega
                      have hobq : wi.heap.size < wr.heap.size := by omega
                      clear hcl2 hix
                      obtain ⟨wq, rfl⟩ : ∃ wq : World, wq = wr := ⟨_, rfl⟩
                      go_upto_region 28 with (at_builtin; go_loud (refine wpList_push (E := Ty.int) _ rfl _ _ 26 2 rfl elInt rfl (HBLq.out.below bA (Nat.le_refl _)) rfl news1 (fr_int hI) (by omega) (by decide) (by omega) (by first | (simp; done) | (simp; omega)) ?_; intro v5 w5 hB5 hg5 hown; obtain ⟨a5, n5, c5, rfl⟩ := ex_slice (hB5.fr (by rw [List.length_append]; unfold capMax; simp only [List.length_singleton]; omega)); have i1 := (grown_cell' (i := 1) hg5 (show wi.heap.size < _ by first | (simp; done) | (simp; omega)) HVO.out).trans ((cellB (bA (w := wq)) hobq).trans o1); have j1 := (World.frozen?_of_block (a := ⟨wi.heap.size, 1, none⟩) (hg5.block wi.heap.size (by first | (simp; done) | (simp; omega)) (fun e => HVO.out e.symm))).trans ((frozenB (bA (w := wq)) hobq).trans om); have i0 := (grown_cell' (i := 0) hg5 (show wi.heap.size < _ by first | (simp; done) | (simp; omega)) HVO.out).trans ((cellB (bA (w := wq)) hobq).trans o0)))
                      have hbj : ∀ ob : Obj, Below wq.heap.size wq (wq.alloc ob) := fun _ => bA
                      have hg6 : (wq.alloc (.cells #[.int .i64 (idxL t.1 0 (colL (picks (t.2[k]).2 ar.toNat (c : Int)) p))] 2)).grownBy w5 (Value.slice va5 vn5 vc5).ownBlock := hg5
                      have hown6 : (Value.slice a5 n5 c5).ownBlock = (Value.slice va5 vn5 vc5).ownBlock ∨ (Value.slice a5 n5 c5).ownBlock = some (wq.alloc (.cells #[.int .i64 (idxL t.1 0 (colL (picks (t.2[k]).2 ar.toNat (c : Int)) p))] 2)).heap.size := hown
                      have hV5 : (Value.slice a5 n5 c5).ownBlock ≠ some wi.heap.size := fun e => by
                        rcases hown6 with h | h
                        · rw [h] at e; exact HVO.out e
                        · rw [h] at e; simp at e; omega
                      rw [HCG.out] at hB5
                      have ht5 : TchP (fun q => (Value.slice va5 vn5 vc5).ownBlock = some q) wq w5 := (TchP.of_below (hbj _) _).then (TchP.grown hg6 (fun q h => h)) (fun q _ h => h)
                      have ht6 : TchP (fun q => q = wi.heap.size) wl (w5.setCell ⟨wi.heap.size, 1, none⟩ (.slice a5 n5 c5)) := ((HTP.out.then (TchP.of_below hbq (fun _ => False)) (fun q _ h => h.elim)).then ht5 (fun q hq h => by have := HBLq.out.ge h; omega)).then (TchP.set (O := fun q => q = wi.heap.size) rfl) (fun q _ h => h)
                      have HB6 := Lib.hid (bl_int_same (w' := w5.setCell ⟨wi.heap.size, 1, none⟩ (.slice a5 n5 c5)) (top' := (w5.setCell ⟨wi.heap.size, 1, none⟩ (.slice a5 n5 c5)).heap.size) hB5 (fun b hb => Below.heap_setCell _ _ _ _ (fun e => hV5 (by rw [hb]; simp at e; rw [e]))) (by simp [World.setCell]))
                      have k0 : (w5.setCell ⟨wi.heap.size, 1, none⟩ (.slice a5 n5 c5)).cell? ⟨wi.heap.size, 0, none⟩ = some (.int .i64 (k : Int)) := (World.cell?_setCell_other _ _ _ _ (by simp)).trans i0
                      have k1 : (w5.setCell ⟨wi.heap.size, 1, none⟩ (.slice a5 n5 c5)).cell? ⟨wi.heap.size, 1, none⟩ = some (.slice a5 n5 c5) := World.cell?_setCell_same _ _ _ i1
                      have km : (w5.setCell ⟨wi.heap.size, 1, none⟩ (.slice a5 n5 c5)).frozen? ⟨wi.heap.size, 1, none⟩ = false := (World.frozen?_setCell _ _ _ _).trans j1
                      clear hB5 hg5 hown hg6 hown6 hV5 ht5 i0 i1 j1
                      generalize w5.setCell ⟨wi.heap.size, 1, none⟩ (.slice a5 n5 c5) = w6' at *
                      go_wp2_with fail
                      go_roundw
                      case rel => exact ⟨p + 1, .slice a5 n5 c5, by omega, by go_num, HB6.out, k0, k1, km, ht6⟩
                      case measure => simp [intOf]; omega
                · have hnp : ¬ (p : Int) < (t.2[k]).1 := by omega
                  obtain ⟨C, hC⟩ : ∃ C, cellsL t.1 ar.toNat t.2[k] (c : Int) = C := ⟨_, rfl⟩
                  have hCl : C.length = (t.2[k]).1.toNat := by rw [← hC, cells_len]
                  have hC4 : 1 ≤ C.length ∧ C.length ≤ 4 := by omega
                  have HCN : Hid (∀ x ∈ C, 0 ≤ x ∧ x < (N : Int)) := by unfold Hid; rw [← hC]; exact cells_in (by omega) HR.out (by have := HNC.out; omega) HNN.out
                  have HBF : Hid (Bl Ty.int 2 wl.heap.size wp.heap.size wp vc C) := by
                    have h1 := HBL.out
                    rw [hC, List.take_of_length_le (by omega)] at h1
                    exact h1
                  obtain ⟨qa, qc, rfl⟩ := rd_slice (HBF.out.fr (by unfold capMax; omega)).rd
                  have HQ := Lib.hid (HBF.out.fr (by unfold capMax; omega)).rd
                  have HCNN : Hid (∀ x ∈ C, 0 ≤ x) := fun x hx => (HCN.out x hx).1
                  obtain ⟨l, hl⟩ : ∃ l : Nat, topI C = l := ⟨(topI C).toNat, by have := topI_nn (xs := C); omega⟩
                  have hlN : l < N := by
                    have h0 : topI C ≤ (N : Int) - 1 := topI_le (by omega) (fun x hx => by have := HCN.out x hx; omega)
                    omega
                  have HL := Lib.hid hl
                  have HCC := Lib.hid hC
                  have HN7 := Lib.hid (HNC3.out.below hbip)
                  have HFS := Lib.hid HN7.out.1
                  have HFB := Lib.hid HN7.out.2.2.1
                  have f3 := HFB.out.2.2.2.1
                  have f4 := HFS.out.du.cell hlN
                  have f5 := HFS.out.du.free l
                  have hbsp := HFB.out.1
                  have hgdp := HFS.out.lt
                  have hgtp := lt_of_block HN7.out.2.2.2.1
                  have hzl4 : Z'.length ≤ 4000 := by
                    have h1 := congrArg List.length HNC3.out.2.1
                    rw [List.length_map, List.length_append, looksR_len] at h1
                    omega
                  have hzf := zF_len (Z := Z') (v := l)
                  obtain ⟨ua2, un2, uc2, hul⟩ := ex_slice ((HFS.out.du.2.2.1 l hlN).fr (by rw [List.length_map]; unfold capMax; omega))
                  have HUL := Lib.hid hul
                  rw [hul] at f4
                  have HBl : Hid (Bl pvT 166 w1.heap.size wp.heap.size wp (.slice ua2 un2 uc2) ((zF Z' l).map (·.2))) := by unfold Hid; rw [← hul]; exact HFS.out.du.2.2.1 l hlN
                  have hOL : ∀ q, (Value.slice ua2 un2 uc2).ownBlock = some q → w1.heap.size ≤ q ∧ q < wi.heap.size := fun q hq => ⟨HBl.out.ge hq, by rw [← hul] at hq; exact (HNC3.out.1.du.2.2.1 l hlN).lt_top hq⟩
                  have HOL := Lib.hid hOL
                  have hI : I64 (k : Int) := I64.small (by omega) (by omega)
                  have hzp3 : w1.heap.size ≤ wp.heap.size := by omega
                  have qq0 := q0
                  have qq1 := q1
                  clear hC hl hul hOL hCl q0 q1 z0 p0' p1' pz' r0p r1p z0p
                  go_wp2_with fail
                  refine (MaxI_any _ HQ.out hC4.1 HCNN.out).mono ?_
                  rintro e _ ⟨rfl, rfl⟩
                  rw [HL.out]
                  go_wp2_with fail
                  refine wp_region_T (fun w' => w'.cell? ⟨bs, 3, none⟩ = some (.slice (some ⟨gd, 0, none⟩) N N) ∧ w'.cell? ⟨gd, l, none⟩ = some (.slice ua2 un2 uc2) ∧ w'.cell? ⟨wi.heap.size, 0, none⟩ = some (.int .i64 (k : Int)) ∧ w'.cell? ⟨wi.heap.size, 1, none⟩ = some (.slice qa C.length qc)) [16] (by kernel_rfl) ⟨f3, f4, o0, o1⟩ (fun hHeld => ?_)
                  refine wpAnyT_take (i := 0) (v := ?_) rfl (by kernel_rfl) (fun _ _ _ h => h) (Or.inl ⟨by rfl, ?_⟩) (by assumption) ?_
                  rotate_left
                  · (intro w hSw; (try dsimp only at hSw); go_simp <;> with_reducible rfl)
                  go_simp
                  refine wpAnyT_take (i := 1) (v := ?_) rfl (by kernel_rfl) (fun _ _ _ h => h) (Or.inl ⟨by rfl, ?_⟩) (by assumption) ?_
                  rotate_left
                  · (intro w hSw; (try dsimp only at hSw); go_simp <;> with_reducible rfl)
                  go_simp
                  refine wpAnyT_take (i := 2) (v := ?_) rfl (by kernel_rfl) (fun _ _ _ h => h) (Or.inl ⟨by rfl, ?_⟩) (by assumption) ?_
                  rotate_left
                  · (intro w hSw; (try dsimp only at hSw); go_simp <;> with_reducible rfl)
                  go_simp
                  refine wpAnyT_take (i := 3) (v := ?_) rfl (by kernel_rfl) (fun _ _ _ h => h) (Or.inl ⟨by rfl, ?_⟩) (by assumption) ?_
                  rotate_left
                  · (intro w hSw; (try dsimp only at hSw); go_simp <;> with_reducible rfl)
                  go_simp
                  refine wpAnyT_take (i := 4) (v := ?_) rfl (by kernel_rfl) (fun _ _ _ h => h) (Or.inl ⟨by rfl, ?_⟩) (by assumption) ?_
                  rotate_left
                  · (intro w hSw; (try dsimp only at hSw); go_simp <;> with_reducible rfl)
                  go_simp
                  refine wpAnyT_take (i := 5) (v := ?_) rfl (by kernel_rfl) (fun _ _ _ h => h) (Or.inl ⟨by rfl, ?_⟩) (by assumption) ?_
                  rotate_left
                  · (intro w hSw; (try dsimp only at hSw); go_simp <;> with_reducible rfl)
                  go_simp
                  refine wpAnyT_take (i := 6) (v := ?_) rfl (by kernel_rfl) (fun _ _ _ h => h) (Or.inl ⟨by rfl, ?_⟩) (by assumption) ?_
                  rotate_left
                  · (intro w hSw; (try dsimp only at hSw); go_simp <;> with_reducible rfl)
                  go_simp
                  refine wpAnyT_take (i := 7) (v := ?_) rfl (by kernel_rfl) (fun _ _ _ h => h) (Or.inl ⟨by rfl, ?_⟩) (by assumption) ?_
                  rotate_left
                  · (intro w hSw; (try dsimp only at hSw); go_simp <;> with_reducible rfl)
                  go_simp
                  refine wpAnyT_take (i := 8) (v := ?_) rfl (by kernel_rfl) (fun _ _ _ h => h) (Or.inl ⟨by rfl, ?_⟩) (by assumption) ?_
                  rotate_left
                  · (intro w hSw; (try dsimp only at hSw); go_simp <;> with_reducible rfl)
                  go_simp
                  refine wpAnyT_take (i := 9) (v := ?_) rfl (by kernel_rfl) (fun _ _ _ h => h) (Or.inl ⟨by rfl, ?_⟩) (by assumption) ?_
                  rotate_left
                  · (intro w hSw; (try dsimp only at hSw); go_simp <;> with_reducible rfl)
                  go_simp
                  refine wpAnyT_take (i := 10) (v := ?_) rfl (by kernel_rfl) (fun _ _ _ h => h) (Or.inl ⟨by rfl, ?_⟩) (by assumption) ?_
                  rotate_left
                  · (intro w hSw; (try dsimp only at hSw); go_simp <;> with_reducible rfl)
                  go_simp
                  refine wpAnyT_take (i := 11) (v := ?_) rfl (by kernel_rfl) (fun _ _ _ h => h) (Or.inl ⟨by rfl, ?_⟩) (by assumption) ?_
                  rotate_left
                  · (intro w hSw; (try dsimp only at hSw); go_simp <;> with_reducible rfl)
                  go_simp
                  refine wpAnyT_take (i := 12) (v := ?_) rfl (by kernel_rfl) (fun _ _ _ h => h) (Or.inl ⟨by rfl, ?_⟩) (by assumption) ?_
                  rotate_left
                  · (intro w hSw; (try dsimp only at hSw); go_simp <;> with_reducible rfl)
                  go_simp
                  refine wpAnyT_one (i := 13) rfl (by kernel_rfl) (fun K hK => ?_)
                  go_simp
                  refine hK.out _ _ ⟨by go_keep, by go_keep, by go_keep, by go_keep⟩ (fun hHeld => ?_)
                  clear hK K
                  refine wpAnyT_one (i := 14) rfl (by kernel_rfl) (fun K hK => ?_)
                  have hbX : ∀ o : Obj, Below wp.heap.size wp (wp.drew.alloc o) := fun o => (Below.refl _ wp).drew.alloc (by simp) o
                  refine step_push (E := pvT) _ rfl _ _ 168 166 rfl elLook rfl (HBl.out.below (hbX _) (Nat.le_refl _)) rfl news2 (fr_pv (x := .slice qa C.length qc) hI rfl) (by rw [List.length_map]; omega) (by decide) (by omega) (by first | (simp; done) | (simp; omega)) ?_
                  intro v5 w5 hB5 hg5 hown
                  obtain ⟨a5, n5, c5, rfl⟩ := ex_slice (hB5.fr (by rw [List.length_append, List.length_map]; unfold capMax; simp only [List.length_singleton]; omega))
                  have hg6 : ((wp.alloc (.cells #[.int .i64 (k : Int), .slice qa C.length qc] 166)).drew).grownBy w5 (Value.slice ua2 un2 uc2).ownBlock := hg5
                  have hown6 : (Value.slice a5 n5 c5).ownBlock = (Value.slice ua2 un2 uc2).ownBlock ∨ (Value.slice a5 n5 c5).ownBlock = some ((wp.alloc (.cells #[.int .i64 (k : Int), .slice qa C.length qc] 166)).drew).heap.size := hown
                  have hbX2 : Below wp.heap.size wp ((wp.alloc (.cells #[.int .i64 (k : Int), .slice qa C.length qc] 166)).drew) := hbX _
                  clear hg5 hown
                  generalize hWX : (wp.alloc (.cells #[.int .i64 (k : Int), .slice qa C.length qc] 166)).drew = wx at hg6 hown6 hbX2
                  have hxs := hbX2.size
                  have HZ : Hid (pvR (okN w1.heap.size N us' vin6) wx (((k : Int), C), ((k : Int), .slice qa C.length qc))) := by
                    refine ⟨rfl, hI, ?_⟩
                    obtain ⟨fp, h1, h2, h3, h4⟩ := HBF.out.fr (by unfold capMax; omega)
                    exact Ty.RdP.below ⟨fp, h1, fun q hq => ⟨by have := h3 q hq; omega, fun v hv e => by have := h3 q hq; have := (HNC3.out.1.du.2.2.1 v hv).lt_top e; omega, fun e => by have := h3 q hq; have := HNC3.out.1.vi.lt_top e; omega⟩⟩ hbX2
                  have HD5 := Lib.hid (FinS.pushDue (z := (((k : Int), C), ((k : Int), .slice qa C.length qc))) (HFS.out.below hzp3 hbX2) (by omega) hlN HL.out hB5 (by rw [HUL.out]; exact hg6) (by rw [HUL.out]; exact hown6) HZ.out)
                  have ht5 : TchP (fun q => (Value.slice ua2 un2 uc2).ownBlock = some q) wp w5 := (TchP.of_below hbX2 _).then (TchP.grown hg6 (fun q h => h)) (fun q _ h => h)
                  have ht6 : TchP (fun q => q = gd ∨ (Value.slice ua2 un2 uc2).ownBlock = some q) wp (w5.setCell ⟨gd, l, none⟩ (.slice a5 n5 c5)) := (ht5.mono (fun q _ h => .inr h)).then (TchP.set (O := fun q => q = gd) rfl) (fun q _ h => .inl h)
                  have hnO : ∀ q, (q < w1.heap.size ∨ wi.heap.size ≤ q) → (Value.slice ua2 un2 uc2).ownBlock ≠ some q := fun q hq e => by have := HOL.out q e; omega
                  have i3 := (ht5.cell (i := 3) hbsp (hnO bs (by omega))).trans f3
                  have i4 := (ht5.cell (i := l) hgdp (hnO gd (by omega))).trans f4
                  have i5 := (ht5.frozen (i := l) hgdp (hnO gd (by omega))).trans f5
                  have j0 := (ht5.cell (i := 0) hobl (hnO _ (by omega))).trans o0
                  have j1 := (ht5.cell (i := 1) hobl (hnO _ (by omega))).trans o1
                  have HNN7 : Hid (NfI w1.heap.size W t ar N bs gd gt (looksT t ar.toNat k ++ looksR t.1 ar.toNat k t.2[k] (c + 1)) ((insF t).take (k + 1)) (fun v => if v = l then .slice a5 n5 c5 else us' v) vin6 (Z' ++ [(((k : Int), C), ((k : Int), .slice qa C.length qc))]) vs6 (w5.setCell ⟨gd, l, none⟩ (.slice a5 n5 c5))) := by
                    have hnn : ∀ q, q ≠ gd → (q < w1.heap.size ∨ wi.heap.size ≤ q) → ¬ (q = gd ∨ (Value.slice ua2 un2 uc2).ownBlock = some q) := fun q h1 h2 h => by
                      rcases h with h | h
                      · exact h1 h
                      · exact hnO q h2 h
                    refine ⟨HD5.out, ?_, HFB.out.same (ht6.block bs hbsp (hnn bs hne1 (by omega))) ht6.size, (ht6.block gt hgtp (hnn gt hne3 (by omega))).trans HN7.out.2.2.2.1, HN7.out.2.2.2.2.1.trans (ht6.below (by have := HN7.out.2.2.2.2.1.size; omega) (fun q hq h => by
                      rcases h with h | h
                      · omega
                      · have := HOL.out q h; omega)), by have := ht6.size; omega⟩
                    rw [List.map_append, HN7.out.2.1, looksR_succ, ← List.append_assoc, HCC.out]
                    rfl
                  have HOK7 : Hid (okN w1.heap.size N (fun v => if v = l then .slice a5 n5 c5 else us' v) vin6 wv.heap.size) := ⟨HOK3.out.1, fun v hv e => by
                    by_cases e' : v = l
                    · simp only [if_pos e'] at e
                      rcases hown6 with h | h
                      · rw [h, ← HUL.out] at e; exact HOK3.out.2.1 l hlN e
                      · rw [h] at e; simp at e; omega
                    · simp only [if_neg e'] at e
                      exact HOK3.out.2.1 v hv e, HOK3.out.2.2⟩
                  have hnrb : ¬ (wv.heap.size = gd ∨ (Value.slice ua2 un2 uc2).ownBlock = some wv.heap.size) := fun h => by
                    rcases h with h | h
                    · omega
                    · rw [← HUL.out] at h; exact HOK3.out.2.1 l hlN h
                  have q0 := (ht6.cell (i := 0) (show wv.heap.size < wp.heap.size by omega) hnrb).trans qq0
                  have q1 := (ht6.cell (i := 1) (show wv.heap.size < wp.heap.size by omega) hnrb).trans qq1
                  have hz7 := ht6.size
                  clear hB5 hg6 hown6 hWX HZ HD5 ht5 hnO HFS HFB hnrb qq0 qq1
                  refine hK.out _ _ ⟨i3, i4, j0, j1⟩ (fun hHeld => ?_)
                  clear hK K
                  refine wpAnyT_take (i := 15) (v := ?_) rfl (by kernel_rfl) (fun _ _ _ h => h) (Or.inl ⟨by rfl, ?_⟩) (by assumption) ?_
                  rotate_left
                  · (intro w hSw; (try dsimp only at hSw); go_simp <;> with_reducible rfl)
                  go_simp
                  refine wpAnyT_last (i := 16) rfl (by kernel_rfl) (by kernel_rfl) (fun K hK => ?_)
                  go_simp
                  refine hK.out _ _ ?_
                  clear hK K
                  refine wpAnyT_done (by kernel_rfl) ?_ _
                  go_simp
                  clear i3 i4 i5 j0 j1 hHeld ht6
                  generalize w5.setCell ⟨gd, l, none⟩ (.slice a5 n5 c5) = w7 at *
                  go_wp2_with fail
                  go_roundw
                  case rel => exact ⟨c + 1, _, _, by omega, by go_num, HNN7.out, HOK7.out, q0, q1, by omega⟩
                  case measure => simp [intOf]; omega
            · obtain rfl : c = M := by omega
              have HLS : Hid (looksT t ar.toNat k ++ looksR t.1 ar.toNat k t.2[k] c = looksT t ar.toNat (k + 1)) := by
                unfold Hid
                rw [looksT_succ, relAt_nat hkl, HNC.out, HMN.out]
              have HFIN : Hid (NfI w1.heap.size W t ar N bs gd gt (looksT t ar.toNat (k + 1)) ((insF t).take (k + 1)) us' vin6 Z' vs6 wr) := by
                unfold Hid
                rw [← HLS.out]
                exact HNC3.out
              go_wp2_with fail
              go_roundw
              case rel => exact ⟨k + 1, us', vin6, Z', vs6, by omega, by go_num, HFIN.out⟩
              case measure => simp [intOf]; omega
    · obtain rfl : k = t.2.length := by omega
      have HEND : Hid (NfR w t ar N (.returned (.pointer (some ⟨bs, 0, none⟩))) wr) := by
        obtain ⟨h1, h2, h3, h4, h5, h6⟩ := HNI.out
        rw [List.take_of_length_le (by rw [insF_len]; exact Nat.le_refl _)] at h1
        have hZl : Z.length ≤ 4000 := by
          have := congrArg List.length h2
          rw [List.length_map] at this
          rw [this]
          exact looksT_le HLM.out (Nat.le_refl _)
        have hvl : vs.length ≤ 6 := by rw [h1.bl, insF_len]; exact hrl
        have hok : ∀ q, (q = gd ∨ w1.heap.size ≤ q) → w.heap.size ≤ q ∧ q ≠ bs ∧ q ≠ gt := fun q hq => by
          rcases hq with rfl | hq
          · exact ⟨by omega, Ne.symm hne1, Ne.symm hne3⟩
          · exact ⟨by omega, by omega, by omega⟩
        have hd := h1.dues (by omega) (by omega)
        rw [h2] at hd
        exact ⟨bs, gd, gt, vin, rfl, by omega, by omega, hne2, h3, h4, hd.mono (fun q _ hq => hok q hq), (h1.sets rfl (by omega)).mono (fun q _ hq => hok q hq), bthen hbW h5⟩
      go_wp2_with fail
      go_ret
      exact HEND.out
end Go.Proofs.YthjafhjghjbdmaaGreat
