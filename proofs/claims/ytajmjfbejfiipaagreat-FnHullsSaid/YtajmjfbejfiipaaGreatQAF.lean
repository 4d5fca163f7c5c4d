/-
Contracts: a finder, made. (Its first region is printed by gen_nf.py.)
Contracts: the reference's search for operations: its data; the next value at a place; whether the conditions hold.
-/
import Derived.Test.YtajmjfbejfiipaaGreatQAE
import Derived.Test.YtajmjfbejfiipaaGreatQAB
import Derived.Test.YtajmjfbejfiipaaGreatQAC
import Derived.Test.YtajmjfbejfiipaaGreatQAD
namespace Go.Proofs.YtajmjfbejfiipaaGreat
open Go.RowKit Go.Sort
def mkV (w0 : World) (e N : Nat) : VP := fun v w => ∃ g, v = .slice (some ⟨g, 0, none⟩) N N ∧ w0.heap.size ≤ g ∧ w.ownsRow g e 1 (.slice (some ⟨g, 0, none⟩) N N) N ((List.range N).map fun _ => Value.slice none 0 0)
theorem st_mkV {w0 : World} {e N : Nat} : Stab (mkV w0 e N) := fun _ _ _ ⟨g, h1, h2, h3⟩ hb => ⟨g, h1, h2, owns_same h3 (hb.block g (h3.lt g rfl).2)⟩
theorem mkV_du {w0 w : World} {e N : Nat} {v : Value} (h : mkV w0 e N v w) : ∃ g, v = .slice (some ⟨g, 0, none⟩) N N ∧ w0.heap.size ≤ g ∧ g < w.heap.size ∧ (∀ eA base top, g < base → DU eA e base top w g N (fun _ => .slice none 0 0) (fun _ => [])) ∧ ∃ cur, w.heap[g]? = some (.cells cur e (0, 0)) := by
 obtain ⟨g, h1, h2, h3⟩ := h
 refine ⟨g, h1, h2, (h3.lt g rfl).2, fun eA base top hb => ⟨h3, hb, fun v _ => Bl.nil, fun v _ b hb => by simp [Value.ownBlock] at hb⟩, ?_⟩
 rcases h3.2 with ⟨h', _⟩ | ⟨g', cap, cur, hg', _, hh, _⟩
 ·simp at h'
 ·simp only [Value.slice.injEq, Option.some.injEq, Addr.mk.injEq, and_true, true_and] at hg'
  obtain ⟨rfl, rfl⟩ := hg'
  exact ⟨cur, hh⟩
theorem loose_mkN {P : Program} {w0 w' : World} {o : Oper} {ev : Operand → Value} (l c : Operand) (t e : TypeId) {bytes : Nat} (hop : o.op = Op.makeSlice t l c) (ht : P.underlying t = some (.slice e)) (hinfo : (P.info? e).map (fun i => (i.zero, i.size, i.bytes)) = some (some (.slice none 0 0), 1, bytes)) (n : Nat)
  (hl : ev l = .int .i64 (n : Int)) (hc : ev c = .int .i64 (n : Int)) (hn : n ≤ 1000000000) (hby : bytes ≤ 100000) (hw : w0.heap.size ≤ w'.heap.size) : looseUpon P w' (mkV w0 e n) ((execOp ev o).run P w') := by
 obtain ⟨i, hi, hz, hsz, hbt'⟩ := info_parts hinfo
 have hlen' : bytes * n ≤ 281474976710656 := Nat.le_trans (Nat.mul_le_mul hby hn) (by decide)
 have hb48 : (i.bytes : Int) * (n : Int) ≤ 281474976710656 := by
  have h : ((bytes * n : Nat) : Int) ≤ 281474976710656 := by omega
  rw [hbt']
  rwa [Int.natCast_mul] at h
 have hr := run_make (P := P) w' t e i (.slice none 0 0) ht hi hz .i64 .i64 (n : Int) (n : Int) (by omega) (Int.le_refl _) hb48 (by omega)
 simp only [Int.toNat_natCast] at hr
 simp only [execOp, hop, hl, hc, hr, Result.andThen_ok, Sem.run_bind, Sem.run_pure]
 have hown := World.ownsRow_lit (base := w'.heap.size) (e := e) (size := 1) w' (madeCells (Value.slice none 0 0).cells (n * i.size)) n (Nat.le_refl _) (by unfold maxLen; omega) (by rw [size_madeCells, hsz])
 have e1 : (madeCells (Value.slice none 0 0).cells (n * i.size)).toList = (List.range n).map (fun _ => Value.slice none 0 0) := by
  rw [hsz, Nat.mul_one]
  have hc0 : (Value.slice none 0 0).cells = #[.slice none 0 0] := by simp [Value.cells]
  rw [hc0, toList_madeCells_one, List.map_const', List.length_range]
 rw [e1] at hown
 exact ⟨(Below.refl _ w').alloc (Nat.le_refl _) _, _, rfl, hw, hown⟩
def oneV : VP := fun v w => ∃ b, v = .slice (some ⟨b, 0, none⟩) 1 1 ∧ b < w.heap.size ∧ w.cell? ⟨b, 0, none⟩ = some (.int .i64 (-1))
theorem st_oneV : Stab oneV := fun _ _ _ ⟨b, h1, h2, h3⟩ hb => ⟨b, h1, Nat.lt_of_lt_of_le h2 hb.size, (cellB hb h2).trans h3⟩
def repV (w0 : World) (N : Nat) : VP := fun v w => ∃ g, v = .slice (some ⟨g, 0, none⟩) N N ∧ w0.heap.size ≤ g ∧ w.heap[g]? = some (.cells (mone N N).toArray 2 (0, 0))
theorem st_repV {w0 : World} {N : Nat} : Stab (repV w0 N) := fun _ _ _ ⟨g, h1, h2, h3⟩ hb => ⟨g, h1, h2, (hb.block g (lt_of_block h3)).trans h3⟩
def bdV (w0 : World) (s : Int) (v1 : Value) (ar : Int) (N : Nat) : VP := fun v w => ∃ gd gt, v = .agg #[.int .i64 s, v1, .int .i64 ar, .slice (some ⟨gd, 0, none⟩) N N, .slice none 0 0, .slice (some ⟨gt, 0, none⟩) N N, .int .i64 0, .slice none 0 0] ∧
 mkV w0 190 N (.slice (some ⟨gd, 0, none⟩) N N) w ∧ repV w0 N (.slice (some ⟨gt, 0, none⟩) N N) w
theorem st_bdV {w0 : World} {s ar : Int} {v1 : Value} {N : Nat} : Stab (bdV w0 s v1 ar N) := fun _ _ _ ⟨gd, gt, h1, h2, h3⟩ hb => ⟨gd, gt, h1, st_mkV _ _ _ h2 hb, st_repV _ _ _ h3 hb⟩
def bxV (w0 : World) (s : Int) (v1 : Value) (ar : Int) (N : Nat) : VP := fun v w => ∃ bs gd gt, v = .pointer (some ⟨bs, 0, none⟩) ∧ w0.heap.size ≤ bs ∧ w.heap[bs]? = some (.cells #[.int .i64 s, v1, .int .i64 ar, .slice (some ⟨gd, 0, none⟩) N N, .slice none 0 0, .slice (some ⟨gt, 0, none⟩) N N, .int .i64 0, .slice none 0 0] 186 (0, 0)) ∧
 mkV w0 190 N (.slice (some ⟨gd, 0, none⟩) N N) w ∧ repV w0 N (.slice (some ⟨gt, 0, none⟩) N N) w
theorem st_bxV {w0 : World} {s ar : Int} {v1 : Value} {N : Nat} : Stab (bxV w0 s v1 ar N) := fun _ _ _ ⟨bs, gd, gt, h1, h0, hh, h2, h3⟩ hb => ⟨bs, gd, gt, h1, h0, (hb.block bs (lt_of_block hh)).trans hh, st_mkV _ _ _ h2 hb, st_repV _ _ _ h3 hb⟩
theorem infoLookS : (Tryz.prog.info? 190).map (fun i => (i.zero, i.size, i.bytes)) = some (some (.slice none 0 0), 1, 24) := by kernel_rfl
theorem elLook : ElT Tryz.prog 190 189 2 32 := ElT.mk (z := .agg #[.int .i64 0, .slice none 0 0]) Tryz.underlying190 (by kernel_rfl) (by kernel_rfl) (by decide)
theorem elBoolS : ElT Tryz.prog 184 187 1 24 := ElT.mk (z := .slice none 0 0) Tryz.underlying184 (by kernel_rfl) (by kernel_rfl) (by decide)
/-- a finder's box -/
def BxF (w : World) (bs : Nat) (s ar : Int) (gd gt N : Nat) (vin : Value) : Prop :=
 bs < w.heap.size ∧ w.cell? ⟨bs, 0, none⟩ = some (.int .i64 s) ∧ w.cell? ⟨bs, 2, none⟩ = some (.int .i64 ar) ∧ w.cell? ⟨bs, 3, none⟩ = some (.slice (some ⟨gd, 0, none⟩) N N) ∧ w.cell? ⟨bs, 4, none⟩ = some vin ∧ w.cell? ⟨bs, 5, none⟩ = some (.slice (some ⟨gt, 0, none⟩) N N) ∧
  w.cell? ⟨bs, 6, none⟩ = some (.int .i64 0) ∧ w.cell? ⟨bs, 7, none⟩ = some (.slice none 0 0) ∧ w.frozen? ⟨bs, 4, none⟩ = false ∧ w.frozen? ⟨bs, 6, none⟩ = false ∧ w.frozen? ⟨bs, 7, none⟩ = false
theorem BxF.same {w w' : World} {bs : Nat} {s ar : Int} {gd gt N : Nat} {vin : Value} (h : BxF w bs s ar gd gt N vin) (hs : w'.heap[bs]? = w.heap[bs]?) (hz : w.heap.size ≤ w'.heap.size) : BxF w' bs s ar gd gt N vin := by
 obtain ⟨h0, c0, c2, c3, c4, c5, c6, c7, f4, f6, f7⟩ := h
 have c : ∀ i, w'.cell? ⟨bs, i, none⟩ = w.cell? ⟨bs, i, none⟩ := fun i => World.cell?_of_block (a := ⟨bs, i, none⟩) hs
 have f : ∀ i, w'.frozen? ⟨bs, i, none⟩ = w.frozen? ⟨bs, i, none⟩ := fun i => World.frozen?_of_block (a := ⟨bs, i, none⟩) hs
 exact ⟨Nat.lt_of_lt_of_le h0 hz, (c 0).trans c0, (c 2).trans c2, (c 3).trans c3, (c 4).trans c4, (c 5).trans c5, (c 6).trans c6, (c 7).trans c7, (f 4).trans f4, (f 6).trans f6, (f 7).trans f7⟩
theorem BxF.set {w : World} {bs : Nat} {s ar : Int} {gd gt N : Nat} {vin v' : Value} (h : BxF w bs s ar gd gt N vin) : BxF (w.setCell ⟨bs, 4, none⟩ v') bs s ar gd gt N v' := by
 obtain ⟨h0, c0, c2, c3, c4, c5, c6, c7, f4, f6, f7⟩ := h
 have c : ∀ i, i ≠ 4 → (w.setCell ⟨bs, 4, none⟩ v').cell? ⟨bs, i, none⟩ = w.cell? ⟨bs, i, none⟩ := fun _ hi => World.cell?_setCell_other _ _ _ _ (fun e => hi (congrArg Addr.off e.symm))
 have f : ∀ i, (w.setCell ⟨bs, 4, none⟩ v').frozen? ⟨bs, i, none⟩ = w.frozen? ⟨bs, i, none⟩ := fun i => World.frozen?_setCell _ _ _ _
 exact ⟨by simpa [World.setCell] using h0, (c 0 (by decide)).trans c0, (c 2 (by decide)).trans c2, (c 3 (by decide)).trans c3, World.cell?_setCell_same _ _ _ c4, (c 5 (by decide)).trans c5, (c 6 (by decide)).trans c6, (c 7 (by decide)).trans c7, (f 4).trans f4, (f 6).trans f6, (f 7).trans f7⟩
/-- what a new finder is -/
def NfR (w : World) (t : Tpl) (ar : Int) (N : Nat) (e : Ending) (w' : World) : Prop :=
 ∃ bs gd gt vin, e = .returned (.pointer (some ⟨bs, 0, none⟩)) ∧ w.heap.size ≤ bs ∧ w.heap.size ≤ gt ∧ gt ≠ bs ∧ BxF w' bs t.1 ar gd gt N vin ∧ w'.heap[gt]? = some (.cells (mone N N).toArray 2 (0, 0)) ∧
  duesT.RdP (fun k => w.heap.size ≤ k ∧ k ≠ bs ∧ k ≠ gt) w' [.slice (some ⟨gd, 0, none⟩) N N] (duesF (looksA t ar.toNat) N) ∧ (Ty.slice boolsT).RdP (fun k => w.heap.size ≤ k ∧ k ≠ bs ∧ k ≠ gt) w' [vin] (insF t) ∧ Below w.heap.size w w'
/-- what the making of a finder keeps -/
def NfI (base : Nat) (W : World) (t : Tpl) (ar : Int) (N bs gd gt : Nat) (L : List (Int × List Int)) (I : List (List Bool)) (us : Nat → Value) (vin : Value) (Z : List ZP) (vs : List Value) (wr : World) : Prop :=
 FinS boolsT 189 190 187 base N wr gd us vin Z vs I ∧ Z.map (·.1) = L ∧ BxF wr bs t.1 ar gd gt N vin ∧ wr.heap[gt]? = some (.cells (mone N N).toArray 2 (0, 0)) ∧ Below W.heap.size W wr ∧ base ≤ wr.heap.size
theorem NfI.below {base : Nat} {W wr wx : World} {t : Tpl} {ar : Int} {N bs gd gt : Nat} {L : List (Int × List Int)} {I : List (List Bool)} {us : Nat → Value} {vin : Value} {Z : List ZP} {vs : List Value} (h : NfI base W t ar N bs gd gt L I us vin Z vs wr) (hb : Below wr.heap.size wr wx) : NfI base W t ar N bs gd gt L I us vin Z vs wx := by
 obtain ⟨h1, h2, h3, h4, h5, h6⟩ := h
 have := hb.size
 exact ⟨h1.below h6 hb, h2, h3.same (hb.block bs h3.1) hb.size, (hb.block gt (lt_of_block h4)).trans h4, bthen h5 hb, by omega⟩
theorem ins_take {t : Tpl} {k : Nat} (h : k < t.2.length) : (insF t).take k ++ [seenL t.1 (t.1 ^ (t.2[k]).1.toNat).toNat (t.2[k]).2] = (insF t).take (k + 1) := by
 have h' : k < (insF t).length := by rw [insF_len]; exact h
 rw [List.take_succ_eq_append_getElem h', insF_get h h']
set_option maxHeartbeats 12800000 in
set_option maxRecDepth 100000 in
theorem newFinder_any (w : World) {ct : Array Value} {t : Tpl} (ht : tplT.Rd w ct.toList t) (hT : tplOk t) {ar : Int} (har : 1 ≤ ar ∧ ar ≤ 3) (hlim : limF t ar.toNat = false) {N : Nat} (hN : t.1 ^ ar.toNat = (N : Int)) :
  Calls Tryz.prog 57 #[.agg ct, .int .i64 ar] w (NfR w t ar N) := by
 obtain ⟨v1, hct, -, hrls⟩ := pair_ex ht
 obtain ⟨ra, rc, hv1, -, -, hrce⟩ := pairs_ex hrls
 replace hv1 : v1 = .slice ra t.2.length rc := by simpa using hv1
 have HV1 := Lib.hid hv1
 have HRC := Lib.hid hrce
 obtain rfl := agg_of hct
 have HTR := Lib.hid ht
 have HT := Lib.hid hT
 have hs := hT.1
 unfold sizeOk at hs
 have htn : tabN N := tabN_of hs (ar := ar.toNat) (by omega) hN
 have hNb := tabN_bd htn
 have HTN := Lib.hid htn
 have HNN := Lib.hid hN
 have HLM := Lib.hid hlim
 have hrl := hT.2.1
 clear ht hct hT htn hN hlim hrls hv1 hrce
 go_enter Tryz.func57, Tryz.ntmps57
 go_wp2_with fail
 generalize hW : World.alloc _ _ = W
 have hbW : Below w.heap.size w W := hW ▸ bA
 have hsW : w.heap.size + 1 ≤ W.heap.size := by rw [← hW]; simp
 have t0 : W.cell? ⟨w.heap.size, 0, none⟩ = some (.int .i64 t.1) := by rw [← hW]; simp
 have t1 : W.cell? ⟨w.heap.size, 1, none⟩ = some v1 := by rw [← hW]; simp
 have hzW : w.heap.size < W.heap.size := by omega
 clear hW
 refine wp_region_loose [exV (.agg #[.int .i64 t.1, v1]), exV (.int .i64 ar), exV (.pointer (some ⟨w.heap.size, 0, none⟩)), exV (.int .i64 t.1), exV (.int .i64 ar), exV (.int .i64 (N : Int)), mkV W 190 N, oneV, exV (.pointer (some ⟨w.heap.size, 0, none⟩)), exV (.int .i64 t.1), exV (.int .i64 ar), exV (.int .i64 (N : Int)), repV W N, bdV W t.1 v1 ar N, bxV W t.1 v1 ar N, bxV W t.1 v1 ar N] (by kernel_rfl) (by kernel_rfl) ⟨st_exV, st_exV, st_exV, st_exV, st_exV, st_exV, st_mkV, st_oneV, st_exV, st_exV, st_exV, st_exV, st_repV, st_bdV, st_bxV, st_bxV, trivial⟩ ⟨?j1_0, ?j1_1, ?j1_2, ?j1_3, ?j1_4, ?j1_5, ?j1_6, ?j1_7, ?j1_8, ?j1_9, ?j1_10, ?j1_11, ?j1_12, ?j1_13, ?j1_14, ?j1_15, trivial⟩ ?hQ1
 case j1_0 =>
  intro a' w' hb hd
  have e2 : a'.tmps[2]?.getD undef = .pointer (some ⟨w.heap.size, 0, none⟩) := ev (slot_o hd 2 rfl rfl)
  have q : ∀ b o, b < W.heap.size → w'.cell? ⟨b, o, none⟩ = W.cell? ⟨b, o, none⟩ := (bcell hb).1
  go_simp
  exact ⟨Below.refl _ _, rfl⟩
 case j1_1 =>
  intro a' w' hb hd
  have e1 : a'.tmps[1]?.getD undef = .int .i64 ar := ev (slot_o hd 1 rfl rfl)
  go_simp
  exact ⟨Below.refl _ _, rfl⟩
 case j1_2 =>
  intro a' w' hb hd
  have e2 : a'.tmps[2]?.getD undef = .pointer (some ⟨w.heap.size, 0, none⟩) := ev (slot_o hd 2 rfl rfl)
  go_simp
  exact ⟨Below.refl _ _, rfl⟩
 case j1_3 =>
  intro a' w' hb hd
  have e22 : a'.tmps[22]?.getD undef = .pointer (some ⟨w.heap.size, 0, none⟩) := ev (slot_w hd 22 (exV (.pointer (some ⟨w.heap.size, 0, none⟩))) rfl rfl)
  have q : ∀ b o, b < W.heap.size → w'.cell? ⟨b, o, none⟩ = W.cell? ⟨b, o, none⟩ := (bcell hb).1
  go_simp
  exact ⟨Below.refl _ _, rfl⟩
 case j1_4 =>
  intro a' w' hb hd
  have e1 : a'.tmps[1]?.getD undef = .int .i64 ar := ev (slot_o hd 1 rfl rfl)
  go_simp
  exact ⟨Below.refl _ _, rfl⟩
 case j1_5 =>
  intro a' w' hb hd
  have e23 : a'.tmps[23]?.getD undef = .int .i64 t.1 := ev (slot_w hd 23 (exV (.int .i64 t.1)) rfl rfl)
  have e24 : a'.tmps[24]?.getD undef = .int .i64 ar := ev (slot_w hd 24 (exV (.int .i64 ar)) rfl rfl)
  go_simp
  exact ⟨Below.refl _ _, (power_any w' t.1 ar (by omega) (by omega) (by omega)).mono fun e w'' ⟨he, hw⟩ => ⟨_, he, by rw [← hw]; exact Below.refl _ _, congrArg (Value.int .i64) HNN.out⟩⟩
 case j1_6 =>
  intro a' w' hb hd
  have e25 : a'.tmps[25]?.getD undef = .int .i64 (N : Int) := ev (slot_w hd 25 (exV (.int .i64 (N : Int))) rfl rfl)
  exact loose_mkN (.tmp 25) (.tmp 25) 182 190 rfl Tryz.underlying182 infoLookS N (by simpa [Act.eval] using e25) (by simpa [Act.eval] using e25) (by omega) (by decide) hb.size
 case j1_7 =>
  intro a' w' hb hd
  go_simp
  exact ⟨bA, _, rfl, by simp, by simp [go_sem]⟩
 case j1_8 =>
  intro a' w' hb hd
  have e2 : a'.tmps[2]?.getD undef = .pointer (some ⟨w.heap.size, 0, none⟩) := ev (slot_o hd 2 rfl rfl)
  go_simp
  exact ⟨Below.refl _ _, rfl⟩
 case j1_9 =>
  intro a' w' hb hd
  have e28 : a'.tmps[28]?.getD undef = .pointer (some ⟨w.heap.size, 0, none⟩) := ev (slot_w hd 28 (exV (.pointer (some ⟨w.heap.size, 0, none⟩))) rfl rfl)
  have q : ∀ b o, b < W.heap.size → w'.cell? ⟨b, o, none⟩ = W.cell? ⟨b, o, none⟩ := (bcell hb).1
  go_simp
  exact ⟨Below.refl _ _, rfl⟩
 case j1_10 =>
  intro a' w' hb hd
  have e1 : a'.tmps[1]?.getD undef = .int .i64 ar := ev (slot_o hd 1 rfl rfl)
  go_simp
  exact ⟨Below.refl _ _, rfl⟩
 case j1_11 =>
  intro a' w' hb hd
  have e29 : a'.tmps[29]?.getD undef = .int .i64 t.1 := ev (slot_w hd 29 (exV (.int .i64 t.1)) rfl rfl)
  have e30 : a'.tmps[30]?.getD undef = .int .i64 ar := ev (slot_w hd 30 (exV (.int .i64 ar)) rfl rfl)
  go_simp
  exact ⟨Below.refl _ _, (power_any w' t.1 ar (by omega) (by omega) (by omega)).mono fun e w'' ⟨he, hw⟩ => ⟨_, he, by rw [← hw]; exact Below.refl _ _, congrArg (Value.int .i64) HNN.out⟩⟩
 case j1_12 =>
  intro a' w' hb hd
  have d27 := slot_w hd 27 (oneV) rfl rfl
  have e31 : a'.tmps[31]?.getD undef = .int .i64 (N : Int) := ev (slot_w hd 31 (exV (.int .i64 (N : Int))) rfl rfl)
  obtain ⟨rb, hrb, hrl, hrc⟩ := d27
  have e27 : a'.tmps[27]?.getD undef = .slice (some ⟨rb, 0, none⟩) 1 1 := ev hrb
  go_simp
  exact ⟨Below.refl _ _, (Repeat_any w' hrl hrc HTN.out).mono fun e w'' ⟨g, he, h1, h2, h3⟩ => ⟨_, he, h3, g, rfl, Nat.le_trans hb.size h1, h2⟩⟩
 case j1_13 =>
  intro a' w' hb hd
  have e20 : a'.tmps[20]?.getD undef = .agg #[.int .i64 t.1, v1] := ev (slot_w hd 20 (exV (.agg #[.int .i64 t.1, v1])) rfl rfl)
  have e21 : a'.tmps[21]?.getD undef = .int .i64 ar := ev (slot_w hd 21 (exV (.int .i64 ar)) rfl rfl)
  have d26 := slot_w hd 26 (mkV W 190 N) rfl rfl
  have d32 := slot_w hd 32 (repV W N) rfl rfl
  obtain ⟨gd, hgd, hgl, hgo⟩ := d26
  have e26 : a'.tmps[26]?.getD undef = .slice (some ⟨gd, 0, none⟩) N N := ev hgd
  obtain ⟨gt, hgt, htl, hth⟩ := d32
  have e32 : a'.tmps[32]?.getD undef = .slice (some ⟨gt, 0, none⟩) N N := ev hgt
  go_simp
  exact ⟨Below.refl _ _, gd, gt, rfl, ⟨_, rfl, hgl, hgo⟩, ⟨_, rfl, htl, hth⟩⟩
 case j1_14 =>
  intro a' w' hb hd
  have d33 := slot_w hd 33 (bdV W t.1 v1 ar N) rfl rfl
  obtain ⟨gd, gt, h33, hgd, hgt⟩ := d33
  have e33 : a'.tmps[33]?.getD undef = .agg #[.int .i64 t.1, v1, .int .i64 ar, .slice (some ⟨gd, 0, none⟩) N N, .slice none 0 0, .slice (some ⟨gt, 0, none⟩) N N, .int .i64 0, .slice none 0 0] := ev h33
  go_simp
  exact ⟨bA, _, gd, gt, rfl, hb.size, heap_alloc_new w' _, st_mkV _ _ _ hgd bA, st_repV _ _ _ hgt bA⟩
 case j1_15 =>
  intro a' w' hb hd
  have d34 := slot_w hd 34 (bxV W t.1 v1 ar N) rfl rfl
  obtain ⟨bs, gd, gt, h34, h35⟩ := d34
  have e34 : a'.tmps[34]?.getD undef = .pointer (some ⟨bs, 0, none⟩) := ev h34
  go_simp
  exact ⟨Below.refl _ _, bs, gd, gt, rfl, h35⟩
 intro vs1 w1 hb1 H0
 obtain ⟨z1_0, _, rfl, p0, H1⟩ := HAll_cons H0
 obtain ⟨z1_1, _, rfl, p1, H2⟩ := HAll_cons H1
 obtain ⟨z1_2, _, rfl, p2, H3⟩ := HAll_cons H2
 obtain ⟨z1_3, _, rfl, p3, H4⟩ := HAll_cons H3
 obtain ⟨z1_4, _, rfl, p4, H5⟩ := HAll_cons H4
 obtain ⟨z1_5, _, rfl, p5, H6⟩ := HAll_cons H5
 obtain ⟨z1_6, _, rfl, p6, H7⟩ := HAll_cons H6
 obtain ⟨z1_7, _, rfl, p7, H8⟩ := HAll_cons H7
 obtain ⟨z1_8, _, rfl, p8, H9⟩ := HAll_cons H8
 obtain ⟨z1_9, _, rfl, p9, H10⟩ := HAll_cons H9
 obtain ⟨z1_10, _, rfl, p10, H11⟩ := HAll_cons H10
 obtain ⟨z1_11, _, rfl, p11, H12⟩ := HAll_cons H11
 obtain ⟨z1_12, _, rfl, p12, H13⟩ := HAll_cons H12
 obtain ⟨z1_13, _, rfl, p13, H14⟩ := HAll_cons H13
 obtain ⟨z1_14, _, rfl, p14, H15⟩ := HAll_cons H14
 obtain ⟨z1_15, _, rfl, p15, H16⟩ := HAll_cons H15
 obtain rfl := HAll_nil H16
 obtain rfl := p0 rfl
 obtain rfl := p1 rfl
 obtain rfl := p2 rfl
 obtain rfl := p3 rfl
 obtain rfl := p4 rfl
 obtain rfl := p5 rfl
 obtain rfl := p8 rfl
 obtain rfl := p9 rfl
 obtain rfl := p10 rfl
 obtain rfl := p11 rfl
 have hbx := p15 rfl
 have hmk := p6 rfl
 have hon := p7 rfl
 have hrp := p12 rfl
 have hbd := p13 rfl
 have hbo := p14 rfl
 obtain ⟨_, rfl, -⟩ := hmk
 obtain ⟨_, rfl, -⟩ := hon
 obtain ⟨_, rfl, -⟩ := hrp
 obtain ⟨_, _, rfl, -⟩ := hbd
 obtain ⟨_, _, _, rfl, -⟩ := hbo
 clear p0 p1 p2 p3 p4 p5 p6 p7 p8 p9 p10 p11 p12 p13 p14 p15 H0 H1 H2 H3 H4 H5 H6 H7 H8 H9 H10 H11 H12 H13 H14 H15 H16
 obtain ⟨bs, gd, gt, rfl, hbsl, hbsh, hgdv, hgtv⟩ := hbx
 simp only [putAll, Act.put]
 go_simp
 obtain ⟨_, hgd0, hgdl, hgdlt, hDU, cur, hcur⟩ := mkV_du hgdv
 obtain rfl : gd = _ := by simpa using hgd0
 obtain ⟨_, hgt0, hgtl, hgth⟩ := hgtv
 obtain rfl : gt = _ := by simpa using hgt0
 have hne1 : bs ≠ gd := fun e => by rw [e, hcur] at hbsh; simp at hbsh
 have hne2 : gt ≠ bs := fun e => by rw [e, hbsh] at hgth; simp at hgth
 have hne3 : gt ≠ gd := fun e => by rw [e, hcur] at hgth; simp at hgth
 have hbslt := lt_of_block hbsh
 have hgtlt := lt_of_block hgth
 have HI0 : Hid (NfI w1.heap.size W t ar N bs gd gt (looksT t ar.toNat 0) ((insF t).take 0) (fun _ => .slice none 0 0) (.slice none 0 0) [] [] w1) :=
  ⟨FinS.start (fun eA top => hDU eA _ top hgdlt), rfl, ⟨hbslt, by simp [World.cell?, hbsh], by simp [World.cell?, hbsh], by simp [World.cell?, hbsh], by simp [World.cell?, hbsh], by simp [World.cell?, hbsh], by simp [World.cell?, hbsh], by simp [World.cell?, hbsh], by simp [World.frozen?, hbsh], by simp [World.frozen?, hbsh], by simp [World.frozen?, hbsh]⟩, hgth, hb1, Nat.le_refl _⟩
 obtain rfl := HV1.out
 have HT0 := t0
 have HT1 := t1
 clear hgd0 hDU hcur hgt0 hgth hbsh hgdv
 replace t0 := (cellB hb1 (by omega)).trans t0
 replace t1 := (cellB hb1 (by omega)).trans t1
 go_wp2_with fail
 clear t0 t1
 go_loopw [38] (fun i wr => ∃ (k : Nat) (us : Nat → Value) (vin : Value) (Z : List ZP) (vs : List Value), k ≤ t.2.length ∧ i = .int .i64 k ∧ NfI w1.heap.size W t ar N bs gd gt (looksT t ar.toNat k) ((insF t).take k) us vin Z vs wr) (fun i _ => t.2.length - (intOf i).toNat)
 case atStart => exact ⟨0, _, _, [], [], Nat.zero_le _, rfl, HI0.out⟩
 case round =>
  obtain ⟨k, us, vin, Z, vs, hk, rfl, hNI⟩ := hrel
  have HNI := Lib.hid hNI
  have hbe := hNI.2.2.2.2.1
  have hz6 := hNI.2.2.2.2.2
  clear hNI HI0
  by_cases hkl : k < t.2.length
  ·have hr := HT.out.2.2 _ (List.getElem_mem hkl)
   have hm := hr.2.1
   unfold sizeOk at hm
   have hrl2 := (rel_len_le hr).1
   have hrl3 := (rel_len_le hr).2
   obtain ⟨Nr, hNr⟩ : ∃ Nr : Nat, t.1 ^ (t.2[k]).1.toNat = (Nr : Int) := ⟨(t.1 ^ (t.2[k]).1.toNat).toNat, by omega⟩
   have hNr256 : Nr ≤ 256 ∧ (t.2[k]).2.length ≤ 256 := by omega
   obtain ⟨b, o, rfl, hb, hce⟩ := HRC.out (by omega)
   obtain ⟨ur, hur, -, g0, g1⟩ := hce k hkl
   obtain ⟨ua, uc, hue, -, -, huc⟩ := slices_ex hur
   obtain rfl : ur = _ := by simpa using hue
   have HUC := Lib.hid huc
   have HR := Lib.hid hr
   have HNr := Lib.hid hNr
   have HIT : Hid ((insF t).take k ++ [seenL t.1 Nr (t.2[k]).2] = (insF t).take (k + 1)) := by have h := ins_take hkl; rw [hNr, Int.toNat_natCast] at h; exact h
   have hbwr : Below w.heap.size w wr := bthen hbW hbe
   have d0 := (hbwr.cell hb).trans g0
   have d1 := (hbwr.cell hb).trans g1
   have t0 := (hbe.cell (p := ⟨w.heap.size, 0, none⟩) hzW).trans HT0
   have hzr := hbwr.size
   have hlt : w.heap.size < wr.heap.size := by have := hbe.size; omega
   obtain ⟨wv, rfl⟩ : ∃ wv : World, wv = wr := ⟨_, rfl⟩
   clear hce g0 g1 hur hue huc hr hrl2 hrl3 hNr
   go_wp2_with fail
   generalize hWa : World.alloc wv _ = wa
   have hba : Below wv.heap.size wv wa := hWa ▸ bA
   have hsa : wv.heap.size + 1 ≤ wa.heap.size := by rw [← hWa]; simp
   have r0 : wa.cell? ⟨wv.heap.size, 0, none⟩ = some (.int .i64 (t.2[k]).1) := by rw [← hWa]; simp [go_sem]
   have r1 : wa.cell? ⟨wv.heap.size, 1, none⟩ = some (.slice ua (t.2[k]).2.length uc) := by rw [← hWa]; simp [go_sem]
   have HN1 := Lib.hid (HNI.out.below hba)
   replace t0 := (cellB hba (by omega)).trans t0
   have hbwa := bthen hbwr hba
   clear hWa d0 d1
   refine (power_any _ t.1 (t.2[k]).1 (by omega) (by omega) (by omega)).mono ?_
   rintro e _ ⟨rfl, rfl⟩
   rw [HNr.out]
   go_wp2_with (refine wpList_mkB _ rfl _ _ 187 4 rfl Tryz.underlying187 infoBool w1.heap.size Nr rfl rfl (by omega) (by decide) (by omega) ?_; intro wb hA hgb hsb; have hbb := below_of_grown hgb; have r0 := (cellB hbb (by omega)).trans r0; have r1 := (cellB hbb (by omega)).trans r1; have t0 := (cellB hbb (by omega)).trans t0)
   have hzb := hbb.size
   have HA := Lib.hid hA
   have HN2 := Lib.hid (HN1.out.below hbb)
   have hbwb := bthen hbwa hbb
   clear hA hgb
   go_loopw [52] (fun i wi => ∃ j : Nat, j ≤ (t.2[k]).2.length ∧ i = .int .i64 j ∧ BR 4 w1.heap.size wi wa.heap.size Nr Nr (seenL t.1 Nr ((t.2[k]).2.take j)) ∧ Below wa.heap.size wb wi) (fun i _ => (t.2[k]).2.length - (intOf i).toNat)
   case atStart => exact ⟨0, Nat.zero_le _, rfl, by rw [List.take_zero, seenL_nil]; exact HA.out, Below.refl _ _⟩
   case round =>
    obtain ⟨j, hj, rfl, hBR, hbel⟩ := hrel
    have HB := Lib.hid hBR
    clear hBR HA
    have hzi := hbel.size
    replace r0 := (cellB hbel (by omega)).trans r0
    replace r1 := (cellB hbel (by omega)).trans r1
    replace t0 := (cellB hbel (by omega)).trans t0
    have hbai := hbb.trans hbel
    have hbwi := bthen hbwa hbai
    by_cases hjl : j < (t.2[k]).2.length
    ·obtain ⟨a, q, rfl, haa, hce⟩ := HUC.out (by omega)
     obtain ⟨u, hu, hcu⟩ := hce j hjl
     obtain ⟨ua2, un2, uc2, rfl⟩ := rd_sl hu
     have d2 := (hbwi.cell haa).trans hcu
     obtain ⟨x1, x2⟩ := (HR.out.2.2 j hjl).1
     have htl : ((t.2[k]).2[j]).length = (t.2[k]).1.toNat := by omega
     obtain ⟨i0, i1⟩ := idx_lt (s := t.1) (by omega) htl x2
     rw [HNr.out] at i1
     obtain ⟨l, hl⟩ : ∃ l : Nat, idxL t.1 0 (t.2[k]).2[j] = l := ⟨(idxL t.1 0 (t.2[k]).2[j]).toNat, by omega⟩
     have hlN : l < Nr := by omega
     have e0 := HB.out.cell (j := l) (by rw [seenL_len]; exact hlN)
     have e1 := HB.out.free l
     have HST := Lib.hid (seenL_set hjl hl hlN)
     have HBS := Lib.hid (HB.out.set l true)
     have HU := Lib.hid (hu.below hbwi)
     have HX2 := Lib.hid x2
     have HJ := Lib.hid hl
     have hlen5 : ((t.2[k]).2[j]).length ≤ 5 := by omega
     clear hce hu hcu x1 x2 htl hl i0 i1
     go_wp2_with fail
     refine (indexOf_any _ t.1 HU.out (by omega) (by omega) hlen5 HX2.out).mono ?_
     rintro e _ ⟨rfl, rfl⟩
     rw [HJ.out]
     go_wp2_with fail
     go_roundw
     case rel => exact ⟨j + 1, by omega, by go_num, by rw [← HST.out]; exact HBS.out, hbel.setCell (Nat.le_refl _) _⟩
     case measure => simp [intOf]; omega
    ·obtain rfl : j = (t.2[k]).2.length := by omega
     have HNi := Lib.hid (HN1.out.below hbai)
     obtain ⟨FS, FZ, FB, FG, FW, FZ6⟩ := HN1.out.below hbai
     obtain ⟨va4, vn4, vc4, rfl⟩ := ex_slice (FS.vi.fr (by rw [FS.bl, List.length_take, insF_len]; unfold capMax; omega))
     obtain ⟨hbsi, -, -, -, b4, -, -, -, f4, -, -⟩ := id FB
     have HFS := Lib.hid FS
     have HFB := Lib.hid FB
     have HFG := Lib.hid FG
     have HVI := Lib.hid FS.vi
     have hvsl : vs.length ≤ 6 := by rw [FS.bl, List.length_take, insF_len]; omega
     have hown4 : Hid ((Value.slice va4 vn4 vc4).ownBlock ≠ some bs) := fun e => by have := HVI.out.ge e; omega
     have hgtw : gt < wr.heap.size := lt_of_block FG
     have HX : Hid (boolsT.RdP (okN w1.heap.size N us (.slice va4 vn4 vc4)) wr [.slice (some ⟨wa.heap.size, 0, none⟩) Nr Nr] (seenL t.1 Nr (t.2[k]).2)) := by
      have h1 := HB.out
      rw [List.take_length] at h1
      refine h1.rdP (by unfold capMax; omega) ⟨by omega, fun v hv e => ?_, fun e => ?_⟩
      ·have := (HN1.out.1.du.2.2.1 v hv).lt_top e
       omega
      ·have := HN1.out.1.vi.lt_top e
       omega
     clear FS FZ FB FG
     obtain ⟨wj, rfl⟩ : ∃ wj : World, wj = wr := ⟨_, rfl⟩
     go_upto_region 12 with (at_builtin; go_loud (refine wpList_push (E := Ty.val) _ rfl _ _ 184 187 rfl elBoolS rfl (HVI.out.below bA (Nat.le_refl _)) rfl news1 (fr_val rfl) (by omega) (by decide) (by omega) (by first | (simp; done) | (simp; omega)) ?_; intro v5 w5 hB5 hg5 hown; obtain ⟨a5, n5, c5, rfl⟩ := ex_slice (hB5.fr (by rw [List.length_append]; unfold capMax; simp only [List.length_singleton]; omega)); have i4 := (grown_cell' (i := 4) hg5 (show bs < _ by first | (simp; done) | (simp; omega)) hown4.out).trans ((cellB (bA (w := wj)) hbsi).trans b4); have j4 := (World.frozen?_of_block (a := ⟨bs, 4, none⟩) (hg5.block bs (by first | (simp; done) | (simp; omega)) (fun e => hown4.out e.symm))).trans ((frozenB (bA (w := wj)) hbsi).trans f4)))
     have hbj : ∀ ob : Obj, Below wj.heap.size wj (wj.alloc ob) := fun _ => bA
     have hg6 : (wj.alloc (.cells #[.slice (some ⟨wa.heap.size, 0, none⟩) Nr Nr] 187)).grownBy w5 (Value.slice va4 vn4 vc4).ownBlock := hg5
     have hown6 : (Value.slice a5 n5 c5).ownBlock = (Value.slice va4 vn4 vc4).ownBlock ∨ (Value.slice a5 n5 c5).ownBlock = some (wj.alloc (.cells #[.slice (some ⟨wa.heap.size, 0, none⟩) Nr Nr] 187)).heap.size := hown
     have HX5 := Lib.hid (HX.out.below (hbj (.cells #[.slice (some ⟨wa.heap.size, 0, none⟩) Nr Nr] 187)))
     have HF6 := Lib.hid (((HFS.out.below (by omega) (hbj (.cells #[.slice (some ⟨wa.heap.size, 0, none⟩) Nr Nr] 187))).pushIn (by simp; omega) hB5 hg6 hown6 HX5.out).set (i := 4) (u := .slice a5 n5 c5) (show bs < w1.heap.size by omega) hne1)
     have ht5 : TchP (fun q => (Value.slice va4 vn4 vc4).ownBlock = some q) wj w5 := (TchP.of_below (hbj _) _).then (TchP.grown hg6 (fun q h => h)) (fun q _ h => h)
     have ht6 : TchP (fun q => q = bs ∨ (Value.slice va4 vn4 vc4).ownBlock = some q) wj (w5.setCell ⟨bs, 4, none⟩ (.slice a5 n5 c5)) := (ht5.mono (fun q _ h => .inr h)).then (TchP.set (O := fun q => q = bs) rfl) (fun q _ h => .inl h)
     have hgt4 : (Value.slice va4 vn4 vc4).ownBlock ≠ some gt := fun e => by have := HVI.out.ge e; omega
     have HB6 := Lib.hid ((HFB.out.same (ht5.block bs hbsi hown4.out) ht5.size).set (v' := .slice a5 n5 c5))
     have HG6 := Lib.hid ((ht6.block gt hgtw (fun h => by
      rcases h with h | h
      ·exact hne2 h
      ·exact hgt4 h)).trans HFG.out)
     have hb6 : Below W.heap.size wj (w5.setCell ⟨bs, 4, none⟩ (.slice a5 n5 c5)) := ht6.below (by have := FW.size; omega) (fun q hq h => by
      rcases h with h | h
      ·omega
      ·have := HVI.out.ge h; omega)
     have hlrb : wv.heap.size < wj.heap.size := by omega
     have q0 := (ht6.cell (i := 0) hlrb (fun h => by
      rcases h with h | h
      ·omega
      ·have := HNI.out.1.vi.lt_top h; omega)).trans r0
     have q1 := (ht6.cell (i := 1) hlrb (fun h => by
      rcases h with h | h
      ·omega
      ·have := HNI.out.1.vi.lt_top h; omega)).trans r1
     have HOKR : Hid (okN w1.heap.size N us (.slice a5 n5 c5) wv.heap.size) := ⟨hz6, fun v hv e => by have := (HNI.out.1.du.2.2.1 v hv).lt_top e; omega, fun e => by
      rcases hown6 with h | h
      ·rw [h] at e; have := HNI.out.1.vi.lt_top e; omega
      ·rw [h] at e; simp at e; omega⟩
     have hz7 := ht6.size
     have HN6 : Hid (NfI w1.heap.size W t ar N bs gd gt (looksT t ar.toNat k) ((insF t).take (k + 1)) us (.slice a5 n5 c5) Z (vs ++ [.slice (some ⟨wa.heap.size, 0, none⟩) Nr Nr]) (w5.setCell ⟨bs, 4, none⟩ (.slice a5 n5 c5))) := by
      refine ⟨?_, HNi.out.2.1, HB6.out, HG6.out, FW.trans (hb6.mono (Nat.le_refl _)), by omega⟩
      rw [← HIT.out]
      exact HF6.out
     have z0 := (cellB hb6 (show w.heap.size < W.heap.size by omega)).trans t0
     clear hB5 hg5 hown hg6 hown6 HF6 ht5 ht6 hgt4 HB6 HG6 i4 j4 b4 f4 HX HX5 HFS HFB HFG HVI hown4 r0 r1 t0 HNi HN1 HN2 HB
     generalize w5.setCell ⟨bs, 4, none⟩ (.slice a5 n5 c5) = w6 at *
     generalize vs ++ [.slice (some ⟨wa.heap.size, 0, none⟩) Nr Nr] = vs6 at *
     generalize Value.slice a5 n5 c5 = vin6 at *
     obtain ⟨n, hn⟩ : ∃ n, (t.2[k]).2.length = n := ⟨_, rfl⟩
     obtain ⟨M, hM⟩ : ∃ M, powN n ar.toNat = M := ⟨_, rfl⟩
     have HMC : Hid ((n : Int) ^ ar.toNat = (M : Int)) := by unfold Hid; rw [← hM, powN_cast]
     have hZM : (looksT t ar.toNat k).length + M ≤ 4000 := by have := looksT_le' HLM.out hkl; rw [hn, hM] at this; exact this
     have hn256 : n ≤ 256 := by omega
     have HNC := Lib.hid hn
     have HMN := Lib.hid hM
     have hm4 : 1 ≤ (t.2[k]).1 ∧ (t.2[k]).1 ≤ 4 := hm
     rw [hn] at q1
     clear hn hM
     go_wp2_with fail
     refine (power_any _ (n : Int) ar (by omega) (by omega) (by omega)).mono ?_
     rintro e _ ⟨rfl, rfl⟩
     rw [HMC.out]
     go_wp2_with fail
     have hrb6 : wv.heap.size < w6.heap.size := by omega
     clear z0
     go_loopw [79] (fun i wi => ∃ (c : Nat) (us' : Nat → Value) (Z' : List ZP), c ≤ M ∧ i = .int .i64 c ∧ NfI w1.heap.size W t ar N bs gd gt (looksT t ar.toNat k ++ looksR t.1 ar.toNat k t.2[k] c) ((insF t).take (k + 1)) us' vin6 Z' vs6 wi ∧ okN w1.heap.size N us' vin6 wv.heap.size ∧ wi.cell? ⟨wv.heap.size, 0, none⟩ = some (.int .i64 (t.2[k]).1) ∧ wi.cell? ⟨wv.heap.size, 1, none⟩ = some (.slice ua n uc) ∧ wv.heap.size < wi.heap.size) (fun i _ => M - (intOf i).toNat)
     case atStart => exact ⟨0, us, Z, Nat.zero_le _, rfl, by rw [looksR_zero, List.append_nil]; exact HN6.out, HOKR.out, q0, q1, hrb6⟩
     case round =>
      obtain ⟨c, us', Z', hc, rfl, hNI, hokr, q0, q1, hrbw⟩ := hrel
      have HNC3 := Lib.hid hNI
      have HOK3 := Lib.hid hokr
      have hbW3 := hNI.2.2.2.2.1
      have hz3 := hNI.2.2.2.2.2
      have hbw3 : Below w.heap.size w wr := bthen hbW hbW3
      have z0 := (cellB hbW3 hzW).trans HT0
      have hzw3 := hbW3.size
      have hz0l : w.heap.size < wr.heap.size := by omega
      clear hNI hokr HN6 HOKR
      by_cases hcl : c < M
      ·have hn1 : 1 ≤ n := by
        rcases Nat.eq_zero_or_pos n with h | h
        ·have h2 := HMN.out
         unfold powN at h2
         rw [h, Nat.zero_pow (by omega)] at h2
         omega
        ·exact h
       obtain ⟨wi, rfl⟩ : ∃ wi : World, wi = wr := ⟨_, rfl⟩
       have hcl' : (c : Int) < (M : Int) := by omega
       go_wp2_with fail
       generalize hWo : World.alloc wi _ = wo
       have hbo : Below wi.heap.size wi wo := hWo ▸ bA
       have hso : wi.heap.size + 1 ≤ wo.heap.size := by rw [← hWo]; simp
       have o0 : wo.cell? ⟨wi.heap.size, 0, none⟩ = some (.int .i64 (k : Int)) := by rw [← hWo]; simp [go_sem]
       have o1 : wo.cell? ⟨wi.heap.size, 1, none⟩ = some (.slice none 0 0) := by rw [← hWo]; simp [go_sem]
       have om : wo.frozen? ⟨wi.heap.size, 1, none⟩ = false := by rw [← hWo]; simp [go_sem]
       have r0p := q0
       have r1p := q1
       have z0p := z0
       replace q0 := (cellB hbo (by omega)).trans q0
       replace q1 := (cellB hbo (by omega)).trans q1
       replace z0 := (cellB hbo (by omega)).trans z0
       clear hWo
       have hlist := listOf_any wo (n : Int) (c : Int) ar.toNat (by omega) (by omega) (by omega) (by omega) (by omega)
       rw [show ((ar.toNat : Nat) : Int) = ar by omega] at hlist
       refine hlist.mono ?_
       rintro e wl ⟨ul, rfl, hfl, hbl⟩
       obtain ⟨la, lc, rfl⟩ := fr_slice hfl
       obtain ⟨_, _, hle, -, -, hlc⟩ := ints_ex hfl.rd
       simp only [List.cons.injEq, Value.slice.injEq, and_true, true_and] at hle
       obtain ⟨rfl, rfl⟩ := hle
       have HLC := Lib.hid hlc
       have hzl := hbl.size
       replace q0 := (cellB hbl (by omega)).trans q0
       replace q1 := (cellB hbl (by omega)).trans q1
       replace z0 := (cellB hbl (by omega)).trans z0
       replace o0 := (cellB hbl (by omega)).trans o0
       replace o1 := (cellB hbl (by omega)).trans o1
       replace om := (frozenB hbl (by omega)).trans om
       have hbil := bthen hbo hbl
       have HDL := Lib.hid (digL_len (s := (n : Int)) (idx := (c : Int)) (n := ar.toNat))
       have hdl5 : (digL (n : Int) (c : Int) ar.toNat).length ≤ 3 := by rw [digL_len]; omega
       have hlb := fun o b (e : la = some ⟨b, o, none⟩) => fr_blk (b := b) (o := o) (e ▸ hfl) (by rw [digL_len]; omega)
       have HLB := Lib.hid hlb
       obtain ⟨a8, o8, rfl, haa, hce⟩ := HUC.out (by have := HNC.out; omega)
       have HCE := Lib.hid hce
       have HTU := Lib.hid (picks_tups (ar := ar.toNat) (i := (c : Int)) HR.out (by have := HNC.out; omega))
       clear hfl hlc hlist hlb hce
       go_wp2_with fail
       have p0' := r0p
       have p1' := r1p
       have pz' := z0p
       clear q0 q1 z0
       go_loopw [90] (fun i wp => ∃ (p : Nat) (vc : Value), p ≤ (t.2[k]).1.toNat ∧ i = .int .i64 p ∧ Bl Ty.int 2 wl.heap.size wp.heap.size wp vc ((cellsL t.1 ar.toNat t.2[k] c).take p) ∧ wp.cell? ⟨wi.heap.size, 0, none⟩ = some (.int .i64 (k : Int)) ∧ wp.cell? ⟨wi.heap.size, 1, none⟩ = some vc ∧ wp.frozen? ⟨wi.heap.size, 1, none⟩ = false ∧ TchP (fun q => q = wi.heap.size) wl wp) (fun i _ => (t.2[k]).1.toNat - (intOf i).toNat)
       case atStart => exact ⟨0, _, Nat.zero_le _, rfl, by rw [cellsL_zero]; exact Bl.nil, o0, o1, om, TchP.refl _ _⟩
       case round =>
        obtain ⟨p, vc, hp, rfl, hBl, o0, o1, om, htp⟩ := hrel
        have HBL := Lib.hid hBl
        have HTP := Lib.hid htp
        have hzp := htp.size
        have hbip : Below wi.heap.size wi wr := hbil.trans (htp.below (B := wi.heap.size) (by omega) (fun q hq e => by omega))
        clear hBl htp
        have hobl : wi.heap.size < wr.heap.size := by omega
        have hrbl : wv.heap.size < wi.heap.size := hrbw
        have q0 := (cellB hbip hrbl).trans (show wi.cell? ⟨wv.heap.size, 0, none⟩ = _ from p0')
        have q1 := (cellB hbip hrbl).trans (show wi.cell? ⟨wv.heap.size, 1, none⟩ = _ from p1')
        have z0 := (cellB hbip (show w.heap.size < wi.heap.size by omega)).trans pz'
        have hbwp := bthen hbw3 hbip
        obtain ⟨wp, rfl⟩ : ∃ wp : World, wp = wr := ⟨_, rfl⟩
        by_cases hpl : p < (t.2[k]).1.toNat
        ·have hpI : (p : Int) < (t.2[k]).1 := by omega
         have hPL : Hid (digL (n : Int) (c : Int) ar.toNat = digL (n : Int) (c : Int) ar.toNat) := rfl
         go_wp2_with fail
         go_loopw [95, 16] (fun i v wq => ∃ q : Nat, q ≤ (digL (n : Int) (c : Int) ar.toNat).length ∧ i = .int .i64 q ∧ v = .int .i64 (idxL t.1 0 ((colL (picks (t.2[k]).2 ar.toNat (c : Int)) p).take q)) ∧ Quiet wp wq) (fun i _ _ => (digL (n : Int) (c : Int) ar.toNat).length - (intOf i).toNat)
         case atStart => exact ⟨0, Nat.zero_le _, rfl, by simp [idxL], Quiet.refl _⟩
         case round =>
          obtain ⟨q, hq, rfl, rfl, hqi⟩ := hrel
          have hbq := hqi.below
          have hzq := hbq.size
          replace q0 := (cellB hbq (by omega)).trans q0
          replace q1 := (cellB hbq (by omega)).trans q1
          replace z0 := (cellB hbq (by omega)).trans z0
          replace o0 := (cellB hbq (by omega)).trans o0
          replace o1 := (cellB hbq (by omega)).trans o1
          replace om := (frozenB hbq (by omega)).trans om
          have hbwq := bthen hbwp hbq
          by_cases hql : q < (digL (n : Int) (c : Int) ar.toNat).length
          ·obtain ⟨b7, o7, rfl, hb7, hc7⟩ := HLC.out (by omega)
           have e7 := (hc7 q hql).2
           have hb7o := HLB.out _ _ rfl
           obtain ⟨dn, hdn⟩ : ∃ dn : Nat, (digL (n : Int) (c : Int) ar.toNat)[q] = (dn : Int) := ⟨((digL (n : Int) (c : Int) ar.toNat)[q]).toNat, by have := dig_mem (n := (n : Int)) (by omega) (List.getElem_mem hql); omega⟩
           have hdn2 := dig_mem (n := (n : Int)) (by omega) (List.getElem_mem hql)
           rw [hdn] at e7 hdn2
           have hdnn : dn < n := by omega
           have hdnl : dn < (t.2[k]).2.length := by have := HNC.out; omega
           obtain ⟨ud, hud, hcd⟩ := HCE.out dn hdnl
           have hdr := (HR.out.2.2 dn hdnl).1
           have hpd : p < ((t.2[k]).2[dn]).length := by have := hdr.1; omega
           obtain ⟨da, dc, hde, -, -, hdc⟩ := ints_ex hud
           obtain rfl : ud = _ := by simpa using hde
           obtain ⟨b9, o9, rfl, hb9, hc9⟩ := hdc (by omega)
           have e9 := (hc9 p hpd).2
           have f7 := (cellB hbq (show b7 < wp.heap.size by omega)).trans ((HTP.out.cell hb7 (show ¬ (b7 = wi.heap.size) by omega)).trans e7)
           have f8 := (cellB hbwq haa).trans hcd
           have f9 := (cellB hbwq hb9).trans e9
           have hqc : q < (colL (picks (t.2[k]).2 ar.toNat (c : Int)) p).length := by rw [colL_len, picks_len]; rw [HDL.out] at hql; exact hql
           have HAI := Lib.hid (colL_in HTU.out hpl)
           have b0 := idx_bd (s := t.1) (by omega) HAI.out q (by omega)
           have b1 := idx_bd (s := t.1) (by omega) HAI.out (q + 1) (by omega)
           have p0 := pow_le (s := t.1) (by omega) (by omega) (k := q + 1) (by omega)
           have ha := HAI.out _ (List.getElem_mem hqc)
           have hr := idxL_take (s := t.1) hqc
           rw [col_at HNC.out hql hdn hdnl hpd hqc] at ha hr
           have HQ : -1000000000000000000 ≤ idxL t.1 0 ((colL (picks (t.2[k]).2 ar.toNat (c : Int)) p).take q) * t.1 ∧ idxL t.1 0 ((colL (picks (t.2[k]).2 ar.toNat (c : Int)) p).take q) * t.1 ≤ 1000000000000000000 := by
            have hq := Int.mul_nonneg b0.1 (show (0 : Int) ≤ t.1 by omega)
            rw [hr] at b1
            generalize t.1 ^ (q + 1) = P at *
            generalize idxL t.1 0 ((colL (picks (t.2[k]).2 ar.toNat (c : Int)) p).take q) * t.1 = Q at *
            omega
           have hw1 : IntKind.i64.wrap (idxL t.1 0 ((colL (picks (t.2[k]).2 ar.toNat (c : Int)) p).take q) * t.1) = idxL t.1 0 ((colL (picks (t.2[k]).2 ar.toNat (c : Int)) p).take q) * t.1 := wrap_small HQ.1 HQ.2
           have hw2 : IntKind.i64.wrap (idxL t.1 0 ((colL (picks (t.2[k]).2 ar.toNat (c : Int)) p).take q) * t.1 + ((t.2[k]).2[dn])[p]) = idxL t.1 0 ((colL (picks (t.2[k]).2 ar.toNat (c : Int)) p).take q) * t.1 + ((t.2[k]).2[dn])[p] := wrap_small (by omega) (by omega)
           have HRR := Lib.hid hr
           clear b0 b1 p0 ha hr HQ hdn hc7 hcd hdr hdc hc9 hud hde
           go_wp2_with fail
           go_quiet (fail)
           go_wp2_with fail
           clear hw1 hw2
           go_roundw
           case rel => exact ⟨q + 1, by omega, by go_num, by rw [HRR.out], hqi.then (Quiet.drewN _ _)⟩
           case measure => simp [intOf]; omega
          ·obtain rfl : q = (digL (n : Int) (c : Int) ar.toNat).length := by omega
           have hcl2 : (digL (n : Int) (c : Int) ar.toNat).length = (colL (picks (t.2[k]).2 ar.toNat (c : Int)) p).length := by rw [colL_len, picks_len, HDL.out]
           rw [show (colL (picks (t.2[k]).2 ar.toNat (c : Int)) p).take (digL (n : Int) (c : Int) ar.toNat).length = colL (picks (t.2[k]).2 ar.toNat (c : Int)) p by rw [hcl2, List.take_length]]
           have hix := idx_lt (s := t.1) (by omega) (xs := colL (picks (t.2[k]).2 ar.toNat (c : Int)) p) (m := ar.toNat) (by rw [colL_len, picks_len]) (colL_in HTU.out hpl)
           rw [HNN.out] at hix
           have hI : I64 (idxL t.1 0 (colL (picks (t.2[k]).2 ar.toNat (c : Int)) p)) := I64.small (by omega) (by omega)
           have HCG := Lib.hid (cells_get (s := t.1) (ar := ar.toNat) (r := t.2[k]) (i := (c : Int)) hpl)
           have HBLq := Lib.hid ((HBL.out.below hbq (Nat.le_refl _)).mono hbq.size)
           obtain ⟨va5, vn5, vc5, rfl⟩ := ex_slice (HBLq.out.fr (by rw [List.length_take, cells_len]; unfold capMax; omega))
           have hlv : ((cellsL t.1 ar.toNat t.2[k] (c : Int)).take p).length ≤ 4 := by rw [List.length_take, cells_len]; omega
           have HVO : Hid ((Value.slice va5 vn5 vc5).ownBlock ≠ some wi.heap.size) := fun e => by have := HBLq.out.ge e; omega
           have hobq : wi.heap.size < wr.heap.size := by omega
           clear hcl2 hix
           obtain ⟨wq, rfl⟩ : ∃ wq : World, wq = wr := ⟨_, rfl⟩
           go_upto_region 28 with (at_builtin; go_loud (refine wpList_push (E := Ty.int) _ rfl _ _ 38 2 rfl elInt rfl (HBLq.out.below bA (Nat.le_refl _)) rfl news1 (fr_int hI) (by omega) (by decide) (by omega) (by first | (simp; done) | (simp; omega)) ?_; intro v5 w5 hB5 hg5 hown; obtain ⟨a5, n5, c5, rfl⟩ := ex_slice (hB5.fr (by rw [List.length_append]; unfold capMax; simp only [List.length_singleton]; omega)); have i1 := (grown_cell' (i := 1) hg5 (show wi.heap.size < _ by first | (simp; done) | (simp; omega)) HVO.out).trans ((cellB (bA (w := wq)) hobq).trans o1); have j1 := (World.frozen?_of_block (a := ⟨wi.heap.size, 1, none⟩) (hg5.block wi.heap.size (by first | (simp; done) | (simp; omega)) (fun e => HVO.out e.symm))).trans ((frozenB (bA (w := wq)) hobq).trans om); have i0 := (grown_cell' (i := 0) hg5 (show wi.heap.size < _ by first | (simp; done) | (simp; omega)) HVO.out).trans ((cellB (bA (w := wq)) hobq).trans o0)))
           have hbj : ∀ ob : Obj, Below wq.heap.size wq (wq.alloc ob) := fun _ => bA
           have hg6 : (wq.alloc (.cells #[.int .i64 (idxL t.1 0 (colL (picks (t.2[k]).2 ar.toNat (c : Int)) p))] 2)).grownBy w5 (Value.slice va5 vn5 vc5).ownBlock := hg5
           have hown6 : (Value.slice a5 n5 c5).ownBlock = (Value.slice va5 vn5 vc5).ownBlock ∨ (Value.slice a5 n5 c5).ownBlock = some (wq.alloc (.cells #[.int .i64 (idxL t.1 0 (colL (picks (t.2[k]).2 ar.toNat (c : Int)) p))] 2)).heap.size := hown
           have hV5 : (Value.slice a5 n5 c5).ownBlock ≠ some wi.heap.size := fun e => by
            rcases hown6 with h | h
            ·rw [h] at e; exact HVO.out e
            ·rw [h] at e; simp at e; omega
           rw [HCG.out] at hB5
           have ht5 : TchP (fun q => (Value.slice va5 vn5 vc5).ownBlock = some q) wq w5 := (TchP.of_below (hbj _) _).then (TchP.grown hg6 (fun q h => h)) (fun q _ h => h)
           have ht6 : TchP (fun q => q = wi.heap.size) wl (w5.setCell ⟨wi.heap.size, 1, none⟩ (.slice a5 n5 c5)) := ((HTP.out.then (TchP.of_below hbq (fun _ => False)) (fun q _ h => h.elim)).then ht5 (fun q hq h => by have := HBLq.out.ge h; omega)).then (TchP.set (O := fun q => q = wi.heap.size) rfl) (fun q _ h => h)
           have HB6 := Lib.hid (bl_int_same (w' := w5.setCell ⟨wi.heap.size, 1, none⟩ (.slice a5 n5 c5)) (top' := (w5.setCell ⟨wi.heap.size, 1, none⟩ (.slice a5 n5 c5)).heap.size) hB5 (fun b hb => Below.heap_setCell _ _ _ _ (fun e => hV5 (by rw [hb]; simp at e; rw [e]))) (by simp [World.setCell]))
           have k0 : (w5.setCell ⟨wi.heap.size, 1, none⟩ (.slice a5 n5 c5)).cell? ⟨wi.heap.size, 0, none⟩ = some (.int .i64 (k : Int)) := (World.cell?_setCell_other _ _ _ _ (by simp)).trans i0
           have k1 : (w5.setCell ⟨wi.heap.size, 1, none⟩ (.slice a5 n5 c5)).cell? ⟨wi.heap.size, 1, none⟩ = some (.slice a5 n5 c5) := World.cell?_setCell_same _ _ _ i1
           have km : (w5.setCell ⟨wi.heap.size, 1, none⟩ (.slice a5 n5 c5)).frozen? ⟨wi.heap.size, 1, none⟩ = false := (World.frozen?_setCell _ _ _ _).trans j1
           clear hB5 hg5 hown hg6 hown6 hV5 ht5 i0 i1 j1
           generalize w5.setCell ⟨wi.heap.size, 1, none⟩ (.slice a5 n5 c5) = w6' at *
           go_wp2_with fail
           go_roundw
           case rel => exact ⟨p + 1, .slice a5 n5 c5, by omega, by go_num, HB6.out, k0, k1, km, ht6⟩
           case measure => simp [intOf]; omega
        ·have hnp : ¬ (p : Int) < (t.2[k]).1 := by omega
         obtain ⟨C, hC⟩ : ∃ C, cellsL t.1 ar.toNat t.2[k] (c : Int) = C := ⟨_, rfl⟩
         have hCl : C.length = (t.2[k]).1.toNat := by rw [← hC, cells_len]
         have hC4 : 1 ≤ C.length ∧ C.length ≤ 4 := by omega
         have HCN : Hid (∀ x ∈ C, 0 ≤ x ∧ x < (N : Int)) := by unfold Hid; rw [← hC]; exact cells_in (by omega) HR.out (by have := HNC.out; omega) HNN.out
         have HBF : Hid (Bl Ty.int 2 wl.heap.size wp.heap.size wp vc C) := by
          have h1 := HBL.out
          rw [hC, List.take_of_length_le (by omega)] at h1
          exact h1
         obtain ⟨qa, qc, rfl⟩ := rd_slice (HBF.out.fr (by unfold capMax; omega)).rd
         have HQ := Lib.hid (HBF.out.fr (by unfold capMax; omega)).rd
         have HCNN : Hid (∀ x ∈ C, 0 ≤ x) := fun x hx => (HCN.out x hx).1
         obtain ⟨l, hl⟩ : ∃ l : Nat, topI C = l := ⟨(topI C).toNat, by have := topI_nn (xs := C); omega⟩
         have hlN : l < N := by
          have h0 : topI C ≤ (N : Int) - 1 := topI_le (by omega) (fun x hx => by have := HCN.out x hx; omega)
          omega
         have HL := Lib.hid hl
         have HCC := Lib.hid hC
         have HN7 := Lib.hid (HNC3.out.below hbip)
         have HFS := Lib.hid HN7.out.1
         have HFB := Lib.hid HN7.out.2.2.1
         have f3 := HFB.out.2.2.2.1
         have f4 := HFS.out.du.cell hlN
         have f5 := HFS.out.du.free l
         have hbsp := HFB.out.1
         have hgdp := HFS.out.lt
         have hgtp := lt_of_block HN7.out.2.2.2.1
         have hzl4 : Z'.length ≤ 4000 := by
          have h1 := congrArg List.length HNC3.out.2.1
          rw [List.length_map, List.length_append, looksR_len] at h1
          omega
         have hzf := zF_len (Z := Z') (v := l)
         obtain ⟨ua2, un2, uc2, hul⟩ := ex_slice ((HFS.out.du.2.2.1 l hlN).fr (by rw [List.length_map]; unfold capMax; omega))
         have HUL := Lib.hid hul
         rw [hul] at f4
         have HBl : Hid (Bl pvT 189 w1.heap.size wp.heap.size wp (.slice ua2 un2 uc2) ((zF Z' l).map (·.2))) := by unfold Hid; rw [← hul]; exact HFS.out.du.2.2.1 l hlN
         have hOL : ∀ q, (Value.slice ua2 un2 uc2).ownBlock = some q → w1.heap.size ≤ q ∧ q < wi.heap.size := fun q hq => ⟨HBl.out.ge hq, by rw [← hul] at hq; exact (HNC3.out.1.du.2.2.1 l hlN).lt_top hq⟩
         have HOL := Lib.hid hOL
         have hI : I64 (k : Int) := I64.small (by omega) (by omega)
         have hzp3 : w1.heap.size ≤ wp.heap.size := by omega
         have qq0 := q0
         have qq1 := q1
         clear hC hl hul hOL hCl q0 q1 z0 p0' p1' pz' r0p r1p z0p
         go_wp2_with fail
         refine (MaxI_any _ HQ.out hC4.1 HCNN.out).mono ?_
         rintro e _ ⟨rfl, rfl⟩
         rw [HL.out]
         go_wp2_with fail
         refine wp_region_T (fun w' => w'.cell? ⟨bs, 3, none⟩ = some (.slice (some ⟨gd, 0, none⟩) N N) ∧ w'.cell? ⟨gd, l, none⟩ = some (.slice ua2 un2 uc2) ∧ w'.cell? ⟨wi.heap.size, 0, none⟩ = some (.int .i64 (k : Int)) ∧ w'.cell? ⟨wi.heap.size, 1, none⟩ = some (.slice qa C.length qc)) [16] (by kernel_rfl) ⟨f3, f4, o0, o1⟩ (fun hHeld => ?_)
         refine wpAnyT_take (i := 0) (v := ?_) rfl (by kernel_rfl) (fun _ _ _ h => h) (Or.inl ⟨by rfl, ?_⟩) (by assumption) ?_
         rotate_left
         ·(intro w hSw; (try dsimp only at hSw); go_simp <;> with_reducible rfl)
         go_simp
         refine wpAnyT_take (i := 1) (v := ?_) rfl (by kernel_rfl) (fun _ _ _ h => h) (Or.inl ⟨by rfl, ?_⟩) (by assumption) ?_
         rotate_left
         ·(intro w hSw; (try dsimp only at hSw); go_simp <;> with_reducible rfl)
         go_simp
         refine wpAnyT_take (i := 2) (v := ?_) rfl (by kernel_rfl) (fun _ _ _ h => h) (Or.inl ⟨by rfl, ?_⟩) (by assumption) ?_
         rotate_left
         ·(intro w hSw; (try dsimp only at hSw); go_simp <;> with_reducible rfl)
         go_simp
         refine wpAnyT_take (i := 3) (v := ?_) rfl (by kernel_rfl) (fun _ _ _ h => h) (Or.inl ⟨by rfl, ?_⟩) (by assumption) ?_
         rotate_left
         ·(intro w hSw; (try dsimp only at hSw); go_simp <;> with_reducible rfl)
         go_simp
         refine wpAnyT_take (i := 4) (v := ?_) rfl (by kernel_rfl) (fun _ _ _ h => h) (Or.inl ⟨by rfl, ?_⟩) (by assumption) ?_
         rotate_left
         ·(intro w hSw; (try dsimp only at hSw); go_simp <;> with_reducible rfl)
         go_simp
         refine wpAnyT_take (i := 5) (v := ?_) rfl (by kernel_rfl) (fun _ _ _ h => h) (Or.inl ⟨by rfl, ?_⟩) (by assumption) ?_
         rotate_left
         ·(intro w hSw; (try dsimp only at hSw); go_simp <;> with_reducible rfl)
         go_simp
         refine wpAnyT_take (i := 6) (v := ?_) rfl (by kernel_rfl) (fun _ _ _ h => h) (Or.inl ⟨by rfl, ?_⟩) (by assumption) ?_
         rotate_left
         ·(intro w hSw; (try dsimp only at hSw); go_simp <;> with_reducible rfl)
         go_simp
         refine wpAnyT_take (i := 7) (v := ?_) rfl (by kernel_rfl) (fun _ _ _ h => h) (Or.inl ⟨by rfl, ?_⟩) (by assumption) ?_
         rotate_left
         ·(intro w hSw; (try dsimp only at hSw); go_simp <;> with_reducible rfl)
         go_simp
         refine wpAnyT_take (i := 8) (v := ?_) rfl (by kernel_rfl) (fun _ _ _ h => h) (Or.inl ⟨by rfl, ?_⟩) (by assumption) ?_
         rotate_left
         ·(intro w hSw; (try dsimp only at hSw); go_simp <;> with_reducible rfl)
         go_simp
         refine wpAnyT_take (i := 9) (v := ?_) rfl (by kernel_rfl) (fun _ _ _ h => h) (Or.inl ⟨by rfl, ?_⟩) (by assumption) ?_
         rotate_left
         ·(intro w hSw; (try dsimp only at hSw); go_simp <;> with_reducible rfl)
         go_simp
         refine wpAnyT_take (i := 10) (v := ?_) rfl (by kernel_rfl) (fun _ _ _ h => h) (Or.inl ⟨by rfl, ?_⟩) (by assumption) ?_
         rotate_left
         ·(intro w hSw; (try dsimp only at hSw); go_simp <;> with_reducible rfl)
         go_simp
         refine wpAnyT_take (i := 11) (v := ?_) rfl (by kernel_rfl) (fun _ _ _ h => h) (Or.inl ⟨by rfl, ?_⟩) (by assumption) ?_
         rotate_left
         ·(intro w hSw; (try dsimp only at hSw); go_simp <;> with_reducible rfl)
         go_simp
         refine wpAnyT_take (i := 12) (v := ?_) rfl (by kernel_rfl) (fun _ _ _ h => h) (Or.inl ⟨by rfl, ?_⟩) (by assumption) ?_
         rotate_left
         ·(intro w hSw; (try dsimp only at hSw); go_simp <;> with_reducible rfl)
         go_simp
         refine wpAnyT_one (i := 13) rfl (by kernel_rfl) (fun K hK => ?_)
         go_simp
         refine hK.out _ _ ⟨by go_keep, by go_keep, by go_keep, by go_keep⟩ (fun hHeld => ?_)
         clear hK K
         refine wpAnyT_one (i := 14) rfl (by kernel_rfl) (fun K hK => ?_)
         have hbX : ∀ o : Obj, Below wp.heap.size wp (wp.drew.alloc o) := fun o => (Below.refl _ wp).drew.alloc (by simp) o
         refine step_push (E := pvT) _ rfl _ _ 190 189 rfl elLook rfl (HBl.out.below (hbX _) (Nat.le_refl _)) rfl news2 (fr_pv (x := .slice qa C.length qc) hI rfl) (by rw [List.length_map]; omega) (by decide) (by omega) (by first | (simp; done) | (simp; omega)) ?_
         intro v5 w5 hB5 hg5 hown
         obtain ⟨a5, n5, c5, rfl⟩ := ex_slice (hB5.fr (by rw [List.length_append, List.length_map]; unfold capMax; simp only [List.length_singleton]; omega))
         have hg6 : ((wp.alloc (.cells #[.int .i64 (k : Int), .slice qa C.length qc] 189)).drew).grownBy w5 (Value.slice ua2 un2 uc2).ownBlock := hg5
         have hown6 : (Value.slice a5 n5 c5).ownBlock = (Value.slice ua2 un2 uc2).ownBlock ∨ (Value.slice a5 n5 c5).ownBlock = some ((wp.alloc (.cells #[.int .i64 (k : Int), .slice qa C.length qc] 189)).drew).heap.size := hown
         have hbX2 : Below wp.heap.size wp ((wp.alloc (.cells #[.int .i64 (k : Int), .slice qa C.length qc] 189)).drew) := hbX _
         clear hg5 hown
         generalize hWX : (wp.alloc (.cells #[.int .i64 (k : Int), .slice qa C.length qc] 189)).drew = wx at hg6 hown6 hbX2
         have hxs := hbX2.size
         have HZ : Hid (pvR (okN w1.heap.size N us' vin6) wx (((k : Int), C), ((k : Int), .slice qa C.length qc))) := by
          refine ⟨rfl, hI, ?_⟩
          obtain ⟨fp, h1, h2, h3, h4⟩ := HBF.out.fr (by unfold capMax; omega)
          exact Ty.RdP.below ⟨fp, h1, fun q hq => ⟨by have := h3 q hq; omega, fun v hv e => by have := h3 q hq; have := (HNC3.out.1.du.2.2.1 v hv).lt_top e; omega, fun e => by have := h3 q hq; have := HNC3.out.1.vi.lt_top e; omega⟩⟩ hbX2
         have HD5 := Lib.hid (FinS.pushDue (z := (((k : Int), C), ((k : Int), .slice qa C.length qc))) (HFS.out.below hzp3 hbX2) (by omega) hlN HL.out hB5 (by rw [HUL.out]; exact hg6) (by rw [HUL.out]; exact hown6) HZ.out)
         have ht5 : TchP (fun q => (Value.slice ua2 un2 uc2).ownBlock = some q) wp w5 := (TchP.of_below hbX2 _).then (TchP.grown hg6 (fun q h => h)) (fun q _ h => h)
         have ht6 : TchP (fun q => q = gd ∨ (Value.slice ua2 un2 uc2).ownBlock = some q) wp (w5.setCell ⟨gd, l, none⟩ (.slice a5 n5 c5)) := (ht5.mono (fun q _ h => .inr h)).then (TchP.set (O := fun q => q = gd) rfl) (fun q _ h => .inl h)
         have hnO : ∀ q, (q < w1.heap.size ∨ wi.heap.size ≤ q) → (Value.slice ua2 un2 uc2).ownBlock ≠ some q := fun q hq e => by have := HOL.out q e; omega
         have i3 := (ht5.cell (i := 3) hbsp (hnO bs (by omega))).trans f3
         have i4 := (ht5.cell (i := l) hgdp (hnO gd (by omega))).trans f4
         have i5 := (ht5.frozen (i := l) hgdp (hnO gd (by omega))).trans f5
         have j0 := (ht5.cell (i := 0) hobl (hnO _ (by omega))).trans o0
         have j1 := (ht5.cell (i := 1) hobl (hnO _ (by omega))).trans o1
         have HNN7 : Hid (NfI w1.heap.size W t ar N bs gd gt (looksT t ar.toNat k ++ looksR t.1 ar.toNat k t.2[k] (c + 1)) ((insF t).take (k + 1)) (fun v => if v = l then .slice a5 n5 c5 else us' v) vin6 (Z' ++ [(((k : Int), C), ((k : Int), .slice qa C.length qc))]) vs6 (w5.setCell ⟨gd, l, none⟩ (.slice a5 n5 c5))) := by
          have hnn : ∀ q, q ≠ gd → (q < w1.heap.size ∨ wi.heap.size ≤ q) → ¬ (q = gd ∨ (Value.slice ua2 un2 uc2).ownBlock = some q) := fun q h1 h2 h => by
           rcases h with h | h
           ·exact h1 h
           ·exact hnO q h2 h
          refine ⟨HD5.out, ?_, HFB.out.same (ht6.block bs hbsp (hnn bs hne1 (by omega))) ht6.size, (ht6.block gt hgtp (hnn gt hne3 (by omega))).trans HN7.out.2.2.2.1, HN7.out.2.2.2.2.1.trans (ht6.below (by have := HN7.out.2.2.2.2.1.size; omega) (fun q hq h => by
           rcases h with h | h
           ·omega
           ·have := HOL.out q h; omega)), by have := ht6.size; omega⟩
          rw [List.map_append, HN7.out.2.1, looksR_succ, ← List.append_assoc, HCC.out]
          rfl
         have HOK7 : Hid (okN w1.heap.size N (fun v => if v = l then .slice a5 n5 c5 else us' v) vin6 wv.heap.size) := ⟨HOK3.out.1, fun v hv e => by
          by_cases e' : v = l
          ·simp only [if_pos e'] at e
           rcases hown6 with h | h
           ·rw [h, ← HUL.out] at e; exact HOK3.out.2.1 l hlN e
           ·rw [h] at e; simp at e; omega
          ·simp only [if_neg e'] at e
           exact HOK3.out.2.1 v hv e, HOK3.out.2.2⟩
         have hnrb : ¬ (wv.heap.size = gd ∨ (Value.slice ua2 un2 uc2).ownBlock = some wv.heap.size) := fun h => by
          rcases h with h | h
          ·omega
          ·rw [← HUL.out] at h; exact HOK3.out.2.1 l hlN h
         have q0 := (ht6.cell (i := 0) (show wv.heap.size < wp.heap.size by omega) hnrb).trans qq0
         have q1 := (ht6.cell (i := 1) (show wv.heap.size < wp.heap.size by omega) hnrb).trans qq1
         have hz7 := ht6.size
         clear hB5 hg6 hown6 hWX HZ HD5 ht5 hnO HFS HFB hnrb qq0 qq1
         refine hK.out _ _ ⟨i3, i4, j0, j1⟩ (fun hHeld => ?_)
         clear hK K
         refine wpAnyT_take (i := 15) (v := ?_) rfl (by kernel_rfl) (fun _ _ _ h => h) (Or.inl ⟨by rfl, ?_⟩) (by assumption) ?_
         rotate_left
         ·(intro w hSw; (try dsimp only at hSw); go_simp <;> with_reducible rfl)
         go_simp
         refine wpAnyT_last (i := 16) rfl (by kernel_rfl) (by kernel_rfl) (fun K hK => ?_)
         go_simp
         refine hK.out _ _ ?_
         clear hK K
         refine wpAnyT_done (by kernel_rfl) ?_ _
         go_simp
         clear i3 i4 i5 j0 j1 hHeld ht6
         generalize w5.setCell ⟨gd, l, none⟩ (.slice a5 n5 c5) = w7 at *
         go_wp2_with fail
         go_roundw
         case rel => exact ⟨c + 1, _, _, by omega, by go_num, HNN7.out, HOK7.out, q0, q1, by omega⟩
         case measure => simp [intOf]; omega
      ·obtain rfl : c = M := by omega
       have HLS : Hid (looksT t ar.toNat k ++ looksR t.1 ar.toNat k t.2[k] c = looksT t ar.toNat (k + 1)) := by
        unfold Hid
        rw [looksT_succ, relAt_nat hkl, HNC.out, HMN.out]
       have HFIN : Hid (NfI w1.heap.size W t ar N bs gd gt (looksT t ar.toNat (k + 1)) ((insF t).take (k + 1)) us' vin6 Z' vs6 wr) := by
        unfold Hid
        rw [← HLS.out]
        exact HNC3.out
       go_wp2_with fail
       go_roundw
       case rel => exact ⟨k + 1, us', vin6, Z', vs6, by omega, by go_num, HFIN.out⟩
       case measure => simp [intOf]; omega
  ·obtain rfl : k = t.2.length := by omega
   have HEND : Hid (NfR w t ar N (.returned (.pointer (some ⟨bs, 0, none⟩))) wr) := by
    obtain ⟨h1, h2, h3, h4, h5, h6⟩ := HNI.out
    rw [List.take_of_length_le (by rw [insF_len]; exact Nat.le_refl _)] at h1
    have hZl : Z.length ≤ 4000 := by
     have := congrArg List.length h2
     rw [List.length_map] at this
     rw [this]
     exact looksT_le HLM.out (Nat.le_refl _)
    have hvl : vs.length ≤ 6 := by rw [h1.bl, insF_len]; exact hrl
    have hok : ∀ q, (q = gd ∨ w1.heap.size ≤ q) → w.heap.size ≤ q ∧ q ≠ bs ∧ q ≠ gt := fun q hq => by
     rcases hq with rfl | hq
     ·exact ⟨by omega, Ne.symm hne1, Ne.symm hne3⟩
     ·exact ⟨by omega, by omega, by omega⟩
    have hd := h1.dues (by omega) (by omega)
    rw [h2] at hd
    exact ⟨bs, gd, gt, vin, rfl, by omega, by omega, hne2, h3, h4, hd.mono (fun q _ hq => hok q hq), (h1.sets rfl (by omega)).mono (fun q _ hq => hok q hq), bthen hbW h5⟩
   go_wp2_with fail
   go_ret
   exact HEND.out
end Go.Proofs.YtajmjfbejfiipaaGreat
namespace Go.Proofs.YtajmjfbejfiipaaGreat
open Go.RowKit Go.Sort
/-- what the reference's search only reads: at block br -/
def Ru (ok : Nat → Prop) (w : World) (br : Nat) (t : Tpl) (ar : Int) (due : List (List (Int × List Int))) (fx : List Int) : Prop :=
 br < w.heap.size ∧ ∃ tb tw v2 v3 v4, w.cell? ⟨br, 0, none⟩ = some (.pointer (some ⟨tb, tw, none⟩)) ∧ tb < w.heap.size ∧ ok tb ∧ w.cell? ⟨tb, tw, none⟩ = some (.int .i64 t.1) ∧ w.cell? ⟨br, 1, none⟩ = some (.int .i64 ar) ∧ w.cell? ⟨br, 2, none⟩ = some v2 ∧ w.cell? ⟨br, 3, none⟩ = some v3 ∧ w.cell? ⟨br, 4, none⟩ = some v4 ∧
  (Ty.slice Ty.setp).RdP ok w [v2] (insF t) ∧ duesT.RdP ok w [v3] due ∧ intsT.RdP ok w [v4] fx
section
variable {ok ok' : Nat → Prop} {w w' : World} {br : Nat} {t : Tpl} {ar : Int} {due : List (List (Int × List Int))} {fx : List Int}
theorem Ru.below (h : Ru ok w br t ar due fx) (hb : Below w.heap.size w w') : Ru ok w' br t ar due fx := by
 obtain ⟨h1, tb, tw, v2, v3, v4, c0, ht, hk, ct, c1, c2, c3, c4, h3, h4, h5⟩ := h
 exact ⟨Nat.lt_of_lt_of_le h1 hb.size, tb, tw, v2, v3, v4, (hb.cell (p := ⟨br, 0, none⟩) h1).trans c0, Nat.lt_of_lt_of_le ht hb.size, hk, (hb.cell (p := ⟨tb, tw, none⟩) ht).trans ct, (hb.cell (p := ⟨br, 1, none⟩) h1).trans c1, (hb.cell (p := ⟨br, 2, none⟩) h1).trans c2, (hb.cell (p := ⟨br, 3, none⟩) h1).trans c3, (hb.cell (p := ⟨br, 4, none⟩) h1).trans c4, h3.below hb, h4.below hb, h5.below hb⟩
theorem Ru.tchP {O : Nat → Prop} (h : Ru ok w br t ar due fx) (ht : TchP O w w') (hO : ∀ k, k < w.heap.size → ok k → ¬ O k) (hb : ¬ O br) : Ru ok w' br t ar due fx := by
 obtain ⟨h1, tb, tw, v2, v3, v4, c0, htb, hk, ct, c1, c2, c3, c4, h3, h4, h5⟩ := h
 exact ⟨Nat.lt_of_lt_of_le h1 ht.size, tb, tw, v2, v3, v4, (ht.cell h1 hb).trans c0, Nat.lt_of_lt_of_le htb ht.size, hk, (ht.cell htb (hO tb htb hk)).trans ct, (ht.cell h1 hb).trans c1, (ht.cell h1 hb).trans c2, (ht.cell h1 hb).trans c3, (ht.cell h1 hb).trans c4, h3.tchP ht hO, h4.tchP ht hO, h5.tchP ht hO⟩
theorem Ru.set {i : Nat} {u : Value} (h : Ru ok w br t ar due fx) (hi : 5 ≤ i) (hO : ¬ ok br) : Ru ok (w.setCell ⟨br, i, none⟩ u) br t ar due fx := by
 obtain ⟨h1, tb, tw, v2, v3, v4, c0, htb, hk, ct, c1, c2, c3, c4, h3, h4, h5⟩ := h
 have hs : TchP (fun k => k = br) w (w.setCell ⟨br, i, none⟩ u) := TchP.set rfl
 have hkk : ∀ k, k < w.heap.size → ok k → ¬ (k = br) := fun k _ hk e => hO (e ▸ hk)
 have hc : ∀ j, j < 5 → (w.setCell ⟨br, i, none⟩ u).cell? ⟨br, j, none⟩ = w.cell? ⟨br, j, none⟩ := fun j hj => World.cell?_setCell_other _ _ _ _ (by first | (simp; done) | (simp; omega))
 exact ⟨by simpa [World.setCell] using h1, tb, tw, v2, v3, v4, (hc 0 (by omega)).trans c0, by simpa [World.setCell] using htb, hk, (hs.cell htb (hkk tb htb hk)).trans ct, (hc 1 (by omega)).trans c1, (hc 2 (by omega)).trans c2, (hc 3 (by omega)).trans c3, (hc 4 (by omega)).trans c4, h3.tchP hs hkk, h4.tchP hs hkk, h5.tchP hs hkk⟩
end
theorem other_1 {s i : Nat} {fx : List Int} {cur : Int} (h : decide (0 ≤ fx.getD i 0) = true) (h' : decide (cur < 0) = true) : otherV s fx i cur = fx.getD i 0 := by unfold otherV; rw [h, h']
theorem other_2 {s i : Nat} {fx : List Int} {cur : Int} (h : decide (0 ≤ fx.getD i 0) = true) (h' : decide (cur < 0) = false) : otherV s fx i cur = -1 := by unfold otherV; rw [h, h']
theorem other_3 {s i : Nat} {fx : List Int} {cur : Int} (h : decide (0 ≤ fx.getD i 0) = false) (h' : decide (cur + 1 < (s : Int)) = true) : otherV s fx i cur = cur + 1 := by unfold otherV; rw [h, h']
theorem other_4 {s i : Nat} {fx : List Int} {cur : Int} (h : decide (0 ≤ fx.getD i 0) = false) (h' : decide (cur + 1 < (s : Int)) = false) : otherV s fx i cur = -1 := by unfold otherV; rw [h, h']
set_option maxHeartbeats 1600000 in
set_option maxRecDepth 100000 in
theorem other_any (w : World) {ok : Nat → Prop} {br : Nat} {t : Tpl} {ar : Int} {due : List (List (Int × List Int))} {fx T : List Int} (hR : Ru ok w br t ar due fx) {v : Value} (c5 : w.cell? ⟨br, 5, none⟩ = some v) (hv : intsT.Rd w [v] T) {s p : Nat} (hs : t.1 = s) (_ : s ≤ 4) (hp : p < T.length) (hp2 : p < fx.length) (hl : T.length ≤ 1000) (hT : -1 ≤ T[p] ∧ T[p] ≤ 4) :
  Calls Tryz.prog 231 #[.pointer (some ⟨br, 0, none⟩), .int .i64 (p : Int)] w fun e w' => e = .returned (.int .i64 (otherV s fx p T[p])) ∧ Quiet w w' := by
 obtain ⟨hbr, tb, tw, v2, v3, v4, c0, htb, -, ct, c1, c2, c3, c4, -, -, h5⟩ := hR
 obtain ⟨_, _, he, -, -, hc⟩ := ints_ex hv
 obtain rfl : v = _ := by simpa using he
 obtain ⟨b, o, rfl, hb, hc⟩ := hc (by omega)
 have d1 := (hc p hp).2
 obtain ⟨_, _, he2, -, -, hc2⟩ := ints_ex h5.rd
 obtain rfl : v4 = _ := by simpa using he2
 obtain ⟨b2, o2, rfl, hb2, hc2⟩ := hc2 (by omega)
 have d2 := (hc2 p hp2).2
 have hfx : fx.getD p 0 = fx[p] := by rw [List.getD_eq_getElem?_getD, List.getElem?_eq_getElem hp2]; rfl
 have H1 : Hid (decide (0 ≤ fx[p]) = true → decide (T[p] < 0) = true → otherV s fx p T[p] = fx[p]) := fun h h' => by rw [← hfx] at h ⊢; exact other_1 h h'
 have H2 : Hid (decide (0 ≤ fx[p]) = true → decide (T[p] < 0) = false → otherV s fx p T[p] = -1) := fun h h' => by rw [← hfx] at h; exact other_2 h h'
 have H3 : Hid (decide (0 ≤ fx[p]) = false → decide (T[p] + 1 < (s : Int)) = true → otherV s fx p T[p] = T[p] + 1) := fun h h' => by rw [← hfx] at h; exact other_3 h h'
 have H4 : Hid (decide (0 ≤ fx[p]) = false → decide (T[p] + 1 < (s : Int)) = false → otherV s fx p T[p] = -1) := fun h h' => by rw [← hfx] at h; exact other_4 h h'
 rw [hs] at ct
 generalize otherV s fx p T[p] = R at *
 generalize T[p] = x at *
 generalize fx[p] = y at *
 have hwr : IntKind.i64.wrap (x + 1) = x + 1 := wrap_small (by omega) (by omega)
 clear h5 hv he hc he2 hc2 hfx c1 c2 c3
 cases h1 : decide (0 ≤ y)
 ·cases h2 : decide (x + 1 < (s : Int))
  ·have HE := Lib.hid (H4.out h1 h2)
   go_enter Tryz.func231, Tryz.ntmps231
   go_wp2_with fail
   go_quiet (fail)
   go_wp2_with fail
   go_ret
   exact ⟨ret_int HE.out.symm, Quiet.drewN _ _⟩
  ·have HE := Lib.hid (H3.out h1 h2)
   go_enter Tryz.func231, Tryz.ntmps231
   go_wp2_with fail
   go_quiet (fail)
   go_wp2_with fail
   go_ret
   exact ⟨ret_int HE.out.symm, Quiet.drewN _ _⟩
 ·cases h2 : decide (x < 0)
  ·have HE := Lib.hid (H2.out h1 h2)
   go_enter Tryz.func231, Tryz.ntmps231
   go_wp2_with fail
   go_ret
   exact ⟨ret_int HE.out.symm, Quiet.refl _⟩
  ·have HE := Lib.hid (H1.out h1 h2)
   go_enter Tryz.func231, Tryz.ntmps231
   go_wp2_with fail
   go_ret
   exact ⟨ret_int HE.out.symm, Quiet.refl _⟩
theorem atL_pre {T ps : List Int} {k : Nat} (h : ∀ p ∈ ps, 0 ≤ p ∧ p < (k : Int)) : atL (T.take k) ps = atL T ps := by
 unfold atL
 refine List.map_congr_left fun p hp => ?_
 have := h p hp
 rw [List.getD_eq_getElem?_getD, List.getD_eq_getElem?_getD, List.getElem?_take_of_lt (by omega)]
set_option maxHeartbeats 3200000 in
set_option maxRecDepth 100000 in
theorem fits_any (w : World) {ok : Nat → Prop} {br : Nat} {t : Tpl} {ar : Int} {due : List (List (Int × List Int))} {fx T : List Int} (hR : Ru ok w br t ar due fx) {v : Value} (c5 : w.cell? ⟨br, 5, none⟩ = some v) (hv : intsT.Rd w [v] T) {p : Nat} (hT : tplOk t) (hD : ldueOk t due) (hp : p < T.length) (hpd : p < due.length) (_ : T.length ≤ 1000)
  (hin : ∀ a ∈ T.take (p + 1), 0 ≤ a ∧ a ≤ t.1 - 1) (h3 : ∀ d ∈ due, d.length ≤ 1000000) :
  Calls Tryz.prog 232 #[.pointer (some ⟨br, 0, none⟩), .int .i64 (p : Int)] w fun e w' => e = .returned (.bool (goesF t due (T.take (p + 1)))) ∧ Below w.heap.size w w' := by
 obtain ⟨hbr, tq, tw, v2, v3, v4, c0, htb, -, ct, c1, c2, c3, c4, hset, hd, -⟩ := hR
 have hvl : (T.take (p + 1)).length = p + 1 := by rw [List.length_take]; omega
 have HG := Lib.hid (goesF_at (t := t) hvl hpd)
 obtain ⟨da, dc, hdv, -, -, hdce⟩ := slices_ex hd.rd
 obtain rfl : v3 = _ := by simpa using hdv
 obtain ⟨g, go0, rfl, hg, hce⟩ := hdce (by omega)
 obtain ⟨u, hu, hcu⟩ := hce p hpd
 obtain ⟨_, _, hu1, -, -, hue⟩ := pairs_ex hu
 obtain rfl : u = _ := by simpa using hu1
 have HU := Lib.hid hue
 obtain ⟨va, vn, vc, rfl⟩ := rd_sl hv
 have HV := Lib.hid hv
 obtain ⟨ia, ic, hi1, -, -, hie⟩ := slice_exP hset
 obtain rfl : v2 = _ := by simpa using hi1
 have HI := Lib.hid hie
 have HT := Lib.hid hT
 have HD := Lib.hid (fun j (hj : j < due[p].length) => hD p hpd _ (List.getElem_mem hj))
 have HIN := Lib.hid hin
 have hs := hT.1
 unfold sizeOk at hs
 have hll := h3 _ (List.getElem_mem hpd)
 have HVL := Lib.hid hvl
 clear hd hdv hdce hce hu hv hT hD h3 hu1 hue hi1 hie hin hset c1 c4 hvl
 go_enter Tryz.func232, Tryz.ntmps232
 go_wp2_with fail
 go_loopw [5] (fun i wr => ∃ j : Nat, j ≤ due[p].length ∧ i = .int .i64 j ∧ noneB (fun a => !tb (holdsC t (T.take (p + 1)) a)) (due[p].take j) ∧ Below w.heap.size w wr) (fun i _ => due[p].length - (intOf i).toNat)
 case atStart => exact ⟨0, Nat.zero_le _, rfl, noneB_zero _ _, Below.refl _ _⟩
 case round =>
  obtain ⟨j, hj, rfl, hno, hbe⟩ := hrel
  have HN := Lib.hid hno
  have hze := hbe.size
  clear hno
  have k3 := (cellB hbe hbr).trans c3
  have ku := (cellB hbe hg).trans hcu
  by_cases hjl : j < due[p].length
  ·obtain ⟨q, po, rfl, hq, hce⟩ := HU.out (by omega)
   obtain ⟨u, hu, -, g0, g1⟩ := hce j hjl
   obtain ⟨lo, hle⟩ := HD.out j hjl
   obtain ⟨kr, ir, e1, hkr, e2, hir, e3⟩ := ins_at HT.out lo HIN.out (fun x hx => by have := hle x hx; have := HVL.out; omega)
   obtain ⟨ri, ro, rfl, hri, hrok, hrce⟩ := HI.out (by omega)
   obtain ⟨cs, hsp, hcr⟩ := hrce kr hkr
   obtain ⟨ux, rfl⟩ : ∃ ux, cs = [ux] := by
    obtain ⟨_, ⟨_, _, _, h, _⟩, _⟩ := hsp
    exact ⟨_, h⟩
   have hcr := hcr 0 (by simp)
   simp only [Ty.setp, Nat.mul_one, Nat.add_zero, List.getElem_cons_zero] at hcr
   obtain ⟨bx, vb, rfl, hbx, hcx, hbo⟩ := setp_exP hsp
   obtain ⟨_, hcap, rfl, -, hbce⟩ := bools_exP hbo
   obtain ⟨bi, bo, rfl, hbi, hbce⟩ := hbce (by omega)
   have hbc := hbce ir hir
   rw [e3] at hbc
   obtain ⟨ua, un, uc, rfl⟩ := rd_sl hu
   have HUR := Lib.hid hu
   have HLE := Lib.hid hle
   have HAP : Hid (atL T (due[p][j]).2 = atL (T.take (p + 1)) (due[p][j]).2) := (atL_pre (fun x hx => by have := hle x hx; omega)).symm
   have H2 := Lib.hid e2
   have hl4 : (due[p][j]).2.length ≤ 4 := by
    obtain ⟨k', -, hk', h4, -⟩ := lo
    have := (HT.out.2.2 _ (List.getElem_mem hk')).2.1
    unfold sizeOk at this
    omega
   have HAI := Lib.hid (atL_in HIN.out rfl (fun x hx => by have := hle x hx; have := HVL.out; omega) : ∀ a ∈ atL (T.take (p + 1)) (due[p][j]).2, 0 ≤ a ∧ a ≤ t.1 - 1)
   have HPT : Hid (∀ x ∈ (due[p][j]).2, 0 ≤ x ∧ x < (T.length : Int)) := fun x hx => by have := hle x hx; omega
   have k0 := (cellB hbe hbr).trans c0
   have kt := (cellB hbe htb).trans ct
   have k2 := (cellB hbe hbr).trans c2
   have k5 := (cellB hbe hbr).trans c5
   have d0 := (cellB hbe hq).trans g0
   have d1 := (cellB hbe hq).trans g1
   have d2 := (cellB hbe hri).trans hcr
   have d3 := (cellB hbe hbx).trans hcx
   have d4 := (cellB hbe hbi).trans hbc
   rw [e1] at d0
   have HRT := Lib.hid (HV.out.below hbe)
   have HRU := Lib.hid (HUR.out.below hbe)
   have hbirr : bi < wr.heap.size := by omega
   clear hce hu g0 g1 lo hle e1 e2 e3 hrce hsp hcr hcx hbo hbce hbc c0 ct c2 c3 c5 hcu
   obtain ⟨wv, rfl⟩ : ∃ wv : World, wv = wr := ⟨_, rfl⟩
   obtain ⟨B, hB⟩ : ∃ B, tb (holdsC t (T.take (p + 1)) due[p][j]) = B := ⟨_, rfl⟩
   have HB := Lib.hid hB
   rw [hB] at d4
   have y1 : br < wv.heap.size := by omega
   have y2 : q < wv.heap.size := by omega
   have y3 : ri < wv.heap.size := by omega
   have y4 : bx < wv.heap.size := by omega
   have y5 : tq < wv.heap.size := by omega
   clear hB
   go_wp2_with fail
   refine wp_region_loose [exV (.pointer (some ⟨br, 0, none⟩)), exV (.pointer (some ⟨br, 0, none⟩)), exV (.pointer (some ⟨br, 2, none⟩)), exV (.slice (some ⟨ri, ro, none⟩) (insF t).length ic), exV (.pointer (some ⟨q, po + j * 2, none⟩)), exV (.pointer (some ⟨q, po + j * 2, none⟩)), exV (.pointer (some ⟨q, po + j * 2, none⟩)), exV (.int .i64 (kr : Int)), exV (.pointer (some ⟨ri, ro + kr, none⟩)), exV (.pointer (some ⟨bx, 0, none⟩)), exV (.pointer (some ⟨bx, 0, none⟩)), exV (.pointer (some ⟨bx, 2, none⟩)), exV (.slice (some ⟨bi, bo, none⟩) ((insF t)[kr]).length hcap), exV (.pointer (some ⟨br, 0, none⟩)), exV (.pointer (some ⟨br, 0, none⟩)), exV (.pointer (some ⟨br, 0, none⟩)), exV (.pointer (some ⟨tq, tw, none⟩)), exV (.pointer (some ⟨tq, tw, none⟩)), exV (.pointer (some ⟨tq, tw, none⟩)), exV (.int .i64 t.1), exV (.pointer (some ⟨br, 0, none⟩)), exV (.pointer (some ⟨br, 0, none⟩)), exV (.pointer (some ⟨br, 5, none⟩)), exV (.slice va vn vc), exV (.pointer (some ⟨q, po + j * 2, none⟩)), exV (.pointer (some ⟨q, po + j * 2, none⟩)), exV (.pointer (some ⟨q, po + j * 2 + 1, none⟩)), exV (.slice ua un uc), rdS intsT (atL (T.take (p + 1)) (due[p][j]).2), exV (.int .i64 (ir : Int)), exV (.pointer (some ⟨bi, bo + ir, none⟩)), exV (.bool B), exV (.bool (!B))] (by kernel_rfl) (by kernel_rfl) ⟨st_exV, st_exV, st_exV, st_exV, st_exV, st_exV, st_exV, st_exV, st_exV, st_exV, st_exV, st_exV, st_exV, st_exV, st_exV, st_exV, st_exV, st_exV, st_exV, st_exV, st_exV, st_exV, st_exV, st_exV, st_exV, st_exV, st_exV, st_exV, st_rdS, st_exV, st_exV, st_exV, st_exV, trivial⟩ ⟨?j1_0, ?j1_1, ?j1_2, ?j1_3, ?j1_4, ?j1_5, ?j1_6, ?j1_7, ?j1_8, ?j1_9, ?j1_10, ?j1_11, ?j1_12, ?j1_13, ?j1_14, ?j1_15, ?j1_16, ?j1_17, ?j1_18, ?j1_19, ?j1_20, ?j1_21, ?j1_22, ?j1_23, ?j1_24, ?j1_25, ?j1_26, ?j1_27, ?j1_28, ?j1_29, ?j1_30, ?j1_31, ?j1_32, trivial⟩ ?hQ1
   case j1_0 =>
    intro a' w' hb hd
    have e0 : a'.tmps[0]?.getD undef = .pointer (some ⟨br, 0, none⟩) := ev (slot_o hd 0 rfl rfl)
    go_simp
    exact ⟨Below.refl _ _, rfl⟩
   case j1_1 =>
    intro a' w' hb hd
    have e28 : a'.tmps[28]?.getD undef = .pointer (some ⟨br, 0, none⟩) := ev (slot_w hd 28 (exV (.pointer (some ⟨br, 0, none⟩))) rfl rfl)
    go_simp
    exact ⟨Below.refl _ _, rfl⟩
   case j1_2 =>
    intro a' w' hb hd
    have e29 : a'.tmps[29]?.getD undef = .pointer (some ⟨br, 0, none⟩) := ev (slot_w hd 29 (exV (.pointer (some ⟨br, 0, none⟩))) rfl rfl)
    go_simp
    exact ⟨Below.refl _ _, rfl⟩
   case j1_3 =>
    intro a' w' hb hd
    have e30 : a'.tmps[30]?.getD undef = .pointer (some ⟨br, 2, none⟩) := ev (slot_w hd 30 (exV (.pointer (some ⟨br, 2, none⟩))) rfl rfl)
    have qq : ∀ b o, b < wv.heap.size → w'.cell? ⟨b, o, none⟩ = wv.cell? ⟨b, o, none⟩ := (bcell hb).1
    go_simp
    exact ⟨Below.refl _ _, rfl⟩
   case j1_4 =>
    intro a' w' hb hd
    have e6 : a'.tmps[6]?.getD undef = .pointer (some ⟨q, po + j * 2, none⟩) := ev (slot_o hd 6 rfl rfl)
    go_simp
    exact ⟨Below.refl _ _, rfl⟩
   case j1_5 =>
    intro a' w' hb hd
    have e32 : a'.tmps[32]?.getD undef = .pointer (some ⟨q, po + j * 2, none⟩) := ev (slot_w hd 32 (exV (.pointer (some ⟨q, po + j * 2, none⟩))) rfl rfl)
    go_simp
    exact ⟨Below.refl _ _, rfl⟩
   case j1_6 =>
    intro a' w' hb hd
    have e33 : a'.tmps[33]?.getD undef = .pointer (some ⟨q, po + j * 2, none⟩) := ev (slot_w hd 33 (exV (.pointer (some ⟨q, po + j * 2, none⟩))) rfl rfl)
    go_simp
    exact ⟨Below.refl _ _, rfl⟩
   case j1_7 =>
    intro a' w' hb hd
    have e34 : a'.tmps[34]?.getD undef = .pointer (some ⟨q, po + j * 2, none⟩) := ev (slot_w hd 34 (exV (.pointer (some ⟨q, po + j * 2, none⟩))) rfl rfl)
    have qq : ∀ b o, b < wv.heap.size → w'.cell? ⟨b, o, none⟩ = wv.cell? ⟨b, o, none⟩ := (bcell hb).1
    go_simp
    exact ⟨Below.refl _ _, rfl⟩
   case j1_8 =>
    intro a' w' hb hd
    have e31 : a'.tmps[31]?.getD undef = .slice (some ⟨ri, ro, none⟩) (insF t).length ic := ev (slot_w hd 31 (exV (.slice (some ⟨ri, ro, none⟩) (insF t).length ic)) rfl rfl)
    have e35 : a'.tmps[35]?.getD undef = .int .i64 (kr : Int) := ev (slot_w hd 35 (exV (.int .i64 (kr : Int))) rfl rfl)
    go_simp
    exact ⟨Below.refl _ _, rfl⟩
   case j1_9 =>
    intro a' w' hb hd
    have e36 : a'.tmps[36]?.getD undef = .pointer (some ⟨ri, ro + kr, none⟩) := ev (slot_w hd 36 (exV (.pointer (some ⟨ri, ro + kr, none⟩))) rfl rfl)
    have qq : ∀ b o, b < wv.heap.size → w'.cell? ⟨b, o, none⟩ = wv.cell? ⟨b, o, none⟩ := (bcell hb).1
    go_simp
    exact ⟨Below.refl _ _, rfl⟩
   case j1_10 =>
    intro a' w' hb hd
    have e37 : a'.tmps[37]?.getD undef = .pointer (some ⟨bx, 0, none⟩) := ev (slot_w hd 37 (exV (.pointer (some ⟨bx, 0, none⟩))) rfl rfl)
    go_simp
    exact ⟨Below.refl _ _, rfl⟩
   case j1_11 =>
    intro a' w' hb hd
    have e38 : a'.tmps[38]?.getD undef = .pointer (some ⟨bx, 0, none⟩) := ev (slot_w hd 38 (exV (.pointer (some ⟨bx, 0, none⟩))) rfl rfl)
    go_simp
    exact ⟨Below.refl _ _, rfl⟩
   case j1_12 =>
    intro a' w' hb hd
    have e39 : a'.tmps[39]?.getD undef = .pointer (some ⟨bx, 2, none⟩) := ev (slot_w hd 39 (exV (.pointer (some ⟨bx, 2, none⟩))) rfl rfl)
    have qq : ∀ b o, b < wv.heap.size → w'.cell? ⟨b, o, none⟩ = wv.cell? ⟨b, o, none⟩ := (bcell hb).1
    go_simp
    exact ⟨Below.refl _ _, rfl⟩
   case j1_13 =>
    intro a' w' hb hd
    have e0 : a'.tmps[0]?.getD undef = .pointer (some ⟨br, 0, none⟩) := ev (slot_o hd 0 rfl rfl)
    go_simp
    exact ⟨Below.refl _ _, rfl⟩
   case j1_14 =>
    intro a' w' hb hd
    have e41 : a'.tmps[41]?.getD undef = .pointer (some ⟨br, 0, none⟩) := ev (slot_w hd 41 (exV (.pointer (some ⟨br, 0, none⟩))) rfl rfl)
    go_simp
    exact ⟨Below.refl _ _, rfl⟩
   case j1_15 =>
    intro a' w' hb hd
    have e42 : a'.tmps[42]?.getD undef = .pointer (some ⟨br, 0, none⟩) := ev (slot_w hd 42 (exV (.pointer (some ⟨br, 0, none⟩))) rfl rfl)
    go_simp
    exact ⟨Below.refl _ _, rfl⟩
   case j1_16 =>
    intro a' w' hb hd
    have e43 : a'.tmps[43]?.getD undef = .pointer (some ⟨br, 0, none⟩) := ev (slot_w hd 43 (exV (.pointer (some ⟨br, 0, none⟩))) rfl rfl)
    have qq : ∀ b o, b < wv.heap.size → w'.cell? ⟨b, o, none⟩ = wv.cell? ⟨b, o, none⟩ := (bcell hb).1
    go_simp
    exact ⟨Below.refl _ _, rfl⟩
   case j1_17 =>
    intro a' w' hb hd
    have e44 : a'.tmps[44]?.getD undef = .pointer (some ⟨tq, tw, none⟩) := ev (slot_w hd 44 (exV (.pointer (some ⟨tq, tw, none⟩))) rfl rfl)
    go_simp
    exact ⟨Below.refl _ _, rfl⟩
   case j1_18 =>
    intro a' w' hb hd
    have e45 : a'.tmps[45]?.getD undef = .pointer (some ⟨tq, tw, none⟩) := ev (slot_w hd 45 (exV (.pointer (some ⟨tq, tw, none⟩))) rfl rfl)
    go_simp
    exact ⟨Below.refl _ _, rfl⟩
   case j1_19 =>
    intro a' w' hb hd
    have e46 : a'.tmps[46]?.getD undef = .pointer (some ⟨tq, tw, none⟩) := ev (slot_w hd 46 (exV (.pointer (some ⟨tq, tw, none⟩))) rfl rfl)
    have qq : ∀ b o, b < wv.heap.size → w'.cell? ⟨b, o, none⟩ = wv.cell? ⟨b, o, none⟩ := (bcell hb).1
    go_simp
    exact ⟨Below.refl _ _, rfl⟩
   case j1_20 =>
    intro a' w' hb hd
    have e0 : a'.tmps[0]?.getD undef = .pointer (some ⟨br, 0, none⟩) := ev (slot_o hd 0 rfl rfl)
    go_simp
    exact ⟨Below.refl _ _, rfl⟩
   case j1_21 =>
    intro a' w' hb hd
    have e48 : a'.tmps[48]?.getD undef = .pointer (some ⟨br, 0, none⟩) := ev (slot_w hd 48 (exV (.pointer (some ⟨br, 0, none⟩))) rfl rfl)
    go_simp
    exact ⟨Below.refl _ _, rfl⟩
   case j1_22 =>
    intro a' w' hb hd
    have e49 : a'.tmps[49]?.getD undef = .pointer (some ⟨br, 0, none⟩) := ev (slot_w hd 49 (exV (.pointer (some ⟨br, 0, none⟩))) rfl rfl)
    go_simp
    exact ⟨Below.refl _ _, rfl⟩
   case j1_23 =>
    intro a' w' hb hd
    have e50 : a'.tmps[50]?.getD undef = .pointer (some ⟨br, 5, none⟩) := ev (slot_w hd 50 (exV (.pointer (some ⟨br, 5, none⟩))) rfl rfl)
    have qq : ∀ b o, b < wv.heap.size → w'.cell? ⟨b, o, none⟩ = wv.cell? ⟨b, o, none⟩ := (bcell hb).1
    go_simp
    exact ⟨Below.refl _ _, rfl⟩
   case j1_24 =>
    intro a' w' hb hd
    have e6 : a'.tmps[6]?.getD undef = .pointer (some ⟨q, po + j * 2, none⟩) := ev (slot_o hd 6 rfl rfl)
    go_simp
    exact ⟨Below.refl _ _, rfl⟩
   case j1_25 =>
    intro a' w' hb hd
    have e52 : a'.tmps[52]?.getD undef = .pointer (some ⟨q, po + j * 2, none⟩) := ev (slot_w hd 52 (exV (.pointer (some ⟨q, po + j * 2, none⟩))) rfl rfl)
    go_simp
    exact ⟨Below.refl _ _, rfl⟩
   case j1_26 =>
    intro a' w' hb hd
    have e53 : a'.tmps[53]?.getD undef = .pointer (some ⟨q, po + j * 2, none⟩) := ev (slot_w hd 53 (exV (.pointer (some ⟨q, po + j * 2, none⟩))) rfl rfl)
    go_simp
    exact ⟨Below.refl _ _, rfl⟩
   case j1_27 =>
    intro a' w' hb hd
    have e54 : a'.tmps[54]?.getD undef = .pointer (some ⟨q, po + j * 2 + 1, none⟩) := ev (slot_w hd 54 (exV (.pointer (some ⟨q, po + j * 2 + 1, none⟩))) rfl rfl)
    have qq : ∀ b o, b < wv.heap.size → w'.cell? ⟨b, o, none⟩ = wv.cell? ⟨b, o, none⟩ := (bcell hb).1
    go_simp
    exact ⟨Below.refl _ _, rfl⟩
   case j1_28 =>
    intro a' w' hb hd
    have e51 : a'.tmps[51]?.getD undef = .slice va vn vc := ev (slot_w hd 51 (exV (.slice va vn vc)) rfl rfl)
    have e55 : a'.tmps[55]?.getD undef = .slice ua un uc := ev (slot_w hd 55 (exV (.slice ua un uc)) rfl rfl)
    go_simp
    exact ⟨Below.refl _ _, (l01At_any w' (HRT.out.below hb) (HRU.out.below hb) HPT.out (by omega)).mono fun e w'' ⟨u, he, hf, hb⟩ => ⟨_, he, hb, HAP.out ▸ hf.rd⟩⟩
   case j1_29 =>
    intro a' w' hb hd
    have e47 : a'.tmps[47]?.getD undef = .int .i64 t.1 := ev (slot_w hd 47 (exV (.int .i64 t.1)) rfl rfl)
    have d56 := slot_w hd 56 (rdS intsT (atL (T.take (p + 1)) (due[p][j]).2)) rfl rfl
    obtain ⟨ad56, cap56, e56⟩ := rd_slice d56
    rw [e56] at d56
    have e56' := ev e56
    go_simp
    exact ⟨Below.refl _ _, (l01Code_any w' t.1 d56 (by omega) (by omega) (by rw [atL_len]; omega) HAI.out).mono fun e w'' ⟨he, hw⟩ => ⟨_, he, by rw [← hw]; exact Below.refl _ _, congrArg (Value.int .i64) H2.out⟩⟩
   case j1_30 =>
    intro a' w' hb hd
    have e40 : a'.tmps[40]?.getD undef = .slice (some ⟨bi, bo, none⟩) ((insF t)[kr]).length hcap := ev (slot_w hd 40 (exV (.slice (some ⟨bi, bo, none⟩) ((insF t)[kr]).length hcap)) rfl rfl)
    have e57 : a'.tmps[57]?.getD undef = .int .i64 (ir : Int) := ev (slot_w hd 57 (exV (.int .i64 (ir : Int))) rfl rfl)
    go_simp
    exact ⟨Below.refl _ _, rfl⟩
   case j1_31 =>
    intro a' w' hb hd
    have e58 : a'.tmps[58]?.getD undef = .pointer (some ⟨bi, bo + ir, none⟩) := ev (slot_w hd 58 (exV (.pointer (some ⟨bi, bo + ir, none⟩))) rfl rfl)
    have qq : ∀ b o, b < wv.heap.size → w'.cell? ⟨b, o, none⟩ = wv.cell? ⟨b, o, none⟩ := (bcell hb).1
    go_simp
    exact ⟨Below.refl _ _, rfl⟩
   case j1_32 =>
    intro a' w' hb hd
    have e59 : a'.tmps[59]?.getD undef = .bool B := ev (slot_w hd 59 (exV (.bool B)) rfl rfl)
    go_simp
    exact ⟨Below.refl _ _, rfl⟩
   intro vs1 w1 hb1 H0
   obtain ⟨z1_0, _, rfl, p0, H1⟩ := HAll_cons H0
   obtain ⟨z1_1, _, rfl, p1, H2⟩ := HAll_cons H1
   obtain ⟨z1_2, _, rfl, p2, H3⟩ := HAll_cons H2
   obtain ⟨z1_3, _, rfl, p3, H4⟩ := HAll_cons H3
   obtain ⟨z1_4, _, rfl, p4, H5⟩ := HAll_cons H4
   obtain ⟨z1_5, _, rfl, p5, H6⟩ := HAll_cons H5
   obtain ⟨z1_6, _, rfl, p6, H7⟩ := HAll_cons H6
   obtain ⟨z1_7, _, rfl, p7, H8⟩ := HAll_cons H7
   obtain ⟨z1_8, _, rfl, p8, H9⟩ := HAll_cons H8
   obtain ⟨z1_9, _, rfl, p9, H10⟩ := HAll_cons H9
   obtain ⟨z1_10, _, rfl, p10, H11⟩ := HAll_cons H10
   obtain ⟨z1_11, _, rfl, p11, H12⟩ := HAll_cons H11
   obtain ⟨z1_12, _, rfl, p12, H13⟩ := HAll_cons H12
   obtain ⟨z1_13, _, rfl, p13, H14⟩ := HAll_cons H13
   obtain ⟨z1_14, _, rfl, p14, H15⟩ := HAll_cons H14
   obtain ⟨z1_15, _, rfl, p15, H16⟩ := HAll_cons H15
   obtain ⟨z1_16, _, rfl, p16, H17⟩ := HAll_cons H16
   obtain ⟨z1_17, _, rfl, p17, H18⟩ := HAll_cons H17
   obtain ⟨z1_18, _, rfl, p18, H19⟩ := HAll_cons H18
   obtain ⟨z1_19, _, rfl, p19, H20⟩ := HAll_cons H19
   obtain ⟨z1_20, _, rfl, p20, H21⟩ := HAll_cons H20
   obtain ⟨z1_21, _, rfl, p21, H22⟩ := HAll_cons H21
   obtain ⟨z1_22, _, rfl, p22, H23⟩ := HAll_cons H22
   obtain ⟨z1_23, _, rfl, p23, H24⟩ := HAll_cons H23
   obtain ⟨z1_24, _, rfl, p24, H25⟩ := HAll_cons H24
   obtain ⟨z1_25, _, rfl, p25, H26⟩ := HAll_cons H25
   obtain ⟨z1_26, _, rfl, p26, H27⟩ := HAll_cons H26
   obtain ⟨z1_27, _, rfl, p27, H28⟩ := HAll_cons H27
   obtain ⟨z1_28, _, rfl, p28, H29⟩ := HAll_cons H28
   obtain ⟨z1_29, _, rfl, p29, H30⟩ := HAll_cons H29
   obtain ⟨z1_30, _, rfl, p30, H31⟩ := HAll_cons H30
   obtain ⟨z1_31, _, rfl, p31, H32⟩ := HAll_cons H31
   obtain ⟨z1_32, _, rfl, p32, H33⟩ := HAll_cons H32
   obtain rfl := HAll_nil H33
   obtain rfl := p0 rfl
   obtain rfl := p1 rfl
   obtain rfl := p2 rfl
   obtain rfl := p3 rfl
   obtain rfl := p4 rfl
   obtain rfl := p5 rfl
   obtain rfl := p6 rfl
   obtain rfl := p7 rfl
   obtain rfl := p8 rfl
   obtain rfl := p9 rfl
   obtain rfl := p10 rfl
   obtain rfl := p11 rfl
   obtain rfl := p12 rfl
   obtain rfl := p13 rfl
   obtain rfl := p14 rfl
   obtain rfl := p15 rfl
   obtain rfl := p16 rfl
   obtain rfl := p17 rfl
   obtain rfl := p18 rfl
   obtain rfl := p19 rfl
   obtain rfl := p20 rfl
   obtain rfl := p21 rfl
   obtain rfl := p22 rfl
   obtain rfl := p23 rfl
   obtain rfl := p24 rfl
   obtain rfl := p25 rfl
   obtain rfl := p26 rfl
   obtain rfl := p27 rfl
   obtain rfl := p29 rfl
   obtain rfl := p30 rfl
   obtain rfl := p31 rfl
   obtain rfl := p32 rfl
   clear p0 p1 p2 p3 p4 p5 p6 p7 p8 p9 p10 p11 p12 p13 p14 p15 p16 p17 p18 p19 p20 p21 p22 p23 p24 p25 p26 p27 p28 p29 p30 p31 p32 H0 H1 H2 H3 H4 H5 H6 H7 H8 H9 H10 H11 H12 H13 H14 H15 H16 H17 H18 H19 H20 H21 H22 H23 H24 H25 H26 H27 H28 H29 H30 H31 H32 H33
   simp only [putAll, Act.put]
   go_simp
   cases B
   ·have HE : Hid (goesF t due (T.take (p + 1)) = false) := by unfold Hid; rw [HG.out, any_at hjl (by rw [HB.out]; rfl)]; rfl
    go_wp2_with fail
    go_ret
    exact ⟨ret_bool HE.out.symm, bthen hbe hb1⟩
   ·have HNX : Hid (noneB (fun a => !tb (holdsC t (T.take (p + 1)) a)) (due[p].take (j + 1))) := noneB_succ hjl HN.out (by rw [HB.out]; rfl)
    go_wp2_with fail
    go_roundw
    case rel => exact ⟨j + 1, by omega, by go_num, HNX.out, bthen hbe hb1⟩
    case measure => simp [intOf]; omega
  ·obtain rfl : j = due[p].length := by omega
   have HE : Hid (goesF t due (T.take (p + 1)) = true) := by
    unfold Hid
    rw [HG.out]
    have h1 := HN.out
    rw [List.take_length] at h1
    rw [noneB_any h1]
    rfl
   go_wp2_with fail
   go_ret
   exact ⟨ret_bool HE.out.symm, hbe⟩
end Go.Proofs.YtajmjfbejfiipaaGreat
