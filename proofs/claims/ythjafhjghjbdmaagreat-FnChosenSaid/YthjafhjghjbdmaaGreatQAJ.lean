/-
Contracts: the first operation that a search finds.
Contracts: the first operation that a search finds for which a test is true, whatever the test.
Contracts: the first operation that a search finds for which a test is true: the function itself.
Contracts: the first polymorphism with given values, the program's.
Contracts: a polymorphism with given values, the program's.
Contracts: a polymorphism with given values, the program's, whole.
The library's contracts of slices.Sort and slices.Compact at []int64, laid at this seat's program. Written by the kit's lay-shelf and lay-plain: its numbers hold for that seat alone (shelf.py).
Choices from bytes: what the source of choices is; its contracts say what a choice's bounds are, not which one it is.
-/
import Derived.Test.YthjafhjghjbdmaaGreatQAI
import Derived.Ground.SlgnProg
import Derived.Shelf.SlicesE.Compact
import Derived.Ground.SlgmProg
import Derived.Shelf.SortM.Plain
import Derived.Shelf.SortM.SortNone
import Derived.Test.YthjafhjghjbdmaaGreatProg
namespace Go.Proofs.YthjafhjghjbdmaaGreat
open Go.RowKit Go.Sort
theorem pwTrue_any (w : World) {cs : Array Value} {x : Int × List Int} (h : opT.Rd w cs.toList x) :
    Calls Tryz.prog 154 #[.agg cs] w fun e w' => e = .returned (.bool true) ∧ Below w.heap.size w w' := by
  obtain ⟨v1, hv, -, -⟩ := pair_ex h
  obtain rfl := agg_of hv
  clear h hv
  go_enter Tryz.func154, Tryz.ntmps154
  go_wp2_with fail
  go_ret
  exact ⟨rfl, bA⟩
/-- what the listener keeps: the operation told last, in box ob; the test's box ib -/
def oneF (ar : Int) (F : Value) (ib ob base : Nat) (told : List (List Int)) (O : Nat → Prop) (w : World) : Prop :=
  (∀ k, O k → k < w.heap.size ∧ base ≤ k) ∧ O ib ∧ O ob ∧ ib ≠ ob ∧ w.cell? ⟨ib, 0, none⟩ = some F ∧ w.frozen? ⟨ob, 0, none⟩ = false ∧ w.frozen? ⟨ob, 1, none⟩ = false ∧ ∃ n u, w.cell? ⟨ob, 0, none⟩ = some (.int .i64 n) ∧ w.cell? ⟨ob, 1, none⟩ = some u ∧ (told ≠ [] → n = ar ∧ (intsT.on fun k => O k ∧ k ≠ ob).Fr base w [u] (told.getLastD []))
theorem oneF.stable {ar : Int} {F : Value} {ib ob base : Nat} {told : List (List Int)} {O : Nat → Prop} {w w' : World} (h : oneF ar F ib ob base told O w) (hs : ∀ k, k < w.heap.size → O k → w'.heap[k]? = w.heap[k]?) (hz : w.heap.size ≤ w'.heap.size) : oneF ar F ib ob base told O w' := by
  obtain ⟨h1, h2, h3, h4, c0, f0, f1, n, u, d0, d1, h5⟩ := h
  have hi := hs ib (h1 ib h2).1 h2
  have ho := hs ob (h1 ob h3).1 h3
  refine ⟨fun k hk => ⟨Nat.lt_of_lt_of_le (h1 k hk).1 hz, (h1 k hk).2⟩, h2, h3, h4, (World.cell?_of_block (a := ⟨ib, 0, none⟩) hi).trans c0, (World.frozen?_of_block (a := ⟨ob, 0, none⟩) ho).trans f0, (World.frozen?_of_block (a := ⟨ob, 1, none⟩) ho).trans f1, n, u, (World.cell?_of_block (a := ⟨ob, 0, none⟩) ho).trans d0, (World.cell?_of_block (a := ⟨ob, 1, none⟩) ho).trans d1, fun ht => ?_⟩
  obtain ⟨e1, fp, ⟨g1, g2⟩, g3, g4, g5⟩ := h5 ht
  have hS : ∀ k ∈ fp, w'.heap[k]? = w.heap[k]? := fun k hk => hs k (intsT.lt g1 k hk) (g2 k hk).1
  exact ⟨e1, fp, ⟨intsT.same g1 hS, g2⟩, g3, g4, g5.same hS⟩
set_option maxHeartbeats 1600000 in
theorem first1_yf {ar : Int} (har : 1 ≤ ar ∧ ar ≤ 3) (ib ob base : Nat) : Yf Tryz.prog ar 131 #[.pointer (some ⟨ib, 0, none⟩), .pointer (some ⟨ob, 0, none⟩)] (fun _ => -1) (oneF ar (.func (.func 154) #[] #[]) ib ob base) := by
  refine ⟨fun h hs hz => h.stable hs hz, fun h k hk => (h.1 k hk).1, ?_⟩
  rintro told O w0 w u x hI hb hf - hln
  obtain ⟨ua, uc, rfl⟩ := fr_slice hf
  have hI' := hI.stable (fun k hk _ => hb.block k hk) hb.size
  obtain ⟨h1, h2, h3, h4, c0, f0, f1, n, u', d0, d1, -⟩ := hI'
  have hil := (h1 ib h2).1
  have hol := (h1 ob h3).1
  have hob := (h1 ob h3).2
  have hol0 := (hI.1 ob h3).1
  have hIa : I64 ar := I64.small (by omega) (by omega)
  have HF := Lib.hid hf
  have H1 := Lib.hid h1
  have hz0 := hb.size
  have HIa := Lib.hid hIa
  clear hI hf h1 hIa
  show Calls Tryz.prog 131 #[.agg #[.int .i64 ar, .slice ua x.length uc], .pointer (some ⟨ib, 0, none⟩), .pointer (some ⟨ob, 0, none⟩)] w _
  go_enter Tryz.func131, Tryz.ntmps131
  go_wp2_with fail
  refine (pwTrue_any _ (x := (ar, x)) (fr_cons HIa.out (HF.out.below bA)).rd).mono ?_
  rintro e w1 ⟨rfl, hb1⟩
  have hbb : Below w.heap.size w w1 := bthen bA hb1
  have hz1 := hbb.size
  have p0 : w1.cell? ⟨w.heap.size, 0, none⟩ = some (.int .i64 ar) := (cellB hb1 (by simp)).trans (by simp)
  have p1 : w1.cell? ⟨w.heap.size, 1, none⟩ = some (.slice ua x.length uc) := (cellB hb1 (by simp)).trans (by simp)
  have c01 := (cellB hbb hil).trans c0
  have d01 := (cellB hbb hol).trans d0
  have d11 := (cellB hbb hol).trans d1
  have f01 := (frozenB hbb hol).trans f0
  have f11 := (frozenB hbb hol).trans f1
  have hpl : w.heap.size < w1.heap.size := by have := hb1.size; simp at this; omega
  have HFX : Hid (intsT.Fr w0.heap.size w1 [.slice ua x.length uc] x) := HF.out.below hbb
  clear c0 d0 d1 f0 f1
  go_wp2_with fail
  go_ret
  have ht : TchP O w ((w1.setCell ⟨ob, 0, none⟩ (.int .i64 ar)).setCell ⟨ob, 1, none⟩ (.slice ua x.length uc)) := ((TchP.of_below hbb O).then (TchP.set (O := O) h3) (fun k _ h => h)).then (TchP.set (O := O) h3) (fun k _ h => h)
  refine ⟨rfl, fun k => (O k ∨ w0.heap.size ≤ k) ∧ k < w1.heap.size, ⟨fun k hk => ⟨by simpa [World.setCell] using hk.2, ?_⟩, ⟨.inl h2, by omega⟩, ⟨.inl h3, by omega⟩, h4, ?_, (World.frozen?_setCell _ _ _ _).trans ((World.frozen?_setCell _ _ _ _).trans f01), (World.frozen?_setCell _ _ _ _).trans ((World.frozen?_setCell _ _ _ _).trans f11), ar, _, (World.cell?_setCell_other _ _ _ _ (by simp)).trans (World.cell?_setCell_same _ _ _ d01), World.cell?_setCell_same _ _ _ ((World.cell?_setCell_other _ _ _ _ (by simp)).trans d11), fun _ => ⟨rfl, ?_⟩⟩, ht, fun k hk => hk.1⟩
  · rcases hk.1 with h | h
    · exact (H1.out k h).2
    · omega
  · exact (World.cell?_setCell_other _ _ _ _ (fun e => h4 (congrArg Addr.block e).symm)).trans ((World.cell?_setCell_other _ _ _ _ (fun e => h4 (congrArg Addr.block e).symm)).trans c01)
  · rw [List.getLastD_concat]
    have h9 := (HFX.out.set (a := ⟨ob, 0, none⟩) (u := .int .i64 ar) hol0).set (a := ⟨ob, 1, none⟩) (u := .slice ua x.length uc) hol0
    exact (fr_on (h9.mono (show w0.heap.size ≤ w0.heap.size from Nat.le_refl _)) (fun k hk hl => ⟨⟨.inr hk, by simpa [World.setCell] using hl⟩, by omega⟩)).mono (by omega)
theorem srch_m1 {s : Nat} {okT : List Int → Bool} {fx : List Int} {yc : List (List Int) → Int} : ∀ (m : Nat) (vals : List Int) (r : FR), (r.1 = -1 → r.2.2 ≠ []) → (srch s okT fx yc m vals r).1 = -1 → (srch s okT fx yc m vals r).2.2 ≠ []
  | 0, vals, r, _, _ => by show r.2.2 ++ [vals] ≠ []; simp
  | m + 1, vals, r, hr, h => by
    have key : ∀ (l : List Nat) (q : FR), (q.1 = -1 → q.2.2 ≠ []) → (l.foldl (stepA (srch s okT fx yc m) okT fx vals) q).1 = -1 → (l.foldl (stepA (srch s okT fx yc m) okT fx vals) q).2.2 ≠ [] := by
      intro l
      induction l with
      | nil => exact fun q h => h
      | cons a l ih =>
        intro q hq
        rw [List.foldl_cons]
        refine ih _ ?_
        by_cases h0 : q.1 = 0
        · cases h1 : skipB fx vals.length a
          · by_cases h2 : q.2.1 = 6000
            · rw [step_bud h0 h1 h2]; intro h7; exact absurd h7 (by show ¬ (7 : Int) = -1; decide)
            · cases h3 : okT (vals ++ [(a : Int)])
              · rw [step_no h0 h1 h2 h3]; intro h7; exact absurd h7 (by show ¬ (0 : Int) = -1; decide)
              · rw [step_yes h0 h1 h2 h3]; exact srch_m1 m _ _ (fun h7 => absurd h7 (by show ¬ (0 : Int) = -1; decide))
          · rw [step_skip h1]; exact hq
        · rw [step_stop h0]; exact hq
    exact key _ r hr h
theorem on_fr_set {α : Type} {E : Ty α} {O : Nat → Prop} {base : Nat} {w : World} {cs : List Value} {x : α} {a : Addr} {u : Value} (h : (E.on O).Fr base w cs x) (ha : ¬ O a.block) : (E.on O).Fr base (w.setCell a u) cs x :=
  let ⟨fp, h1, h2, h3, h4⟩ := h
  have hS : ∀ k ∈ fp, (w.setCell a u).heap[k]? = w.heap[k]? := fun k hk => Below.heap_setCell _ _ _ _ (fun e => ha (e ▸ h1.2 k hk))
  ⟨fp, ⟨E.same h1.1 hS, h1.2⟩, h2, h3, h4.same hS⟩
/-- what the first operation is, from where the search ends -/
def foV (ar : Int) (R : FR) : Int × List Int := match R.1 == -1 with
  | true => (ar, R.2.2.getLastD [])
  | false => (0, [])
def foC (R : FR) : Int := match R.1 == -1, R.1 == 0 with
  | true, _ => 0
  | false, true => 6
  | false, false => R.1
/-- how firstOf leaves memory -/
def FoR (w : World) (bs : Nat) (ar : Int) (R : FR) (e : Ending) (w' : World) : Prop :=
  ∃ cs : List Value, e = .returned (.tuple #[.agg cs.toArray, .int .i64 (foC R)]) ∧ opT.Fr w.heap.size w' cs (foV ar R) ∧ TchP (fun k => k = bs) w w'
set_option maxHeartbeats 3200000 in
set_option maxRecDepth 100000 in
theorem firstOf_any (w : World) {t : Tpl} {ar : Int} {fx : List Int} (hT : tplOk t) (har : 1 ≤ ar ∧ ar ≤ 3) (hl : limF t ar.toNat = false) {bs : Nat} (hF : Fd (fun k => k < w.heap.size ∧ k ≠ bs) w bs t ar (duesF (looksA t ar.toNat) (tabL t ar)) fx) (hTb : Tb 2 w.heap.size w bs 0 (.slice none 0 0) []) (hfx : fx.length = tabL t ar) :
    Calls Tryz.prog 51 #[.pointer (some ⟨bs, 0, none⟩), .func (.func 154) #[] #[]] w (FoR w bs ar (polyF t ar fx fun _ => -1)) := by
  have HF := Lib.hid hF
  have HTB := Lib.hid hTb
  have hbs := hF.1
  have HLK := Lib.hid (tpl_looks hT har hl)
  have hNb := tabN_bd (tabN_of hT.1 (ar := ar.toNat) (by omega) (tabL_of hT))
  have HS0 : Hid (t.1 = (t.1.toNat : Int)) := by have := hT.1; unfold sizeOk at this; unfold Hid; omega
  have HTT := Lib.hid hT
  have HFXL := Lib.hid hfx
  clear hF hTb hT hl hfx
  go_enter Tryz.func51, Tryz.ntmps51
  go_wp2_with fail
  generalize hW : World.alloc (World.alloc (World.alloc w _) _) _ = W
  have hbW : Below w.heap.size w W := hW ▸ bthen bAA bA
  have hsW : w.heap.size + 3 ≤ W.heap.size := by rw [← hW]; simp
  have r0 : W.cell? ⟨w.heap.size + 1, 0, none⟩ = some (.int .i64 0) := by rw [← hW]; simp [go_sem]
  have r1 : W.cell? ⟨w.heap.size + 1, 1, none⟩ = some (.slice none 0 0) := by rw [← hW]; simp [go_sem]
  have q0 : W.frozen? ⟨w.heap.size + 1, 0, none⟩ = false := by rw [← hW]; simp [go_sem]
  have q1 : W.frozen? ⟨w.heap.size + 1, 1, none⟩ = false := by rw [← hW]; simp [go_sem]
  have HI : Hid (oneF ar (.func (.func 154) #[] #[]) w.heap.size (w.heap.size + 1 + 1) w.heap.size [] (fun k => k = w.heap.size ∨ k = w.heap.size + 1 + 1) W) :=
    ⟨fun k hk => by omega, .inl rfl, .inr rfl, by omega, by rw [← hW]; simp [go_sem], by rw [← hW]; simp [go_sem], by rw [← hW]; simp [go_sem], 0, .slice none 0 0, by rw [← hW]; simp [go_sem], by rw [← hW]; simp [go_sem], fun h => absurd rfl h⟩
  clear hW
  refine (search_any HTT.out HS0.out (by omega) HLK.out.2.1 HLK.out.1 HLK.out.2.2 HFXL.out 131 #[.pointer (some ⟨w.heap.size, 0, none⟩), .pointer (some ⟨w.heap.size + 1 + 1, 0, none⟩)] (enters Tryz.func131 (by kernel_rfl) rfl) (fun _ => -1) (oneF ar (.func (.func 154) #[] #[]) w.heap.size (w.heap.size + 1 + 1) w.heap.size) (first1_yf har _ _ _) bs w.heap.size (fun k => k < w.heap.size ∧ k ≠ bs) hbs (fun k hk => hk) (tabL t ar) W (.slice none 0 0) [] 0 [] (fun k => k = w.heap.size ∨ k = w.heap.size + 1 + 1) (by simp) (fun a ha => by cases ha) (HF.out.below hbW) (HTB.out.below hbs hbW) HI.out (fun k hk h => by omega) (by omega) (fun k hk => by simp [Value.ownBlock] at hk) (by omega) (by simp) (by omega)).mono ?_
  rintro e w4 ⟨rfl, hsr⟩
  obtain ⟨v4, O4, -, -, hI4, hO5, -, ht4⟩ := hsr
  have HCP : Hid (srch t.1.toNat (goesF t (duesF (looksA t ar.toNat) (tabL t ar))) fx (fun _ => -1) (tabL t ar) [] (0, 0, []) = polyF t ar fx fun _ => -1) := rfl
  rw [HCP.out] at hI4 ⊢
  have HM1 : Hid ((polyF t ar fx fun _ => -1).1 = -1 → (polyF t ar fx fun _ => -1).2.2 ≠ []) := fun h => srch_m1 _ _ _ (fun h7 => absurd h7 (by show ¬ (0 : Int) = -1; decide)) h
  clear HCP
  generalize hRR : (polyF t ar fx fun _ => -1) = R at *
  have HRR := Lib.hid hRR
  clear hRR
  have hn1 : ¬ ((w.heap.size + 1 = w.heap.size ∨ w.heap.size + 1 = w.heap.size + 1 + 1) ∨ w.heap.size + 1 = bs ∨ (Value.slice none 0 0).ownBlock = some (w.heap.size + 1)) := by
    rintro (h | h | h)
    · omega
    · omega
    · simp [Value.ownBlock] at h
  have hl1 : w.heap.size + 1 < W.heap.size := by omega
  have s0 := (ht4.cell (i := 0) hl1 hn1).trans r0
  have s1 := (ht4.cell (i := 1) hl1 hn1).trans r1
  have p0 := (ht4.frozen (i := 0) hl1 hn1).trans q0
  have p1 := (ht4.frozen (i := 1) hl1 hn1).trans q1
  obtain ⟨hO4, -, hOb, -, -, -, -, n4, u4, d0, d1, hD⟩ := hI4
  have HD := Lib.hid hD
  clear hD r0 r1 q0 q1
  have hno : ¬ O4 (w.heap.size + 1) := fun h => by
    rcases hO5 _ h with (h | h) | h
    · omega
    · omega
    · omega
  have ho4 := (hO4 _ hOb).1
  have hl4 : w.heap.size + 1 < w4.heap.size := by have := ht4.size; omega
  have hIa : I64 ar := I64.small (by omega) (by omega)
  have hT4 : TchP (fun k => k = bs) w w4 := ⟨ht4.os.trans hbW.os, ht4.tape.trans hbW.tape, ht4.output.trans hbW.output, by have := ht4.size; omega, fun k hk hn => (ht4.block k (by omega) (by
    rintro ((h | h) | h | h)
    · omega
    · omega
    · exact hn h
    · simp [Value.ownBlock] at h)).trans (hbW.block k hk)⟩
  have hfin : ∀ (x y : Value), TchP (fun k => k = bs) w ((w4.setCell ⟨w.heap.size + 1, 0, none⟩ x).setCell ⟨w.heap.size + 1, 1, none⟩ y) := fun x y => ⟨hT4.os, hT4.tape, hT4.output, by have := hT4.size; simpa [World.setCell] using this, fun k hk hn => ((Below.heap_setCell _ _ _ _ (by simp; omega)).trans (Below.heap_setCell _ _ _ _ (by simp; omega))).trans (hT4.block k hk hn)⟩
  have hz0 : ∀ (x y : Value), ((w4.setCell ⟨w.heap.size + 1, 0, none⟩ x).setCell ⟨w.heap.size + 1, 1, none⟩ y).cell? ⟨w.heap.size + 1, 0, none⟩ = some x := fun x y => (World.cell?_setCell_other _ _ _ _ (by simp)).trans (World.cell?_setCell_same _ _ _ s0)
  have hz1 : ∀ (x y : Value), ((w4.setCell ⟨w.heap.size + 1, 0, none⟩ x).setCell ⟨w.heap.size + 1, 1, none⟩ y).cell? ⟨w.heap.size + 1, 1, none⟩ = some y := fun x y => World.cell?_setCell_same _ _ _ ((World.cell?_setCell_other _ _ _ _ (by simp)).trans s1)
  have HFIN := Lib.hid hfin
  have HZ0 := Lib.hid hz0
  have HZ1 := Lib.hid hz1
  have HIa := Lib.hid hIa
  clear hfin hz0 hz1 hT4 ht4 hIa hn1 hO4 hO5
  cases hc : (R.1 == -1)
  · have HV : Hid (foV ar (polyF t ar fx fun _ => -1) = (0, [])) := by unfold Hid; rw [HRR.out]; unfold foV; rw [hc]
    cases hz : (R.1 == 0)
    · have HC : Hid (foC (polyF t ar fx fun _ => -1) = R.1) := by unfold Hid; rw [HRR.out]; unfold foC; rw [hc, hz]
      go_wp2_with fail
      refine bodyPost_ret (v := .tuple #[.agg #[.int .i64 0, .slice none 0 0], .int .i64 R.1]) (by simp [results, Tryz.results51, go_sem, HZ0.out, HZ1.out]) rfl ⟨[.int .i64 0, .slice none 0 0], by rw [HC.out], ?_, HFIN.out _ _⟩
      rw [HV.out]
      exact fr_cons (I64.small (by omega) (by omega)) fr_nil
    · have HC : Hid (foC (polyF t ar fx fun _ => -1) = 6) := by unfold Hid; rw [HRR.out]; unfold foC; rw [hc, hz]
      go_wp2_with fail
      refine bodyPost_ret (v := .tuple #[.agg #[.int .i64 0, .slice none 0 0], .int .i64 6]) (by simp [results, Tryz.results51, go_sem, HZ0.out, HZ1.out]) rfl ⟨[.int .i64 0, .slice none 0 0], by rw [HC.out], ?_, HFIN.out _ _⟩
      rw [HV.out]
      exact fr_cons (I64.small (by omega) (by omega)) fr_nil
  · have HV : Hid (foV ar (polyF t ar fx fun _ => -1) = (ar, R.2.2.getLastD [])) := by unfold Hid; rw [HRR.out]; unfold foV; rw [hc]
    have HC : Hid (foC (polyF t ar fx fun _ => -1) = 0) := by unfold Hid; rw [HRR.out]; unfold foC; rw [hc]
    obtain ⟨rfl, hfr⟩ := HD.out (HM1.out (by simpa using hc))
    obtain ⟨ua, un, uc, rfl⟩ := ex_slice (on_fr1 hfr)
    have HFR := Lib.hid hfr
    clear hfr
    go_wp2_with fail
    refine bodyPost_ret (v := .tuple #[.agg #[.int .i64 n4, .slice ua un uc], .int .i64 0]) (by simp [results, Tryz.results51, go_sem, HZ0.out, HZ1.out]) rfl ⟨[.int .i64 n4, .slice ua un uc], by rw [HC.out], ?_, HFIN.out _ _⟩
    rw [HV.out]
    exact fr_cons HIa.out (on_fr1 (on_fr_set (on_fr_set HFR.out (fun h => hno h.1)) (fun h => hno h.1)))
end Go.Proofs.YthjafhjghjbdmaaGreat
namespace Go.Proofs.YthjafhjghjbdmaaGreat
open Go.RowKit Go.Sort
/-- a listener that stops at the first list for which p -/
def ycP (p : List Int → Bool) (L : List (List Int)) : Int := if p (L.getLastD []) then -1 else 0
theorem ycP_yes {p : List Int → Bool} {L : List (List Int)} {x : List Int} (h : p x = true) : ycP p (L ++ [x]) = -1 := by simp [ycP, h]
theorem ycP_no {p : List Int → Bool} {L : List (List Int)} {x : List Int} (h : p x = false) : ycP p (L ++ [x]) = 0 := by simp [ycP, h]
theorem ycP_m1 {p : List Int → Bool} {L : List (List Int)} (h : ycP p L = -1) : p (L.getLastD []) = true := by
  cases h1 : p (L.getLastD [])
  · simp only [ycP, h1] at h; exact absurd h (by decide)
  · rfl
theorem srch_m2 {s : Nat} {okT : List Int → Bool} {fx : List Int} {yc : List (List Int) → Int} : ∀ (m : Nat) (vals : List Int) (r : FR), (r.1 = -1 → r.2.2 ≠ [] ∧ yc r.2.2 = -1) → (srch s okT fx yc m vals r).1 = -1 → (srch s okT fx yc m vals r).2.2 ≠ [] ∧ yc (srch s okT fx yc m vals r).2.2 = -1
  | 0, vals, r, _, h => ⟨by show r.2.2 ++ [vals] ≠ []; simp, h⟩
  | m + 1, vals, r, hr, h => by
    have key : ∀ (l : List Nat) (q : FR), (q.1 = -1 → q.2.2 ≠ [] ∧ yc q.2.2 = -1) → (l.foldl (stepA (srch s okT fx yc m) okT fx vals) q).1 = -1 → (l.foldl (stepA (srch s okT fx yc m) okT fx vals) q).2.2 ≠ [] ∧ yc (l.foldl (stepA (srch s okT fx yc m) okT fx vals) q).2.2 = -1 := by
      intro l
      induction l with
      | nil => exact fun q h => h
      | cons a l ih =>
        intro q hq
        rw [List.foldl_cons]
        refine ih _ ?_
        by_cases h0 : q.1 = 0
        · cases h1 : skipB fx vals.length a
          · by_cases h2 : q.2.1 = 6000
            · rw [step_bud h0 h1 h2]; intro h7; exact absurd h7 (by show ¬ (7 : Int) = -1; decide)
            · cases h3 : okT (vals ++ [(a : Int)])
              · rw [step_no h0 h1 h2 h3]; intro h7; exact absurd h7 (by show ¬ (0 : Int) = -1; decide)
              · rw [step_yes h0 h1 h2 h3]; exact srch_m2 m _ _ (fun h7 => absurd h7 (by show ¬ (0 : Int) = -1; decide))
          · rw [step_skip h1]; exact hq
        · rw [step_stop h0]; exact hq
    exact key _ r hr h
/-- what the listener keeps: the operation told last, in box ob, where it passed; the test's box ib; what lay below b0 -/
def oneG (p : List Int → Bool) (ar : Int) (F : Value) (w0 : World) (b0 ib ob base : Nat) (told : List (List Int)) (O : Nat → Prop) (w : World) : Prop :=
  (∀ k, O k → k < w.heap.size ∧ (k < b0 ∨ base ≤ k)) ∧ (∀ k, k < b0 → O k ∧ w.heap[k]? = w0.heap[k]?) ∧ O ib ∧ O ob ∧ base ≤ ib ∧ base ≤ ob ∧ ib ≠ ob ∧ w.cell? ⟨ib, 0, none⟩ = some F ∧ w.frozen? ⟨ob, 0, none⟩ = false ∧ w.frozen? ⟨ob, 1, none⟩ = false ∧ ∃ n u, w.cell? ⟨ob, 0, none⟩ = some (.int .i64 n) ∧ w.cell? ⟨ob, 1, none⟩ = some u ∧ (told ≠ [] → p (told.getLastD []) = true → n = ar ∧ (intsT.on fun k => (O k ∧ base ≤ k) ∧ k ≠ ob).Fr base w [u] (told.getLastD []))
theorem oneG.stable {p : List Int → Bool} {ar : Int} {F : Value} {w0 : World} {b0 ib ob base : Nat} {told : List (List Int)} {O : Nat → Prop} {w w' : World} (h : oneG p ar F w0 b0 ib ob base told O w) (hs : ∀ k, k < w.heap.size → O k → w'.heap[k]? = w.heap[k]?) (hz : w.heap.size ≤ w'.heap.size) : oneG p ar F w0 b0 ib ob base told O w' := by
  obtain ⟨h1, hB, h2, h3, g1, g2, h4, c0, f0, f1, n, u, d0, d1, h5⟩ := h
  have hi := hs ib (h1 ib h2).1 h2
  have ho := hs ob (h1 ob h3).1 h3
  refine ⟨fun k hk => ⟨Nat.lt_of_lt_of_le (h1 k hk).1 hz, (h1 k hk).2⟩, fun k hk => ⟨(hB k hk).1, (hs k (h1 k (hB k hk).1).1 (hB k hk).1).trans (hB k hk).2⟩, h2, h3, g1, g2, h4, (World.cell?_of_block (a := ⟨ib, 0, none⟩) hi).trans c0, (World.frozen?_of_block (a := ⟨ob, 0, none⟩) ho).trans f0, (World.frozen?_of_block (a := ⟨ob, 1, none⟩) ho).trans f1, n, u, (World.cell?_of_block (a := ⟨ob, 0, none⟩) ho).trans d0, (World.cell?_of_block (a := ⟨ob, 1, none⟩) ho).trans d1, fun ht hp => ?_⟩
  obtain ⟨e1, fp, ⟨g1, g2⟩, g3, g4, g5⟩ := h5 ht hp
  have hS : ∀ k ∈ fp, w'.heap[k]? = w.heap[k]? := fun k hk => hs k (intsT.lt g1 k hk) (g2 k hk).1.1
  exact ⟨e1, fp, ⟨intsT.same g1 hS, g2⟩, g3, g4, g5.same hS⟩
set_option maxHeartbeats 1600000 in
theorem firstG1_yf {p : List Int → Bool} {V : List Int → Prop} {ar : Int} (har : 1 ≤ ar ∧ ar ≤ 3) (w00 : World) (b0 ib ob base : Nat) (hb0 : b0 ≤ base) (gi : Nat) (ic : Array Value) (eg : ∀ args w, (callFunc gi args).run Tryz.prog w = .ok (.enter gi args) w)
    (hIs : Hid (∀ W u x, (∀ k, k < b0 → W.heap[k]? = w00.heap[k]?) → intsT.Rd W [u] x → V x → Calls Tryz.prog gi (#[.agg #[.int .i64 ar, u]] ++ ic) W fun e W' => e = .returned (.bool (p x)) ∧ Below W.heap.size W W')) :
    YfV Tryz.prog ar 131 #[.pointer (some ⟨ib, 0, none⟩), .pointer (some ⟨ob, 0, none⟩)] (ycP p) V (oneG p ar (.func (.func gi) #[] ic) w00 b0 ib ob base) := by
  refine ⟨fun h hs hz => h.stable hs hz, fun h k hk => (h.1 k hk).1, ?_⟩
  rintro told O w0 w u x hI hb hf - hln hVx
  obtain ⟨ua, uc, rfl⟩ := fr_slice hf
  have hI' := hI.stable (fun k hk _ => hb.block k hk) hb.size
  have HI2 := Lib.hid hI'
  obtain ⟨h1, hB, h2, h3, hg1, hg2, h4, c0, f0, f1, n, u', d0, d1, -⟩ := hI'
  have hil := (h1 ib h2).1
  have hol := (h1 ob h3).1
  have hol0 := (hI.1 ob h3).1
  have hIa : I64 ar := I64.small (by omega) (by omega)
  have HF := Lib.hid hf
  have H1 := Lib.hid h1
  have HB := Lib.hid hB
  have hz0 := hb.size
  have HIa := Lib.hid hIa
  have HV := Lib.hid hVx
  have hbs0 : base ≤ w0.heap.size := by omega
  clear hI hf h1 hIa hVx hB
  show Calls Tryz.prog 131 #[.agg #[.int .i64 ar, .slice ua x.length uc], .pointer (some ⟨ib, 0, none⟩), .pointer (some ⟨ob, 0, none⟩)] w _
  go_enter Tryz.func131, Tryz.ntmps131
  go_wp2_with fail
  refine (hIs.out _ _ x (fun k hk => (bA.block k (by have := (H1.out k (HB.out k hk).1).1; omega)).trans (HB.out k hk).2) (HF.out.below bA).rd HV.out).mono ?_
  rintro e w1 ⟨rfl, hb1⟩
  have hbb : Below w.heap.size w w1 := bthen bA hb1
  have hz1 := hbb.size
  have p0 : w1.cell? ⟨w.heap.size, 0, none⟩ = some (.int .i64 ar) := (cellB hb1 (by simp)).trans (by simp)
  have p1 : w1.cell? ⟨w.heap.size, 1, none⟩ = some (.slice ua x.length uc) := (cellB hb1 (by simp)).trans (by simp)
  have c01 := (cellB hbb hil).trans c0
  have d01 := (cellB hbb hol).trans d0
  have d11 := (cellB hbb hol).trans d1
  have f01 := (frozenB hbb hol).trans f0
  have f11 := (frozenB hbb hol).trans f1
  have hpl : w.heap.size < w1.heap.size := by have := hb1.size; simp at this; omega
  have HFX : Hid (intsT.Fr w0.heap.size w1 [.slice ua x.length uc] x) := HF.out.below hbb
  clear c0 d0 d1 f0 f1
  cases hp : p x
  · have HY := Lib.hid (ycP_no (L := told) hp)
    have HP := Lib.hid hp
    clear hp
    go_wp2_with fail
    go_ret
    have hI1 := HI2.out.stable (fun k hk _ => hbb.block k hk) hbb.size
    obtain ⟨a1, a2, a3, a4, a5, a6, a7, a8, a9, a10, n', u'', a11, a12, -⟩ := hI1
    refine ⟨ret_int HY.out.symm, O, ⟨a1, a2, a3, a4, a5, a6, a7, a8, a9, a10, n', u'', a11, a12, fun _ hpp => ?_⟩, TchP.of_below hbb O, fun k hk => .inl hk⟩
    rw [List.getLastD_concat, HP.out] at hpp
    cases hpp
  · have HY := Lib.hid (ycP_yes (L := told) hp)
    clear hp
    go_wp2_with fail
    go_ret
    have ht : TchP (fun k => k = ob) w ((w1.setCell ⟨ob, 0, none⟩ (.int .i64 ar)).setCell ⟨ob, 1, none⟩ (.slice ua x.length uc)) := ((TchP.of_below hbb (fun k => k = ob)).then (TchP.set (O := fun k => k = ob) rfl) (fun k _ h => h)).then (TchP.set (O := fun k => k = ob) rfl) (fun k _ h => h)
    refine ⟨ret_int HY.out.symm, fun k => (O k ∨ w0.heap.size ≤ k) ∧ k < w1.heap.size, ⟨fun k hk => ⟨by simpa [World.setCell] using hk.2, ?_⟩, fun k hk => ⟨⟨.inl (HB.out k hk).1, ?_⟩, ?_⟩, ⟨.inl h2, by omega⟩, ⟨.inl h3, by omega⟩, hg1, hg2, h4, ?_, (World.frozen?_setCell _ _ _ _).trans ((World.frozen?_setCell _ _ _ _).trans f01), (World.frozen?_setCell _ _ _ _).trans ((World.frozen?_setCell _ _ _ _).trans f11), ar, _, (World.cell?_setCell_other _ _ _ _ (by simp)).trans (World.cell?_setCell_same _ _ _ d01), World.cell?_setCell_same _ _ _ ((World.cell?_setCell_other _ _ _ _ (by simp)).trans d11), fun _ _ => ⟨rfl, ?_⟩⟩, ht.mono (fun k _ h => by rw [h]; exact h3), fun k hk => hk.1⟩
    · rcases hk.1 with h | h
      · exact (H1.out k h).2
      · omega
    · have := (H1.out k (HB.out k hk).1).1; omega
    · have h9 := (H1.out k (HB.out k hk).1).1
      exact (ht.block k h9 (fun e => by omega)).trans (HB.out k hk).2
    · exact (World.cell?_setCell_other _ _ _ _ (fun e => h4 (congrArg Addr.block e).symm)).trans ((World.cell?_setCell_other _ _ _ _ (fun e => h4 (congrArg Addr.block e).symm)).trans c01)
    · rw [List.getLastD_concat]
      have h9 := (HFX.out.set (a := ⟨ob, 0, none⟩) (u := .int .i64 ar) hol0).set (a := ⟨ob, 1, none⟩) (u := .slice ua x.length uc) hol0
      exact (fr_on (h9.mono (show w0.heap.size ≤ w0.heap.size from Nat.le_refl _)) (fun k hk hl => ⟨⟨⟨.inr hk, by simpa [World.setCell] using hl⟩, by omega⟩, by omega⟩)).mono (by omega)
end Go.Proofs.YthjafhjghjbdmaaGreat
namespace Go.Proofs.YthjafhjghjbdmaaGreat
open Go.RowKit Go.Sort
set_option maxHeartbeats 3200000 in
set_option maxRecDepth 100000 in
theorem firstG_any (w : World) {p : List Int → Bool} {t : Tpl} {ar : Int} {fx : List Int} (hT : tplOk t) (har : 1 ≤ ar ∧ ar ≤ 3) (hl : limF t ar.toNat = false) {bs : Nat} {b0 : Nat} (hb0 : b0 ≤ bs) (gi : Nat) (ic : Array Value) (eg : ∀ args w, (callFunc gi args).run Tryz.prog w = .ok (.enter gi args) w)
    (hIs : Hid (∀ W u x, (∀ k, k < b0 → W.heap[k]? = w.heap[k]?) → intsT.Rd W [u] x → (x.length = tabL t ar ∧ ∀ a ∈ x, 0 ≤ a ∧ a ≤ t.1 - 1) → Calls Tryz.prog gi (#[.agg #[.int .i64 ar, u]] ++ ic) W fun e W' => e = .returned (.bool (p x)) ∧ Below W.heap.size W W'))
    (hF : Fd (fun k => (b0 ≤ k ∧ k < w.heap.size) ∧ k ≠ bs) w bs t ar (duesF (looksA t ar.toNat) (tabL t ar)) fx) (hTb : Tb 2 w.heap.size w bs 0 (.slice none 0 0) []) (hfx : fx.length = tabL t ar) :
    Calls Tryz.prog 51 #[.pointer (some ⟨bs, 0, none⟩), .func (.func gi) #[] ic] w (FoR w bs ar (polyF t ar fx (ycP p))) := by
  have HF := Lib.hid hF
  have HTB := Lib.hid hTb
  have hbs := hF.1
  have HLK := Lib.hid (tpl_looks hT har hl)
  have hNb := tabN_bd (tabN_of hT.1 (ar := ar.toNat) (by omega) (tabL_of hT))
  have HS0 : Hid (t.1 = (t.1.toNat : Int)) := by have := hT.1; unfold sizeOk at this; unfold Hid; omega
  have HTT := Lib.hid hT
  have HIS : Hid _ := hIs
  have HFXL := Lib.hid hfx
  clear hF hTb hT hl hfx hIs
  go_enter Tryz.func51, Tryz.ntmps51
  go_wp2_with fail
  generalize hW : World.alloc (World.alloc (World.alloc w _) _) _ = W
  have hbW : Below w.heap.size w W := hW ▸ bthen bAA bA
  have hsW : w.heap.size + 3 ≤ W.heap.size := by rw [← hW]; simp
  have r0 : W.cell? ⟨w.heap.size + 1, 0, none⟩ = some (.int .i64 0) := by rw [← hW]; simp [go_sem]
  have r1 : W.cell? ⟨w.heap.size + 1, 1, none⟩ = some (.slice none 0 0) := by rw [← hW]; simp [go_sem]
  have q0 : W.frozen? ⟨w.heap.size + 1, 0, none⟩ = false := by rw [← hW]; simp [go_sem]
  have q1 : W.frozen? ⟨w.heap.size + 1, 1, none⟩ = false := by rw [← hW]; simp [go_sem]
  have HI : Hid (oneG p ar (.func (.func gi) #[] ic) w b0 w.heap.size (w.heap.size + 1 + 1) w.heap.size [] (fun k => k < b0 ∨ k = w.heap.size ∨ k = w.heap.size + 1 + 1) W) :=
    ⟨fun k hk => by omega, fun k hk => ⟨.inl hk, hbW.block k (by omega)⟩, .inr (.inl rfl), .inr (.inr rfl), Nat.le_refl _, by omega, by omega, by rw [← hW]; simp [go_sem], by rw [← hW]; simp [go_sem], by rw [← hW]; simp [go_sem], 0, .slice none 0 0, by rw [← hW]; simp [go_sem], by rw [← hW]; simp [go_sem], fun h => absurd rfl h⟩
  have hIs2 : Hid (∀ W' u x, (∀ k, k < b0 → W'.heap[k]? = w.heap[k]?) → intsT.Rd W' [u] x → (x.length = tabL t ar ∧ ∀ a ∈ x, 0 ≤ a ∧ a ≤ t.1 - 1) → Calls Tryz.prog gi (#[.agg #[.int .i64 ar, u]] ++ ic) W' fun e W'' => e = .returned (.bool (p x)) ∧ Below W'.heap.size W' W'') := HIS.out
  clear hW
  refine (searchV_any HTT.out HS0.out (by omega) HLK.out.2.1 HLK.out.1 HLK.out.2.2 HFXL.out 131 #[.pointer (some ⟨w.heap.size, 0, none⟩), .pointer (some ⟨w.heap.size + 1 + 1, 0, none⟩)] (enters Tryz.func131 (by kernel_rfl) rfl) (ycP p) (oneG p ar (.func (.func gi) #[] ic) w b0 w.heap.size (w.heap.size + 1 + 1) w.heap.size) (firstG1_yf har w b0 _ _ _ (by omega) gi ic eg hIs2) (fun x h1 h2 => ⟨h1, h2⟩) bs w.heap.size (fun k => (b0 ≤ k ∧ k < w.heap.size) ∧ k ≠ bs) hbs (fun k hk => ⟨hk.1.2, hk.2⟩) (tabL t ar) W (.slice none 0 0) [] 0 [] (fun k => k < b0 ∨ k = w.heap.size ∨ k = w.heap.size + 1 + 1) (by simp) (fun a ha => by cases ha) (HF.out.below hbW) (HTB.out.below hbs hbW) HI.out (fun k hk h => by omega) (by omega) (fun k hk => by simp [Value.ownBlock] at hk) (by omega) (by simp) (by omega)).mono ?_
  rintro e w4 ⟨rfl, hsr⟩
  obtain ⟨v4, O4, -, -, hI4, hO5, -, ht4⟩ := hsr
  have HCP : Hid (srch t.1.toNat (goesF t (duesF (looksA t ar.toNat) (tabL t ar))) fx (ycP p) (tabL t ar) [] (0, 0, []) = polyF t ar fx (ycP p)) := rfl
  rw [HCP.out] at hI4 ⊢
  have HM1 : Hid ((polyF t ar fx (ycP p)).1 = -1 → (polyF t ar fx (ycP p)).2.2 ≠ [] ∧ ycP p (polyF t ar fx (ycP p)).2.2 = -1) := fun h => srch_m2 _ _ _ (fun h7 => absurd h7 (by show ¬ (0 : Int) = -1; decide)) h
  clear HCP
  generalize hRR : (polyF t ar fx (ycP p)) = R at *
  have HRR := Lib.hid hRR
  clear hRR
  have hn1 : ¬ ((w.heap.size + 1 < b0 ∨ w.heap.size + 1 = w.heap.size ∨ w.heap.size + 1 = w.heap.size + 1 + 1) ∨ w.heap.size + 1 = bs ∨ (Value.slice none 0 0).ownBlock = some (w.heap.size + 1)) := by
    rintro ((h | h | h) | h | h)
    · omega
    · omega
    · omega
    · omega
    · simp [Value.ownBlock] at h
  have hl1 : w.heap.size + 1 < W.heap.size := by omega
  have s0 := (ht4.cell (i := 0) hl1 hn1).trans r0
  have s1 := (ht4.cell (i := 1) hl1 hn1).trans r1
  have p0 := (ht4.frozen (i := 0) hl1 hn1).trans q0
  have p1 := (ht4.frozen (i := 1) hl1 hn1).trans q1
  obtain ⟨hO4, hB4, -, hOb, -, -, -, -, -, -, n4, u4, d0, d1, hD⟩ := hI4
  have HD := Lib.hid hD
  clear hD r0 r1 q0 q1
  have hno : ¬ O4 (w.heap.size + 1) := fun h => by
    rcases hO5 _ h with (h | h | h) | h
    · omega
    · omega
    · omega
    · omega
  have ho4 := (hO4 _ hOb).1
  have hl4 : w.heap.size + 1 < w4.heap.size := by have := ht4.size; omega
  have hIa : I64 ar := I64.small (by omega) (by omega)
  have hT4 : TchP (fun k => k = bs) w w4 := ⟨ht4.os.trans hbW.os, ht4.tape.trans hbW.tape, ht4.output.trans hbW.output, by have := ht4.size; omega, fun k hk hn => by
    rcases Nat.lt_or_ge k b0 with hkb | hkb
    · exact (hB4 k hkb).2
    · refine (ht4.block k (by omega) ?_).trans (hbW.block k hk)
      rintro ((h | h | h) | h | h)
      · omega
      · omega
      · omega
      · exact hn h
      · simp [Value.ownBlock] at h⟩
  have hfin : ∀ (x y : Value), TchP (fun k => k = bs) w ((w4.setCell ⟨w.heap.size + 1, 0, none⟩ x).setCell ⟨w.heap.size + 1, 1, none⟩ y) := fun x y => ⟨hT4.os, hT4.tape, hT4.output, by have := hT4.size; simpa [World.setCell] using this, fun k hk hn => ((Below.heap_setCell _ _ _ _ (by simp; omega)).trans (Below.heap_setCell _ _ _ _ (by simp; omega))).trans (hT4.block k hk hn)⟩
  have hz0 : ∀ (x y : Value), ((w4.setCell ⟨w.heap.size + 1, 0, none⟩ x).setCell ⟨w.heap.size + 1, 1, none⟩ y).cell? ⟨w.heap.size + 1, 0, none⟩ = some x := fun x y => (World.cell?_setCell_other _ _ _ _ (by simp)).trans (World.cell?_setCell_same _ _ _ s0)
  have hz1 : ∀ (x y : Value), ((w4.setCell ⟨w.heap.size + 1, 0, none⟩ x).setCell ⟨w.heap.size + 1, 1, none⟩ y).cell? ⟨w.heap.size + 1, 1, none⟩ = some y := fun x y => World.cell?_setCell_same _ _ _ ((World.cell?_setCell_other _ _ _ _ (by simp)).trans s1)
  have HFIN := Lib.hid hfin
  have HZ0 := Lib.hid hz0
  have HZ1 := Lib.hid hz1
  have HIa := Lib.hid hIa
  clear hfin hz0 hz1 hT4 ht4 hIa hn1 hO4 hO5 hB4
  cases hc : (R.1 == -1)
  · have HV : Hid (foV ar R = (0, [])) := by unfold Hid; unfold foV; rw [hc]
    cases hz : (R.1 == 0)
    · have HC : Hid (foC R = R.1) := by unfold Hid; unfold foC; rw [hc, hz]
      go_wp2_with fail
      refine bodyPost_ret (v := .tuple #[.agg #[.int .i64 0, .slice none 0 0], .int .i64 R.1]) (by simp [results, Tryz.results51, go_sem, HZ0.out, HZ1.out]) rfl ⟨[.int .i64 0, .slice none 0 0], by rw [HC.out], ?_, HFIN.out _ _⟩
      rw [HV.out]
      exact fr_cons (I64.small (by omega) (by omega)) fr_nil
    · have HC : Hid (foC R = 6) := by unfold Hid; unfold foC; rw [hc, hz]
      go_wp2_with fail
      refine bodyPost_ret (v := .tuple #[.agg #[.int .i64 0, .slice none 0 0], .int .i64 6]) (by simp [results, Tryz.results51, go_sem, HZ0.out, HZ1.out]) rfl ⟨[.int .i64 0, .slice none 0 0], by rw [HC.out], ?_, HFIN.out _ _⟩
      rw [HV.out]
      exact fr_cons (I64.small (by omega) (by omega)) fr_nil
  · have HV : Hid (foV ar R = (ar, R.2.2.getLastD [])) := by unfold Hid; unfold foV; rw [hc]
    have HC : Hid (foC R = 0) := by unfold Hid; unfold foC; rw [hc]
    have hm2 := HM1.out (by simpa using hc)
    obtain ⟨rfl, hfr⟩ := HD.out hm2.1 (ycP_m1 hm2.2)
    clear hm2
    obtain ⟨ua, un, uc, rfl⟩ := ex_slice (on_fr1 hfr)
    have HFR := Lib.hid hfr
    clear hfr
    go_wp2_with fail
    refine bodyPost_ret (v := .tuple #[.agg #[.int .i64 n4, .slice ua un uc], .int .i64 0]) (by simp [results, Tryz.results51, go_sem, HZ0.out, HZ1.out]) rfl ⟨[.int .i64 n4, .slice ua un uc], by rw [HC.out], ?_, HFIN.out _ _⟩
    rw [HV.out]
    exact fr_cons HIa.out (on_fr1 (on_fr_set (on_fr_set HFR.out (fun h => hno h.1.1)) (fun h => hno h.1.1)))
end Go.Proofs.YthjafhjghjbdmaaGreat
namespace Go.Proofs.YthjafhjghjbdmaaGreat
open Go.RowKit Go.Sort
theorem rd_rdP {α : Type} {E : Ty α} {w : World} {cs : List Value} {x : α} (h : E.Rd w cs x) : E.RdP (fun k => k < w.heap.size) w cs x := let ⟨fp, h⟩ := h; ⟨fp, h, fun k hk => E.lt h k hk⟩
noncomputable def phV (t : Tpl) (ar : Int) (ls : List (List Int)) (vs : List Int) : Int × List Int := match wF t ar ls vs with
  | none => (0, [])
  | some f => foV ar (polyF t ar f fun _ => -1)
noncomputable def phC (t : Tpl) (ar : Int) (ls : List (List Int)) (vs : List Int) : Int := match wF t ar ls vs with
  | none => 4
  | some f => foC (polyF t ar f fun _ => -1)
set_option maxHeartbeats 3200000 in
set_option maxRecDepth 100000 in
theorem polymorphismWith_any (w : World) {cs : Array Value} {t : Tpl} {v v' : Value} {ls : List (List Int)} {vs : List Int} (h : tplT.Rd w cs.toList t) (hl : rowsT.Rd w [v] ls) (hv : intsT.Rd w [v'] vs) {ar : Int} (hT : tplOk t) (har : 1 ≤ ar ∧ ar ≤ 3) (hlm : limF t ar.toNat = false) (hin : ∀ l ∈ ls, (l.length : Int) = ar ∧ ∀ a ∈ l, 0 ≤ a ∧ a ≤ t.1 - 1) (hlen : ls.length = vs.length) (hvs : ∀ a ∈ vs, 0 ≤ a ∧ a ≤ t.1 - 1) (hL : ls.length ≤ 140737488351232) :
    Calls Tryz.prog 70 #[.agg cs, .int .i64 ar, v, v'] w (RetAC opT w (phV t ar ls vs) (phC t ar ls vs)) := by
  have HT := Lib.hid h
  have HL := Lib.hid hl
  have HV := Lib.hid hv
  have HIN := Lib.hid hin
  have HVS := Lib.hid hvs
  have HLEN := Lib.hid hlen
  have HTT := Lib.hid hT
  have HLF := Lib.hid hlm
  have hs4 := hT.1
  unfold sizeOk at hs4
  obtain ⟨v1, hv1, -, -⟩ := pair_ex h
  obtain rfl := agg_of hv1
  clear h hv1 hl hv hin hvs hlen hT hlm
  go_enter Tryz.func70, Tryz.ntmps70
  go_wp2_with fail
  generalize hW : World.alloc (World.alloc w _) _ = W
  have hbW : Below w.heap.size w W := hW ▸ bAA
  have hsW : w.heap.size + 2 ≤ W.heap.size := by rw [← hW]; simp
  have r0 : W.cell? ⟨w.heap.size + 1, 0, none⟩ = some (.int .i64 0) := by rw [← hW]; simp [go_sem]
  have r1 : W.cell? ⟨w.heap.size + 1, 1, none⟩ = some (.slice none 0 0) := by rw [← hW]; simp [go_sem]
  have q0 : W.frozen? ⟨w.heap.size + 1, 0, none⟩ = false := by rw [← hW]; simp [go_sem]
  have q1 : W.frozen? ⟨w.heap.size + 1, 1, none⟩ = false := by rw [← hW]; simp [go_sem]
  clear hW
  refine (newFinder_any _ (HT.out.below hbW) HTT.out har HLF.out (tabL_of HTT.out)).mono ?_
  rintro e w3 hnf
  obtain ⟨bs, gd, gt, vin, rfl, hbs, hgt, hne, hbx, hgth, hdu, hin, hb3⟩ := hnf
  have hz3 := hb3.size
  obtain ⟨hbslt, b0, b2, b3, b4, b5, b6, b7, -, e6, e7⟩ := hbx
  have hgtl := lt_of_block hgth
  have hNb := tabN_bd (tabN_of HTT.out.1 (ar := ar.toNat) (by omega) (tabL_of HTT.out))
  have hB3 := bthen hbW hb3
  have hI3 : IR 2 W.heap.size w3 gt (tabL t ar) (tabL t ar) (List.replicate (tabL t ar) (-1)) := IR.of_mone hgth hgt (by omega)
  have HI3 := Lib.hid hI3
  have HDU := Lib.hid hdu
  have HII := Lib.hid hin
  have hix : ∀ l ∈ ls, l.length ≤ 3 ∧ (∀ a ∈ l, 0 ≤ a ∧ a ≤ t.1 - 1) ∧ idxL t.1 0 l < (tabL t ar : Int) := fun l hl => by
    obtain ⟨h1, h2⟩ := HIN.out l hl
    refine ⟨by omega, h2, ?_⟩
    have h3 := (idx_bd (by omega) h2 l.length (Nat.le_refl _)).2
    rw [List.take_length] at h3
    have h4 := tabL_of (ar := ar) HTT.out
    have h5 : ar.toNat = l.length := by omega
    rw [h5] at h4
    omega
  have HIX := Lib.hid hix
  clear hI3 hdu hin hgth hix
  go_wp2_with fail
  refine (tell_any w3 hbslt b0 b5 HI3.out hne (by omega) (((rd_rdP HL.out).below hB3).mono (fun k _ hk => by omega)) (((rd_rdP HV.out).below hB3).mono (fun k _ hk => by omega)) HLEN.out HIX.out HVS.out (fun a ha => by rw [List.eq_of_mem_replicate ha]; omega) hL).mono ?_
  rintro e w4 ⟨rfl, ht4, hI4⟩
  rw [show telK t.1 ls vs (List.replicate (tabL t ar) (-1)) ls.length = wF t ar ls vs from rfl] at hI4 ⊢
  have hz4 := ht4.size
  have hbg : bs ≠ gt := fun h => hne h.symm
  have hB4 : Below w.heap.size w w4 := hB3.trans (ht4.below (by omega) (fun k hk h => by omega))
  have s0 := (ht4.cell (i := 0) (show w.heap.size + 1 < w3.heap.size by omega) (by omega)).trans ((cellB hb3 (by omega)).trans r0)
  have s1 := (ht4.cell (i := 1) (show w.heap.size + 1 < w3.heap.size by omega) (by omega)).trans ((cellB hb3 (by omega)).trans r1)
  have p0 := (ht4.frozen (i := 0) (show w.heap.size + 1 < w3.heap.size by omega) (by omega)).trans ((frozenB hb3 (by omega)).trans q0)
  have p1 := (ht4.frozen (i := 1) (show w.heap.size + 1 < w3.heap.size by omega) (by omega)).trans ((frozenB hb3 (by omega)).trans q1)
  have hl4 : w.heap.size + 1 < w4.heap.size := by omega
  cases hw : wF t ar ls vs with
  | none =>
    have HVV : Hid (phV t ar ls vs = (0, [])) := by unfold Hid phV; rw [hw]
    have HCC : Hid (phC t ar ls vs = 4) := by unfold Hid phC; rw [hw]
    rw [show (none : Option (List Int)).isSome = false from rfl]
    clear hI4 hw r0 r1 q0 q1 b0 b2 b3 b4 b5 b6 b7 e6 e7
    have hz0 : ∀ (x y : Value), ((w4.setCell ⟨w.heap.size + 1, 0, none⟩ x).setCell ⟨w.heap.size + 1, 1, none⟩ y).cell? ⟨w.heap.size + 1, 0, none⟩ = some x := fun x y => (World.cell?_setCell_other _ _ _ _ (by simp)).trans (World.cell?_setCell_same _ _ _ s0)
    have hz1 : ∀ (x y : Value), ((w4.setCell ⟨w.heap.size + 1, 0, none⟩ x).setCell ⟨w.heap.size + 1, 1, none⟩ y).cell? ⟨w.heap.size + 1, 1, none⟩ = some y := fun x y => World.cell?_setCell_same _ _ _ ((World.cell?_setCell_other _ _ _ _ (by simp)).trans s1)
    have HZ0 := Lib.hid hz0
    have HZ1 := Lib.hid hz1
    clear hz0 hz1
    go_wp2_with fail
    refine bodyPost_ret (v := .tuple #[.agg #[.int .i64 0, .slice none 0 0], .int .i64 4]) (by simp [results, Tryz.results70, go_sem, HZ0.out, HZ1.out]) rfl ⟨[.int .i64 0, .slice none 0 0], by rw [HCC.out], ?_, ?_⟩
    · rw [HVV.out]
      exact fr_cons (I64.small (by omega) (by omega)) fr_nil
    · exact hB4.trans (((TchP.set (O := fun k => k = w.heap.size + 1) rfl).then (TchP.set (O := fun k => k = w.heap.size + 1) rfl) (fun k _ h => h)).below (by omega) (fun k hk h => by omega))
  | some f =>
    have HVV : Hid (phV t ar ls vs = foV ar (polyF t ar f fun _ => -1)) := by unfold Hid phV; rw [hw]
    have HCC : Hid (phC t ar ls vs = foC (polyF t ar f fun _ => -1)) := by unfold Hid phC; rw [hw]
    rw [show (some f : Option (List Int)).isSome = true from rfl]
    have h1 := hI4 f hw
    have HFD : Hid (Fd (fun k => k < w4.heap.size ∧ k ≠ bs) w4 bs t ar (duesF (looksA t ar.toNat) (tabL t ar)) f) := by
      refine ⟨by omega, _, _, _, (ht4.cell hbslt hbg).trans b0, (ht4.cell hbslt hbg).trans b2, (ht4.cell hbslt hbg).trans b3, (ht4.cell hbslt hbg).trans b4, (ht4.cell hbslt hbg).trans b5, (HDU.out.tchP ht4 (fun k _ hk h => hk.2.2 h)).mono (fun k h1 h2 => ⟨h1, h2.2.1⟩), (HII.out.tchP ht4 (fun k _ hk h => hk.2.2 h)).mono (fun k h1 h2 => ⟨h1, h2.2.1⟩), ?_⟩
      obtain ⟨fp, h2, -, h3, -⟩ := h1.fr (by unfold capMax; omega)
      exact ⟨fp, h2, fun k hk => ⟨intsT.lt h2 k hk, by rw [IR.fp h1 h2 k hk]; exact hne⟩⟩
    have HTB : Hid (Tb 2 w4.heap.size w4 bs 0 (.slice none 0 0) []) := ⟨(ht4.cell hbslt hbg).trans b6, (ht4.cell hbslt hbg).trans b7, (ht4.frozen hbslt hbg).trans e6, (ht4.frozen hbslt hbg).trans e7, Bl.nil⟩
    have hfl : f.length = tabL t ar := h1.1
    clear hI4 hw r0 r1 q0 q1 b0 b2 b3 b4 b5 b6 b7 e6 e7 h1
    go_wp2_with fail
    refine (firstOf_any w4 HTT.out har HLF.out HFD.out HTB.out hfl).mono ?_
    rintro e w5 ⟨cs5, rfl, hf5, ht5⟩
    generalize foV ar (polyF t ar f fun _ => -1) = V at hf5 HVV
    generalize foC (polyF t ar f fun _ => -1) = C at HCC ⊢
    obtain ⟨ad5, cap5, rfl⟩ := fr_pair hf5
    have HF5 := Lib.hid hf5
    have hnb : w.heap.size + 1 ≠ bs := by omega
    have u0 := (ht5.cell hl4 hnb).trans s0
    have u1 := (ht5.cell hl4 hnb).trans s1
    have k0 := (ht5.frozen hl4 hnb).trans p0
    have k1 := (ht5.frozen hl4 hnb).trans p1
    have hz5 := ht5.size
    have hl5 : w.heap.size + 1 < w5.heap.size := by omega
    have hB5 : Below w.heap.size w w5 := hB4.trans (ht5.below (by omega) (fun k hk h => by omega))
    have hz0 : ∀ (x y : Value), ((w5.setCell ⟨w.heap.size + 1, 0, none⟩ x).setCell ⟨w.heap.size + 1, 1, none⟩ y).cell? ⟨w.heap.size + 1, 0, none⟩ = some x := fun x y => (World.cell?_setCell_other _ _ _ _ (by simp)).trans (World.cell?_setCell_same _ _ _ u0)
    have hz1 : ∀ (x y : Value), ((w5.setCell ⟨w.heap.size + 1, 0, none⟩ x).setCell ⟨w.heap.size + 1, 1, none⟩ y).cell? ⟨w.heap.size + 1, 1, none⟩ = some y := fun x y => World.cell?_setCell_same _ _ _ ((World.cell?_setCell_other _ _ _ _ (by simp)).trans u1)
    have HZ0 := Lib.hid hz0
    have HZ1 := Lib.hid hz1
    clear hz0 hz1 s0 s1 p0 p1 hf5 ht5 ht4
    go_wp2_with fail
    refine bodyPost_ret (v := .tuple #[.agg #[.int .i64 V.1, .slice ad5 V.2.length cap5], .int .i64 C]) (by simp [results, Tryz.results70, go_sem, HZ0.out, HZ1.out]) rfl ⟨[.int .i64 V.1, .slice ad5 V.2.length cap5], by rw [HCC.out], ?_, ?_⟩
    · rw [HVV.out]
      exact ((HF5.out.set (a := ⟨w.heap.size + 1, 0, none⟩) hl4).set (a := ⟨w.heap.size + 1, 1, none⟩) hl4).mono (by omega)
    · exact hB5.trans (((TchP.set (O := fun k => k = w.heap.size + 1) rfl).then (TchP.set (O := fun k => k = w.heap.size + 1) rfl) (fun k _ h => h)).below (by omega) (fun k hk h => by omega))
end Go.Proofs.YthjafhjghjbdmaaGreat
namespace Go.Proofs.YthjafhjghjbdmaaGreat
open Go.RowKit Go.Sort
theorem pw_ph {t : Tpl} {ar : Int} {ls : List (List Int)} {vs : List Int} (h : askC t ar = 0) (h1 : wOk t ar ls vs = true) (h3 : limF t ar.toNat = false) : pwV t ar ls vs = phV t ar ls vs ∧ pwC t ar ls vs = phC t ar ls vs := by
  unfold phV phC
  cases h2 : wF t ar ls vs with
  | none => exact pw_st h h1 h2
  | some f =>
    show pwV t ar ls vs = foV ar (polyF t ar f fun _ => -1) ∧ pwC t ar ls vs = foC (polyF t ar f fun _ => -1)
    by_cases h4 : (polyF t ar f fun _ => -1).1 = -1
    · obtain ⟨e1, e2⟩ := pw_yes h h1 h2 h3 h4
      have hc : ((polyF t ar f fun _ => -1).1 == -1) = true := by simpa using h4
      rw [e1, e2]
      unfold foV foC
      rw [hc]
      exact ⟨rfl, rfl⟩
    · have hc : ((polyF t ar f fun _ => -1).1 == -1) = false := by simpa using h4
      by_cases h5 : (polyF t ar f fun _ => -1).1 = 0
      · obtain ⟨e1, e2⟩ := pw_non h h1 h2 h3 h5
        have hz : ((polyF t ar f fun _ => -1).1 == 0) = true := by simpa using h5
        rw [e1, e2]
        unfold foV foC
        rw [hc, hz]
        exact ⟨rfl, rfl⟩
      · obtain ⟨e1, e2⟩ := pw_err h h1 h2 h3 h4 h5
        have hz : ((polyF t ar f fun _ => -1).1 == 0) = false := by simpa using h5
        rw [e1, e2]
        unfold foV foC
        rw [hc, hz]
        exact ⟨rfl, rfl⟩
set_option maxHeartbeats 800000 in
theorem pw1_any (w : World) {bt ba : Nat} {s ar : Int} {u : Value} {x : List Int} (h : intsT.Rd w [u] x) (hs : 0 ≤ s ∧ s ≤ 1000) (h0 : w.cell? ⟨bt, 0, none⟩ = some (.int .i64 s)) (h1 : w.cell? ⟨ba, 0, none⟩ = some (.int .i64 ar)) :
    Calls Tryz.prog 68 #[u, .pointer (some ⟨bt, 0, none⟩), .pointer (some ⟨ba, 0, none⟩)] w fun e w' => e = .returned (.bool (!(tb (rowOk s ar x)))) ∧ Below w.heap.size w w' := by
  have HX := Lib.hid h
  obtain ⟨ad, cap, rfl⟩ := rd_slice h
  clear h
  go_enter Tryz.func68, Tryz.ntmps68
  go_wp2_with fail
  refine (areValues_any w HX.out s ar hs.1 (by omega)).mono ?_
  rintro e w1 ⟨rfl, hb1⟩
  go_wp2_with fail
  go_ret
  exact ⟨rfl, hb1⟩
end Go.Proofs.YthjafhjghjbdmaaGreat
namespace Go.Proofs.YthjafhjghjbdmaaGreat
open Go.RowKit Go.Sort
/-- a struct of two cells, laid as a result -/
theorem res2_0 {W : World} {b : Nat} {x0 x y : Value} (s0 : W.cell? ⟨b, 0, none⟩ = some x0) : ((W.setCell ⟨b, 0, none⟩ x).setCell ⟨b, 1, none⟩ y).cell? ⟨b, 0, none⟩ = some x := (World.cell?_setCell_other _ _ _ _ (by simp)).trans (World.cell?_setCell_same _ _ _ s0)
theorem res2_1 {W : World} {b : Nat} {x1 x y : Value} (s1 : W.cell? ⟨b, 1, none⟩ = some x1) : ((W.setCell ⟨b, 0, none⟩ x).setCell ⟨b, 1, none⟩ y).cell? ⟨b, 1, none⟩ = some y := World.cell?_setCell_same _ _ _ ((World.cell?_setCell_other _ _ _ _ (by simp)).trans s1)
theorem res2_b {w W : World} {B b : Nat} {x y : Value} (h : Below B w W) (hB : B ≤ b) : Below B w ((W.setCell ⟨b, 0, none⟩ x).setCell ⟨b, 1, none⟩ y) := by
  refine ⟨h.os, h.tape, h.output, by have := h.size; simpa [World.setCell] using this, fun k hk => ?_⟩
  exact ((Below.heap_setCell _ _ _ _ (by simp; omega)).trans (Below.heap_setCell _ _ _ _ (by simp; omega))).trans (h.block k hk)
theorem fr_op0 {base : Nat} {w : World} : opT.Fr base w [.int .i64 0, .slice none 0 0] (0, []) := fr_cons (I64.small (by omega) (by omega)) fr_nil
theorem wOk_no1 {t : Tpl} {ar : Int} {ls : List (List Int)} {vs : List Int} (h : tb (rowOk t.1 ls.length vs) = false) : wOk t ar ls vs = false := by unfold wOk; rw [h]; rfl
theorem wOk_any {t : Tpl} {ar : Int} {ls : List (List Int)} {vs : List Int} (h : tb (rowOk t.1 ls.length vs) = true) : wOk t ar ls vs = !(anyB (fun l => !(tb (rowOk t.1 ar l))) ls) := by
  unfold wOk anyB
  rw [h, Bool.true_and, List.not_any_eq_all_not]
  simp
theorem wOk_in {t : Tpl} {ar : Int} {ls : List (List Int)} {vs : List Int} (h : wOk t ar ls vs = true) : ls.length = vs.length ∧ (∀ l ∈ ls, (l.length : Int) = ar ∧ ∀ a ∈ l, 0 ≤ a ∧ a ≤ t.1 - 1) ∧ ∀ a ∈ vs, 0 ≤ a ∧ a ≤ t.1 - 1 := by
  unfold wOk at h
  rw [Bool.and_eq_true, List.all_eq_true] at h
  have h1 := tb_iff.1 h.1
  exact ⟨by have := h1.1; omega, fun l hl => tb_iff.1 (h.2 l hl), h1.2⟩
theorem tabL_nil {t : Tpl} {ar : Int} : tabL (t.1, []) ar = tabL t ar := rfl
theorem limF_nil {s : Int} {n : Nat} : limF (s, []) n = false := by simp [limF, manyF, sumL]
theorem tplOk_nil {t : Tpl} (h : tplOk t) : tplOk (t.1, []) := ⟨h.1, by simp, fun r hr => by cases hr⟩
set_option maxHeartbeats 3200000 in
set_option maxRecDepth 100000 in
theorem PolymorphismWith_any (w : World) {cs : Array Value} {t : Tpl} {v v' : Value} {ls : List (List Int)} {vs : List Int} (h : tplT.Rd w cs.toList t) (hl : rowsT.Rd w [v] ls) (hv : intsT.Rd w [v'] vs) {ar : Int} :
    Calls Tryz.prog 22 #[.agg cs, .int .i64 ar, v, v'] w (RetAC opT w (pwV t ar ls vs) (pwC t ar ls vs)) := by
  have HT := Lib.hid h
  have hL : ls.length ≤ 140737488351232 := by
    obtain ⟨_, _, -, -, hc, -⟩ := slices_ex hl
    exact hc
  have HL := Lib.hid hl
  have HV := Lib.hid hv
  obtain ⟨v1, hv1, -, -⟩ := pair_ex h
  obtain rfl := agg_of hv1
  obtain ⟨la, lc, rfl⟩ := rd_slice hl
  obtain ⟨va, vc, rfl⟩ := rd_slice hv
  clear h hv1 hl hv
  go_enter Tryz.func22, Tryz.ntmps22
  go_wp2_with fail
  generalize hW : World.alloc (World.alloc (World.alloc w _) _) _ = W
  have hbW : Below w.heap.size w W := hW ▸ bthen bAA bA
  have hsW : w.heap.size + 3 ≤ W.heap.size := by rw [← hW]; simp
  have t0 : W.cell? ⟨w.heap.size, 0, none⟩ = some (.int .i64 t.1) := by rw [← hW]; simp [go_sem]
  have t1 : W.cell? ⟨w.heap.size, 1, none⟩ = some v1 := by rw [← hW]; simp [go_sem]
  have a0 : W.cell? ⟨w.heap.size + 1, 0, none⟩ = some (.int .i64 ar) := by rw [← hW]; simp [go_sem]
  have r0 : W.cell? ⟨w.heap.size + 1 + 1, 0, none⟩ = some (.int .i64 0) := by rw [← hW]; simp [go_sem]
  have r1 : W.cell? ⟨w.heap.size + 1 + 1, 1, none⟩ = some (.slice none 0 0) := by rw [← hW]; simp [go_sem]
  have q0 : W.frozen? ⟨w.heap.size + 1 + 1, 0, none⟩ = false := by rw [← hW]; simp [go_sem]
  have q1 : W.frozen? ⟨w.heap.size + 1 + 1, 1, none⟩ = false := by rw [← hW]; simp [go_sem]
  clear hW
  refine (searchFault_any _ (HT.out.below hbW) ar).mono ?_
  rintro e w1 ⟨rfl, hb1⟩
  have hB1 := bthen hbW hb1
  have hz1 := hb1.size
  replace t0 := (cellB hb1 (by omega)).trans t0
  replace t1 := (cellB hb1 (by omega)).trans t1
  replace a0 := (cellB hb1 (by omega)).trans a0
  replace r0 := (cellB hb1 (by omega)).trans r0
  replace r1 := (cellB hb1 (by omega)).trans r1
  replace q0 := (frozenB hb1 (by omega)).trans q0
  replace q1 := (frozenB hb1 (by omega)).trans q1
  have hl1 : w.heap.size + 3 ≤ w1.heap.size := by omega
  cases ha : (askC t ar != 0)
  · have ha0 : askC t ar = 0 := by simpa using ha
    have HAOK := Lib.hid (ask_ok ha0)
    have HA0 := Lib.hid ha0
    have har := (ask_ok ha0).2
    have hs4 := (ask_ok ha0).1.1
    unfold sizeOk at hs4
    rw [ha0]
    clear ha ha0
    go_wp2_with fail
    refine (areValues_any _ (HV.out.below hB1) t.1 (ls.length : Int) (by omega) (by omega)).mono ?_
    rintro e w2 ⟨rfl, hb2⟩
    have hB2 := bthen hB1 hb2
    have hz2 := hb2.size
    replace t0 := (cellB hb2 (by omega)).trans t0
    replace t1 := (cellB hb2 (by omega)).trans t1
    replace a0 := (cellB hb2 (by omega)).trans a0
    replace r0 := (cellB hb2 (by omega)).trans r0
    replace r1 := (cellB hb2 (by omega)).trans r1
    replace q0 := (frozenB hb2 (by omega)).trans q0
    replace q1 := (frozenB hb2 (by omega)).trans q1
    have hl2 : w.heap.size + 3 ≤ w2.heap.size := by omega
    cases hr : tb (rowOk t.1 (ls.length : Int) vs)
    · have HR := Lib.hid (pw_bad HA0.out (wOk_no1 (ar := ar) hr))
      have HZ0 := Lib.hid (fun (x y : Value) => res2_0 (x := x) (y := y) r0)
      have HZ1 := Lib.hid (fun (x y : Value) => res2_1 (x := x) (y := y) r1)
      clear hr
      go_wp2_with fail
      refine bodyPost_ret (v := .tuple #[.agg #[.int .i64 0, .slice none 0 0], .int .i64 2]) (by simp [results, Tryz.results22, go_sem, HZ0.out, HZ1.out]) rfl ⟨[.int .i64 0, .slice none 0 0], by rw [HR.out.2], ?_, res2_b hB2 (by omega)⟩
      rw [HR.out.1]
      exact fr_op0
    · have HWK := Lib.hid (wOk_any (ar := ar) hr)
      have HRV := Lib.hid (tb_iff.1 hr)
      clear hr
      have HPF : Hid (∀ W', Below w2.heap.size w2 W' → ∀ k (h : k < ls.length) (u : Value), intsT.Rd W' [u] ls[k] → Calls Tryz.prog 68 (#[u] ++ #[.pointer (some ⟨w.heap.size, 0, none⟩), .pointer (some ⟨w.heap.size + 1, 0, none⟩)]) W' fun e W'' => e = .returned (.bool ((fun l => !(tb (rowOk t.1 ar l))) ls[k])) ∧ Below W'.heap.size W' W'') := by
        intro W' hW' k hk u hu
        have hz := hW'.size
        exact pw1_any W' hu (by omega) ((cellB hW' (by omega)).trans t0) ((cellB hW' (by omega)).trans a0)
      go_wp2_with fail
      refine (ContainsFuncInts_any _ (HL.out.below hB2) (fun l => !(tb (rowOk t.1 ar l))) 68 _ (enters Tryz.func68 (by kernel_rfl) rfl) HPF.out).mono ?_
      rintro e w3 ⟨rfl, hb3⟩
      have hB3 := bthen hB2 hb3
      have hz3 := hb3.size
      replace t0 := (cellB hb3 (by omega)).trans t0
      replace t1 := (cellB hb3 (by omega)).trans t1
      replace a0 := (cellB hb3 (by omega)).trans a0
      replace r0 := (cellB hb3 (by omega)).trans r0
      replace r1 := (cellB hb3 (by omega)).trans r1
      replace q0 := (frozenB hb3 (by omega)).trans q0
      replace q1 := (frozenB hb3 (by omega)).trans q1
      have hl3 : w.heap.size + 3 ≤ w3.heap.size := by omega
      cases hn : anyB (fun l => !(tb (rowOk t.1 ar l))) ls
      · have HOK : Hid (wOk t ar ls vs = true) := by unfold Hid; rw [HWK.out, hn]; rfl
        obtain ⟨hlen, hin, hvs⟩ := wOk_in HOK.out
        have HIN := Lib.hid hin
        have HLEN := Lib.hid hlen
        have HVS := Lib.hid hvs
        have HT0 := Lib.hid (tplOk_nil HAOK.out.1)
        have hI1 : I64 t.1 := I64.small (by omega) (by omega)
        have HI1 := Lib.hid hI1
        clear hn hlen hin hvs hI1
        go_wp2_with fail
        refine (newFinder_any _ (ct := #[.int .i64 t.1, .slice none 0 0]) (t := (t.1, [])) (fr_cons (base := 0) HI1.out fr_nil).rd HT0.out har limF_nil (tabL_of HT0.out)).mono ?_
        rintro e w4 hnf
        obtain ⟨bs, gd, gt, vin, rfl, hbs, hgt, hne, hbx, hgth, -, -, hb4⟩ := hnf
        have hz4 := hb4.size
        obtain ⟨hbslt, b0, -, -, -, b5, -, -, -, -, -⟩ := hbx
        have hgtl := lt_of_block hgth
        have hNb := tabN_bd (tabN_of HAOK.out.1.1 (ar := ar.toNat) (by omega) (tabL_of HAOK.out.1))
        have hB4 := bthen hB3 hb4
        replace t0 := (cellB hb4 (by omega)).trans t0
        replace t1 := (cellB hb4 (by omega)).trans t1
        replace a0 := (cellB hb4 (by omega)).trans a0
        replace r0 := (cellB hb4 (by omega)).trans r0
        replace r1 := (cellB hb4 (by omega)).trans r1
        replace q0 := (frozenB hb4 (by omega)).trans q0
        replace q1 := (frozenB hb4 (by omega)).trans q1
        have hl4 : w.heap.size + 3 ≤ w4.heap.size := by omega
        rw [tabL_nil] at hgth b5
        have HI4 : Hid (IR 2 w3.heap.size w4 gt (tabL t ar) (tabL t ar) (List.replicate (tabL t ar) (-1))) := IR.of_mone hgth hgt (by omega)
        have hix : ∀ l ∈ ls, l.length ≤ 3 ∧ (∀ a ∈ l, 0 ≤ a ∧ a ≤ t.1 - 1) ∧ idxL t.1 0 l < (tabL t ar : Int) := fun l hl => by
          obtain ⟨h1, h2⟩ := HIN.out l hl
          refine ⟨by omega, h2, ?_⟩
          have h3 := (idx_bd (by omega) h2 l.length (Nat.le_refl _)).2
          rw [List.take_length] at h3
          have h4 := tabL_of (ar := ar) HAOK.out.1
          have h5 : ar.toNat = l.length := by omega
          rw [h5] at h4
          omega
        have HIX := Lib.hid hix
        clear hgth hix
        go_wp2_with fail
        refine (tell_any w4 hbslt b0 b5 HI4.out hne (by omega) (((rd_rdP HL.out).below hB4).mono (fun k _ hk => by omega)) (((rd_rdP HV.out).below hB4).mono (fun k _ hk => by omega)) HLEN.out HIX.out HVS.out (fun a ha => by rw [List.eq_of_mem_replicate ha]; omega) hL).mono ?_
        rintro e w5 ⟨rfl, ht5, -⟩
        rw [show telK t.1 ls vs (List.replicate (tabL t ar) (-1)) ls.length = wF t ar ls vs from rfl]
        have hz5 := ht5.size
        have hB5 : Below w.heap.size w w5 := hB4.trans (ht5.below (by omega) (fun k hk h => by omega))
        have hb5 : Below w3.heap.size w4 w5 := ht5.below (by omega) (fun k hk h => by omega)
        replace t0 := (cellB hb5 (by omega)).trans t0
        replace t1 := (cellB hb5 (by omega)).trans t1
        replace a0 := (cellB hb5 (by omega)).trans a0
        replace r0 := (cellB hb5 (by omega)).trans r0
        replace r1 := (cellB hb5 (by omega)).trans r1
        replace q0 := (frozenB hb5 (by omega)).trans q0
        replace q1 := (frozenB hb5 (by omega)).trans q1
        have hl5 : w.heap.size + 3 ≤ w5.heap.size := by omega
        clear b0 b5 ht5
        have HZ0 := Lib.hid (fun (x y : Value) => res2_0 (x := x) (y := y) r0)
        have HZ1 := Lib.hid (fun (x y : Value) => res2_1 (x := x) (y := y) r1)
        cases hw : wF t ar ls vs with
        | none =>
          have HR := Lib.hid (pw_st HA0.out HOK.out hw)
          rw [show (none : Option (List Int)).isSome = false from rfl]
          clear hw
          go_wp2_with fail
          refine bodyPost_ret (v := .tuple #[.agg #[.int .i64 0, .slice none 0 0], .int .i64 4]) (by simp [results, Tryz.results22, go_sem, HZ0.out, HZ1.out]) rfl ⟨[.int .i64 0, .slice none 0 0], by rw [HR.out.2], ?_, res2_b hB5 (by omega)⟩
          rw [HR.out.1]
          exact fr_op0
        | some f =>
          have HW := Lib.hid hw
          rw [show (some f : Option (List Int)).isSome = true from rfl]
          clear hw HZ0 HZ1
          go_wp2_with fail
          refine (manyLooks_any _ (HT.out.below hB5) HAOK.out.1 har).mono ?_
          rintro e w6 ⟨rfl, hb6⟩
          have hB6 := bthen hB5 hb6
          have hz6 := hb6.size
          replace t0 := (cellB hb6 (by omega)).trans t0
          replace t1 := (cellB hb6 (by omega)).trans t1
          replace a0 := (cellB hb6 (by omega)).trans a0
          replace r0 := (cellB hb6 (by omega)).trans r0
          replace r1 := (cellB hb6 (by omega)).trans r1
          replace q0 := (frozenB hb6 (by omega)).trans q0
          replace q1 := (frozenB hb6 (by omega)).trans q1
          have hl6 : w.heap.size + 3 ≤ w6.heap.size := by omega
          have HLM : Hid (decide (4000 < sumL (minP ar.toNat) t.2) = limF t ar.toNat) := lim_min
          generalize sumL (minP ar.toNat) t.2 = S at *
          cases hlm : decide (4000 < S)
          · have HLF : Hid (limF t ar.toNat = false) := by unfold Hid; rw [← HLM.out]; exact hlm
            have HPH := Lib.hid (pw_ph HA0.out HOK.out HLF.out)
            go_wp2_with fail
            refine (polymorphismWith_any _ (HT.out.below hB6) (HL.out.below hB6) (HV.out.below hB6) HAOK.out.1 har HLF.out HIN.out HLEN.out HVS.out hL).mono ?_
            rintro e w7 ⟨cs7, rfl, hf7, hb7⟩
            rw [← HPH.out.1] at hf7
            rw [← HPH.out.2]
            generalize hV : pwV t ar ls vs = V at hf7
            generalize hC : pwC t ar ls vs = C
            have HCC := Lib.hid hC
            have HVV := Lib.hid hV
            obtain ⟨ad7, cap7, rfl⟩ := fr_pair hf7
            have HF7 := Lib.hid hf7
            have hB7 := bthen hB6 hb7
            have hz7 := hb7.size
            replace t0 := (cellB hb7 (by omega)).trans t0
            replace t1 := (cellB hb7 (by omega)).trans t1
            replace a0 := (cellB hb7 (by omega)).trans a0
            replace r0 := (cellB hb7 (by omega)).trans r0
            replace r1 := (cellB hb7 (by omega)).trans r1
            replace q0 := (frozenB hb7 (by omega)).trans q0
            replace q1 := (frozenB hb7 (by omega)).trans q1
            have hl7 : w.heap.size + 3 ≤ w7.heap.size := by omega
            have HZ0 := Lib.hid (fun (x y : Value) => res2_0 (x := x) (y := y) r0)
            have HZ1 := Lib.hid (fun (x y : Value) => res2_1 (x := x) (y := y) r1)
            clear hf7 hlm HPH hC hV
            go_wp2_with fail
            refine bodyPost_ret (v := .tuple #[.agg #[.int .i64 V.1, .slice ad7 V.2.length cap7], .int .i64 C]) (by simp [results, Tryz.results22, go_sem, HZ0.out, HZ1.out]) rfl ⟨[.int .i64 V.1, .slice ad7 V.2.length cap7], by rw [HCC.out], ?_, res2_b hB7 (by omega)⟩
            rw [HVV.out]
            exact ((HF7.out.set (a := ⟨w.heap.size + 1 + 1, 0, none⟩) (show w.heap.size + 1 + 1 < w6.heap.size by omega)).set (a := ⟨w.heap.size + 1 + 1, 1, none⟩) (show w.heap.size + 1 + 1 < w6.heap.size by omega)).mono (by omega)
          · have HR := Lib.hid (pw_lim HA0.out HOK.out HW.out (by rw [← HLM.out]; exact hlm))
            have HZ0 := Lib.hid (fun (x y : Value) => res2_0 (x := x) (y := y) r0)
            have HZ1 := Lib.hid (fun (x y : Value) => res2_1 (x := x) (y := y) r1)
            go_wp2_with fail
            refine bodyPost_ret (v := .tuple #[.agg #[.int .i64 0, .slice none 0 0], .int .i64 3]) (by simp [results, Tryz.results22, go_sem, HZ0.out, HZ1.out]) rfl ⟨[.int .i64 0, .slice none 0 0], by rw [HR.out.2], ?_, res2_b hB6 (by omega)⟩
            rw [HR.out.1]
            exact fr_op0
      · have HR := Lib.hid (pw_bad (ar := ar) (vs := vs) HA0.out (by rw [HWK.out, hn]; rfl))
        have HZ0 := Lib.hid (fun (x y : Value) => res2_0 (x := x) (y := y) r0)
        have HZ1 := Lib.hid (fun (x y : Value) => res2_1 (x := x) (y := y) r1)
        clear hn
        go_wp2_with fail
        refine bodyPost_ret (v := .tuple #[.agg #[.int .i64 0, .slice none 0 0], .int .i64 2]) (by simp [results, Tryz.results22, go_sem, HZ0.out, HZ1.out]) rfl ⟨[.int .i64 0, .slice none 0 0], by rw [HR.out.2], ?_, res2_b hB3 (by omega)⟩
        rw [HR.out.1]
        exact fr_op0
  · have HR := Lib.hid (pw_ask (t := t) (ar := ar) (ls := ls) (vs := vs) (by simpa using ha))
    have HZ0 := Lib.hid (fun (x y : Value) => res2_0 (x := x) (y := y) r0)
    have HZ1 := Lib.hid (fun (x y : Value) => res2_1 (x := x) (y := y) r1)
    generalize askC t ar = C at *
    go_wp2_with fail
    refine bodyPost_ret (v := .tuple #[.agg #[.int .i64 0, .slice none 0 0], .int .i64 C]) (by simp [results, Tryz.results22, go_sem, HZ0.out, HZ1.out]) rfl ⟨[.int .i64 0, .slice none 0 0], by rw [HR.out.2], ?_, res2_b hB1 (by omega)⟩
    rw [HR.out.1]
    exact fr_op0
end Go.Proofs.YthjafhjghjbdmaaGreat
namespace Go.Proofs
open Go.Shelf
def Tryz.laysSlE43_f199_ren : Go.Shelf.Ren := ⟨fun | 43 => 199 | n => n, fun | 22 => 26 | 23 => 2 | 3 => 3 | 4 => 4 | 0 => 0 | n => n, fun | n => n⟩
theorem Tryz.laysSlE43_f199 : Go.Proofs.SlLaysE.n43 Tryz.prog Tryz.laysSlE43_f199_ren := {
  mixed := by kernel_rfl
  f43 := ⟨Tryz.f199.name, by decide, Tryz.func199.trans (congrArg some (by kernel_rfl))⟩
  t0 := Tryz.underlying0
  a0 := Tryz.isAgg0
  z0 := Tryz.sizeOf0
  v0 := Tryz.zeroValue0
  t3 := Tryz.underlying3
  a3 := Tryz.isAgg3
  z3 := Tryz.sizeOf3
  v3 := Tryz.zeroValue3
  t4 := Tryz.underlying4
  a4 := Tryz.isAgg4
  z4 := Tryz.sizeOf4
  v4 := Tryz.zeroValue4
  t22 := Tryz.underlying26
  a22 := Tryz.isAgg26
  z22 := Tryz.sizeOf26
  v22 := Tryz.zeroValue26
  a23 := Tryz.isAgg2
  z23 := Tryz.sizeOf2 }
open Go.RowKit Go.Lib Go.Sort in
/-- slices.Compact: "Compact replaces consecutive runs of equal elements with a single copy. .. Compact zeroes the elements between the new length and the original length.": IT RETURNS THE SLICE CUT TO 'compactUpTo d d.size'; ITS CELLS HOLD THAT, THEN ZERO VALUES up to the old length; the library's two loops are walked. (LAID AT THE INSTANCE 'slices.Compact[[]int64,int64]': no walk: one application.) -/
theorem Tryz.slices_Compact {α : Type} [Inhabited α] [DecidableEq α] (enc : α → Value) (hO : OneCell enc) (heq : EqlAt Tryz.prog 2 enc (fun x y => decide (x = y))) (hne : NeqAt Tryz.prog 2 enc (fun x y => decide (x = y))) (zr : α) (v23 : ∀ w, (zeroValue 2).run Tryz.prog w = .ok (enc zr) w) (blk off cap : Nat) (d : Array α) (w : World) (hH : Holds enc w blk off d) (hsz : d.size ≤ 9223372036854775807) (hcap : d.size ≤ cap) :
    Calls Tryz.prog 199 #[.slice (some ⟨blk, off, none⟩) d.size cap] w fun e w' => e = .returned (.slice (some ⟨blk, off, none⟩) (compactUpTo d d.size).length cap) ∧ ∃ q, w' = putRow enc (Sort.ahead w q) blk off (compactUpTo d d.size ++ List.replicate (d.size - (compactUpTo d d.size).length) zr).toArray := AnyE.slices_Compact Tryz.laysSlE43_f199 enc hO heq hne zr v23 blk off cap d w hH hsz hcap
def Tryz.laysSlM5_f198_ren : Go.Shelf.Ren := ⟨fun | 5 => 198 | 8 => 212 | 7 => 220 | 19 => 233 | 20 => 234 | 10 => 235 | 11 => 236 | 12 => 237 | 13 => 238 | 14 => 239 | 15 => 240 | 16 => 241 | 17 => 242 | 18 => 243 | 30 => 250 | 31 => 246 | 32 => 247 | 33 => 251 | 34 => 252 | 35 => 221 | 40 => 254 | n => n, fun | 23 => 26 | 25 => 2 | 3 => 3 | 32 => 218 | 22 => 26 | 0 => 0 | 44 => 233 | 46 => 177 | 4 => 4 | 36 => 242 | 35 => 241 | 41 => 188 | 5 => 5 | 9 => 9 | 53 => 254 | 57 => 258 | 63 => 262 | 64 => 263 | n => n, fun | n => n⟩
theorem Tryz.laysSlM5_f198 : Go.Proofs.SlLaysM.n5 Tryz.prog Tryz.laysSlM5_f198_ren := {
  mixed := by kernel_rfl
  f5 := ⟨Tryz.f198.name, by decide, Tryz.func198.trans (congrArg some (by kernel_rfl))⟩
  f7 := ⟨Tryz.f220.name, by decide, Tryz.func220.trans (congrArg some (by kernel_rfl))⟩
  f8 := Tryz.func212.trans (congrArg some (by kernel_rfl))
  f10 := ⟨Tryz.f235.name, by decide, Tryz.func235.trans (congrArg some (by kernel_rfl))⟩
  f11 := ⟨Tryz.f236.name, by decide, Tryz.func236.trans (congrArg some (by kernel_rfl))⟩
  f12 := ⟨Tryz.f237.name, by decide, Tryz.func237.trans (congrArg some (by kernel_rfl))⟩
  f13 := ⟨Tryz.f238.name, by decide, Tryz.func238.trans (congrArg some (by kernel_rfl))⟩
  f14 := ⟨Tryz.f239.name, by decide, Tryz.func239.trans (congrArg some (by kernel_rfl))⟩
  f15 := ⟨Tryz.f240.name, by decide, Tryz.func240.trans (congrArg some (by kernel_rfl))⟩
  f16 := ⟨Tryz.f241.name, by decide, Tryz.func241.trans (congrArg some (by kernel_rfl))⟩
  f17 := ⟨Tryz.f242.name, by decide, Tryz.func242.trans (congrArg some (by kernel_rfl))⟩
  f18 := ⟨Tryz.f243.name, by decide, Tryz.func243.trans (congrArg some (by kernel_rfl))⟩
  f19 := Tryz.func233.trans (congrArg some (by kernel_rfl))
  f20 := Tryz.func234.trans (congrArg some (by kernel_rfl))
  f30 := ⟨Tryz.f250.name, by decide, Tryz.func250.trans (congrArg some (by kernel_rfl))⟩
  f31 := Tryz.func246.trans (congrArg some (by kernel_rfl))
  f32 := Tryz.func247.trans (congrArg some (by kernel_rfl))
  f33 := ⟨Tryz.f251.name, by decide, Tryz.func251.trans (congrArg some (by kernel_rfl))⟩
  f34 := ⟨Tryz.f252.name, by decide, Tryz.func252.trans (congrArg some (by kernel_rfl))⟩
  f35 := ⟨Tryz.f221.name, by decide, Tryz.func221.trans (congrArg some (by kernel_rfl))⟩
  f40 := ⟨Tryz.f254.name, by decide, Tryz.func254.trans (congrArg some (by kernel_rfl))⟩
  t0 := Tryz.underlying0
  a0 := Tryz.isAgg0
  z0 := Tryz.sizeOf0
  v0 := Tryz.zeroValue0
  t3 := Tryz.underlying3
  a3 := Tryz.isAgg3
  z3 := Tryz.sizeOf3
  v3 := Tryz.zeroValue3
  t4 := Tryz.underlying4
  a4 := Tryz.isAgg4
  z4 := Tryz.sizeOf4
  v4 := Tryz.zeroValue4
  t5 := Tryz.underlying5
  a5 := Tryz.isAgg5
  z5 := Tryz.sizeOf5
  v5 := Tryz.zeroValue5
  t9 := Tryz.underlying9
  a9 := Tryz.isAgg9
  z9 := Tryz.sizeOf9
  v9 := Tryz.zeroValue9
  t22 := Tryz.underlying26
  a22 := Tryz.isAgg26
  z22 := Tryz.sizeOf26
  v22 := Tryz.zeroValue26
  t23 := Tryz.underlying26
  a23 := Tryz.isAgg26
  z23 := Tryz.sizeOf26
  v23 := Tryz.zeroValue26
  t25 := Tryz.underlying2
  a25 := Tryz.isAgg2
  z25 := Tryz.sizeOf2
  v25 := Tryz.zeroValue2
  t32 := Tryz.underlying218
  a32 := Tryz.isAgg218
  z32 := Tryz.sizeOf218
  v32 := Tryz.zeroValue218
  t35 := Tryz.underlying241
  a35 := Tryz.isAgg241
  z35 := Tryz.sizeOf241
  v35 := Tryz.zeroValue241
  t36 := Tryz.underlying242
  a36 := Tryz.isAgg242
  z36 := Tryz.sizeOf242
  v36 := Tryz.zeroValue242
  t41 := Tryz.underlying188
  a41 := Tryz.isAgg188
  z41 := Tryz.sizeOf188
  v41 := Tryz.zeroValue188
  t44 := Tryz.underlying233
  a44 := Tryz.isAgg233
  z44 := Tryz.sizeOf233
  v44 := Tryz.zeroValue233
  t46 := Tryz.underlying177
  a46 := Tryz.isAgg177
  z46 := Tryz.sizeOf177
  v46 := Tryz.zeroValue177
  t53 := Tryz.underlying254
  a53 := Tryz.isAgg254
  z53 := Tryz.sizeOf254
  v53 := Tryz.zeroValue254
  t57 := Tryz.underlying258
  a57 := Tryz.isAgg258
  z57 := Tryz.sizeOf258
  v57 := Tryz.zeroValue258
  t63 := Tryz.underlying262
  a63 := Tryz.isAgg262
  z63 := Tryz.sizeOf262
  v63 := Tryz.zeroValue262
  t64 := Tryz.underlying263
  a64 := Tryz.isAgg263
  z64 := Tryz.sizeOf263
  v64 := Tryz.zeroValue263 }
open Go.Sort Go.RowKit in
theorem Tryz.slices_Sort_int (blk off cap : Nat) (zs : List Int) (w : World) (hH : Holds (Value.int .i64) w blk off zs.toArray) (hblk : blk < w.heap.size) (hsz : zs.length < 4611686018427387904) :
    Calls Tryz.prog 198 #[.slice (some ⟨blk, off, none⟩) zs.length cap] w fun e w' =>
      e = .returned (.tuple #[]) ∧ ∃ n os, w' = grow (putRow (Value.int .i64) (Sort.ahead w n) blk off (zs.mergeSort fun x y => decide (x ≤ y)).toArray) os := AnyM.slices_Sort_int Tryz.laysSlM5_f198 blk off cap zs w hH hblk hsz
open Go.RowKit Go.Sort in
/-- .. and plain. (LAID AT THE INSTANCE 'slices.Sort[[]int64,int64]': no walk: one application.) -/
theorem Tryz.slices_Sort_int_none (p : Option Addr) (cap : Nat) (w : World) :
    Calls Tryz.prog 198 #[.slice p 0 cap] w fun e w' => e = .returned (.tuple #[]) ∧ w' = w := AnyM.slices_Sort_int_none Tryz.laysSlM5_f198 p cap w
end Go.Proofs
namespace Go.Proofs.YthjafhjghjbdmaaGreat
open Go.RowKit Go.Sort
def Ty.byte : Ty Int where
  sz := 1
  rd := fun _ cs n fp => cs = [.int .u8 n] ∧ (0 ≤ n ∧ n ≤ 255) ∧ fp = []
  len := by rintro _ _ _ _ ⟨rfl, _, _⟩; rfl
  same := fun h _ => h
  lt := by rintro _ _ _ _ ⟨rfl, _, rfl⟩ k hk; cases hk
  one := by rintro _ _ _ _ ⟨rfl, _, _⟩ u hu; simp at hu; subst hu; rfl
abbrev bytesT := Ty.slice Ty.byte
theorem bytes_ex {w : World} {cs : List Value} {xs : List Int} (h : bytesT.Rd w cs xs) :
    ∃ ad cap, cs = [.slice ad xs.length cap] ∧ xs.length ≤ cap ∧ xs.length ≤ 140737488351232 ∧
      (0 < xs.length → ∃ b o, ad = some ⟨b, o, none⟩ ∧ b < w.heap.size ∧ ∀ i (h : i < xs.length), (0 ≤ xs[i] ∧ xs[i] ≤ 255) ∧ w.cell? ⟨b, o + i, none⟩ = some (.int .u8 xs[i])) := by
  obtain ⟨ad, cap, h1, h2, h3, h4⟩ := Ty.slice_ex h
  refine ⟨ad, cap, h1, h2, h3, fun hp => ?_⟩
  obtain ⟨b, o, h5, h6, h7⟩ := h4 hp
  refine ⟨b, o, h5, h6, fun i hi => ?_⟩
  obtain ⟨cs, ⟨fp, rfl, h8, h9⟩, h10⟩ := h7 i hi
  exact ⟨h8, by simpa [Ty.byte] using h10 0 (by simp)⟩
/-- a source of choices at block sb, whose bytes lie below block B, read at most K times -/
def SrcR (sb B : Nat) (K : Int) (w : World) : Prop :=
  ∃ (v : Value) (code : List Int) (pos sd : Int), w.cell? ⟨sb, 0, none⟩ = some v ∧ bytesT.RdP (fun q => q < B) w [v] code ∧ w.cell? ⟨sb, 1, none⟩ = some (.int .i64 pos) ∧ 0 ≤ pos ∧ pos ≤ K ∧
    w.cell? ⟨sb, 2, none⟩ = some (.int .u64 sd) ∧ 0 ≤ sd ∧ sd ≤ 18446744073709551615 ∧ w.frozen? ⟨sb, 1, none⟩ = false ∧ w.frozen? ⟨sb, 2, none⟩ = false ∧ B ≤ sb
theorem SrcR.lt {sb B : Nat} {K : Int} {w : World} (h : SrcR sb B K w) : sb < w.heap.size := let ⟨_, _, _, _, h, _⟩ := h; cell_lt h
theorem SrcR.mono {sb B : Nat} {K K' : Int} {w : World} (h : SrcR sb B K w) (hk : K ≤ K') : SrcR sb B K' w :=
  let ⟨v, c, p, s, h1, h2, h3, h4, h5, h6⟩ := h; ⟨v, c, p, s, h1, h2, h3, h4, Int.le_trans h5 hk, h6⟩
theorem SrcR.tch {sb B : Nat} {K : Int} {w w' : World} {O : Nat → Prop} (h : SrcR sb B K w) (ht : TchP O w w') (hs : ¬ O sb) (hO : ∀ q, q < B → ¬ O q) : SrcR sb B K w' := by
  have hl := h.lt
  obtain ⟨v, c, p, s, h1, h2, h3, h4, h5, h6, h7, h8, h9, h10, h11⟩ := h
  exact ⟨v, c, p, s, (ht.cell hl hs).trans h1, h2.tchP ht (fun q _ hq => hO q hq), (ht.cell hl hs).trans h3, h4, h5, (ht.cell hl hs).trans h6, h7, h8, (ht.frozen hl hs).trans h9, (ht.frozen hl hs).trans h10, h11⟩
theorem SrcR.below {sb B : Nat} {K : Int} {w w' : World} (h : SrcR sb B K w) (hb : Below w.heap.size w w') : SrcR sb B K w' := h.tch (TchP.of_below hb (fun _ => False)) (fun h => h) (fun _ _ h => h)
theorem wrapU (n : Int) : 0 ≤ IntKind.u64.wrap n ∧ IntKind.u64.wrap n ≤ 18446744073709551615 := by
  have h : IntKind.u64.wrap n = n % 18446744073709551616 := by simp [IntKind.wrap, IntKind.signed, IntKind.bits]
  rw [h]
  omega
theorem andB (n : Int) (h0 : 0 ≤ n) (h1 : n ≤ 18446744073709551615) : 0 ≤ wrap64 (bits BinOp.and IntKind.u64 n 255) ∧ wrap64 (bits BinOp.and IntKind.u64 n 255) ≤ 255 := by
  have h := u64_and n 255 h0 (by omega) (by omega) (by omega)
  have h2 : n.toNat &&& (255 : Int).toNat ≤ 255 := Nat.and_le_right
  rw [h]
  rw [wrap64_id (by omega) (by omega)]
  omega
/-- a number between two bounds comes back, the source has been read -/
def NxS (sb B : Nat) (K lo hi : Int) (w : World) (e : Ending) (w' : World) : Prop := ∃ x, e = .returned (.int .i64 x) ∧ lo ≤ x ∧ x ≤ hi ∧ SrcR sb B K w' ∧ TchP (fun q => q = sb) w w'
set_option maxHeartbeats 3200000 in
set_option maxRecDepth 100000 in
theorem next_any' (w : World) {sb B : Nat} {K : Int} (h : SrcR sb B K w) (hK0 : 0 ≤ K) (hK : K ≤ 1000000000) : Calls Tryz.prog 150 #[.pointer (some ⟨sb, 0, none⟩)] w (NxS sb B (K + 1) 0 255 w) := by
  have hl := h.lt
  obtain ⟨v, code, pos, sd, h1, h2, h3, h4, h5, h6, h7, h8, h9, h10, h11⟩ := h
  have H2 := Lib.hid h2
  obtain ⟨ad, cap, hv, hle, hle2, hc⟩ := bytes_ex h2.rd
  obtain rfl : v = _ := by simpa using hv
  clear h2 hv
  obtain ⟨p, rfl⟩ : ∃ p : Nat, pos = p := ⟨pos.toNat, by omega⟩
  go_enter Tryz.func150, Tryz.ntmps150
  go_wp2_with fail
  by_cases hp : p < code.length
  · obtain ⟨b, o, rfl, hb, hce⟩ := hc (by omega)
    obtain ⟨hr, hcb⟩ := hce p hp
    generalize code[p] = x at *
    have hcv : IntKind.i64.wrap x = x := wrap_small (by omega) (by omega)
    clear hce
    go_quiet (fail)
    go_wp2_with fail
    go_quiet (fail)
    go_upto_region 6 with fail
    generalize hS : IntKind.u64.wrap (IntKind.u64.wrap (IntKind.u64.wrap (sd * 6364136223846793005) + x) + 1442695040888963407) = S
    have hS0 : 0 ≤ S ∧ S ≤ 18446744073709551615 := hS ▸ wrapU _
    generalize hW : World.setCell (World.setCell (World.drewN w _) _ _) _ _ = w3
    have c0 : w3.cell? ⟨sb, 0, none⟩ = some (.slice (some ⟨b, o, none⟩) code.length cap) := by rw [← hW]; exact (World.cell?_setCell_other _ _ _ _ (by simp)).trans ((World.cell?_setCell_other _ _ _ _ (by simp)).trans (((Quiet.drewN w _).below.cell hl).trans h1))
    have c1 : w3.cell? ⟨sb, 1, none⟩ = some (.int .i64 ((p : Int) + 1)) := by rw [← hW]; exact (World.cell?_setCell_other _ _ _ _ (by simp)).trans (World.cell?_setCell_same _ _ _ (((Quiet.drewN w _).below.cell hl).trans h3))
    have c2 : w3.cell? ⟨sb, 2, none⟩ = some (.int .u64 S) := by rw [← hW]; exact World.cell?_setCell_same _ _ _ ((World.cell?_setCell_other _ _ _ _ (by simp)).trans (((Quiet.drewN w _).below.cell hl).trans h6))
    have m1 : w3.frozen? ⟨sb, 1, none⟩ = false := by rw [← hW]; exact (World.frozen?_setCell _ _ _ _).trans ((World.frozen?_setCell _ _ _ _).trans (((Quiet.drewN w _).below.frozen hl).trans h9))
    have m2 : w3.frozen? ⟨sb, 2, none⟩ = false := by rw [← hW]; exact (World.frozen?_setCell _ _ _ _).trans ((World.frozen?_setCell _ _ _ _).trans (((Quiet.drewN w _).below.frozen hl).trans h10))
    have ht : TchP (fun q => q = sb) w w3 := hW ▸ (TchP.of_below (Quiet.drewN w _).below (fun q => q = sb)).then ((TchP.set (O := fun q => q = sb) rfl).then (TchP.set (O := fun q => q = sb) rfl) (fun q _ h => h)) (fun q _ h => h)
    have HT := Lib.hid ht
    have H3 := Lib.hid (H2.out.tchP ht (fun q _ h e => by omega))
    have hl3 : sb < w3.heap.size := cell_lt c0
    clear hW hS h1 h3 h6 h9 h10 H2 ht
    have HF : Hid (∀ n, SrcR sb B (K + 1) (w3.drewN n) ∧ TchP (fun q => q = sb) w (w3.drewN n)) := fun n => by
      have h : SrcR sb B (K + 1) w3 := ⟨_, code, _, _, c0, H3.out, c1, by omega, by omega, c2, hS0.1, hS0.2, m1, m2, h11⟩
      exact ⟨h.below (Quiet.drewN w3 n).below, HT.out.then (TchP.of_below (Quiet.drewN w3 n).below (fun q => q = sb)) (fun q _ h => h)⟩
    go_wp2_with fail
    go_quiet (fail)
    go_wp2_with fail
    go_ret
    exact ⟨x, rfl, hr.1, hr.2, (HF.out _).1, (HF.out _).2⟩
  · clear hc
    go_quiet (fail)
    go_upto_region 6 with fail
    generalize hS : IntKind.u64.wrap (IntKind.u64.wrap (IntKind.u64.wrap (sd * 6364136223846793005)) + 1442695040888963407) = S
    have hS0 : 0 ≤ S ∧ S ≤ 18446744073709551615 := hS ▸ wrapU _
    generalize hW : World.setCell (World.setCell (World.drewN w _) _ _) _ _ = w3
    have c0 : w3.cell? ⟨sb, 0, none⟩ = some (.slice ad code.length cap) := by rw [← hW]; exact (World.cell?_setCell_other _ _ _ _ (by simp)).trans ((World.cell?_setCell_other _ _ _ _ (by simp)).trans (((Quiet.drewN w _).below.cell hl).trans h1))
    have c1 : w3.cell? ⟨sb, 1, none⟩ = some (.int .i64 ((p : Int) + 1)) := by rw [← hW]; exact (World.cell?_setCell_other _ _ _ _ (by simp)).trans (World.cell?_setCell_same _ _ _ (((Quiet.drewN w _).below.cell hl).trans h3))
    have c2 : w3.cell? ⟨sb, 2, none⟩ = some (.int .u64 S) := by rw [← hW]; exact World.cell?_setCell_same _ _ _ ((World.cell?_setCell_other _ _ _ _ (by simp)).trans (((Quiet.drewN w _).below.cell hl).trans h6))
    have m1 : w3.frozen? ⟨sb, 1, none⟩ = false := by rw [← hW]; exact (World.frozen?_setCell _ _ _ _).trans ((World.frozen?_setCell _ _ _ _).trans (((Quiet.drewN w _).below.frozen hl).trans h9))
    have m2 : w3.frozen? ⟨sb, 2, none⟩ = false := by rw [← hW]; exact (World.frozen?_setCell _ _ _ _).trans ((World.frozen?_setCell _ _ _ _).trans (((Quiet.drewN w _).below.frozen hl).trans h10))
    have ht : TchP (fun q => q = sb) w w3 := hW ▸ (TchP.of_below (Quiet.drewN w _).below (fun q => q = sb)).then ((TchP.set (O := fun q => q = sb) rfl).then (TchP.set (O := fun q => q = sb) rfl) (fun q _ h => h)) (fun q _ h => h)
    have HT := Lib.hid ht
    have H3 := Lib.hid (H2.out.tchP ht (fun q _ h e => by omega))
    have hl3 : sb < w3.heap.size := cell_lt c0
    clear hW hS h1 h3 h6 h9 h10 H2 ht
    have HF : Hid (∀ n, SrcR sb B (K + 1) (w3.drewN n) ∧ TchP (fun q => q = sb) w (w3.drewN n)) := fun n => by
      have h : SrcR sb B (K + 1) w3 := ⟨_, code, _, _, c0, H3.out, c1, by omega, by omega, c2, hS0.1, hS0.2, m1, m2, h11⟩
      exact ⟨h.below (Quiet.drewN w3 n).below, HT.out.then (TchP.of_below (Quiet.drewN w3 n).below (fun q => q = sb)) (fun q _ h => h)⟩
    go_wp2_with fail
    go_quiet (fail)
    go_wp2_with fail
    have hb := andB (S / 1099511627776) (by omega) (by omega)
    go_ret
    exact ⟨_, rfl, hb.1, hb.2, (HF.out _).1, (HF.out _).2⟩
set_option maxHeartbeats 1600000 in
set_option maxRecDepth 100000 in
theorem pick_any (w : World) {sb B : Nat} {K n : Int} (h : SrcR sb B K w) (hK0 : 0 ≤ K) (hK : K ≤ 1000000000) (hn : 1 ≤ n ∧ n ≤ 200) : Calls Tryz.prog 65 #[.pointer (some ⟨sb, 0, none⟩), .int .i64 n] w (NxS sb B (K + 1) 0 (n - 1) w) := by
  have H := Lib.hid h
  clear h
  rcases ilt 1 n with h1 | h1
  · have h2 : ¬ n ≤ 1 := by omega
    have h3 : ¬ 200 < n := by omega
    go_enter Tryz.func65, Tryz.ntmps65
    go_wp2_with fail
    refine (next_any' w H.out hK0 hK).mono ?_
    rintro e w1 ⟨x, rfl, hx0, hx1, hs, ht⟩
    have HS := Lib.hid hs
    have HT := Lib.hid ht
    clear hs ht
    go_wp2_with fail
    go_ret
    refine ⟨_, rfl, ?_, ?_, HS.out, HT.out⟩
    · first | exact Int.emod_nonneg _ (by omega) | exact Int.tmod_nonneg _ (by omega)
    · have := Int.emod_lt_of_pos x (show 0 < n by omega)
      have h5 : Int.tmod x n = x % n := Int.tmod_eq_emod_of_nonneg (by omega)
      first | omega | (rw [h5]; omega)
  · obtain rfl : n = 1 := by omega
    go_enter Tryz.func65, Tryz.ntmps65
    go_wp2_with fail
    go_ret
    exact ⟨0, rfl, by omega, by omega, H.out.mono (by omega), TchP.refl _ _⟩
/-- yes or no comes back, the source has been read -/
def OnS (sb B : Nat) (K : Int) (w : World) (e : Ending) (w' : World) : Prop := ∃ b, e = .returned (.bool b) ∧ SrcR sb B K w' ∧ TchP (fun q => q = sb) w w'
theorem one_any (w : World) {sb B : Nat} {K n : Int} (h : SrcR sb B K w) (hK0 : 0 ≤ K) (hK : K ≤ 1000000000) (hn : 1 ≤ n ∧ n ≤ 200) : Calls Tryz.prog 204 #[.pointer (some ⟨sb, 0, none⟩), .int .i64 n] w (OnS sb B (K + 1) w) := by
  have H := Lib.hid h
  clear h
  go_enter Tryz.func204, Tryz.ntmps204
  go_wp2_with fail
  refine (pick_any w H.out hK0 hK hn).mono ?_
  rintro e w1 ⟨x, rfl, hx0, hx1, hs, ht⟩
  have HS := Lib.hid hs
  have HT := Lib.hid ht
  clear hs ht
  go_wp2_with fail
  go_ret
  exact ⟨_, rfl, HS.out, HT.out⟩
set_option maxRecDepth 100000 in
theorem among_any (w : World) {sb B : Nat} {K : Int} {v : Value} {xs : List Int} (h : SrcR sb B K w) (hK0 : 0 ≤ K) (hK : K ≤ 1000000000) (hv : intsT.Rd w [v] xs) (hn : 1 ≤ xs.length ∧ xs.length ≤ 200) (hp : intsT.RdP (fun q => q ≠ sb) w [v] xs) :
    Calls Tryz.prog 147 #[.pointer (some ⟨sb, 0, none⟩), v] w fun e w' => ∃ x, x ∈ xs ∧ e = .returned (.int .i64 x) ∧ SrcR sb B (K + 1) w' ∧ TchP (fun q => q = sb) w w' := by
  have H := Lib.hid h
  obtain ⟨ad, cap, rfl⟩ := rd_slice hv
  have HP := Lib.hid hp
  clear h hv hp
  go_enter Tryz.func147, Tryz.ntmps147
  go_wp2_with fail
  refine (pick_any w H.out hK0 hK (n := (xs.length : Int)) (by omega)).mono ?_
  rintro e w1 ⟨x, rfl, hx0, hx1, hs, ht⟩
  obtain ⟨j, rfl⟩ : ∃ j : Nat, x = j := ⟨x.toNat, by omega⟩
  have hj : j < xs.length := by omega
  obtain ⟨_, _, hv, -, -, hc⟩ := ints_ex (HP.out.tchP ht (fun q _ h e => h e)).rd
  simp only [List.cons.injEq, Value.slice.injEq, and_true, true_and] at hv
  obtain ⟨rfl, rfl⟩ := hv
  obtain ⟨b, o, rfl, hb, hce⟩ := hc (by omega)
  have c0 := (hce j hj).2
  have HM : Hid (xs[j] ∈ xs) := List.getElem_mem hj
  generalize xs[j] = y at *
  have HS := Lib.hid hs
  have HT := Lib.hid ht
  clear hs ht hc hce
  go_wp2_with fail
  go_ret
  exact ⟨y, HM.out, rfl, HS.out, HT.out⟩
theorem l00From_any (w : World) {v : Value} {code : List Int} (h : bytesT.Rd w [v] code) : Calls Tryz.prog 60 #[v] w fun e w' => e = .returned (.pointer (some ⟨w.heap.size, 0, none⟩)) ∧ SrcR w.heap.size w.heap.size 0 w' ∧ Below w.heap.size w w' := by
  have H : Hid (bytesT.RdP (fun q => q < w.heap.size) w [v] code) := let ⟨fp, h1⟩ := h; ⟨fp, h1, fun k hk => bytesT.lt h1 k hk⟩
  obtain ⟨ad, cap, rfl⟩ := rd_slice h
  clear h
  go_enter Tryz.func60, Tryz.ntmps60
  go_wp2_with fail
  go_ret
  have hb : Below w.heap.size w (w.alloc (.cells #[.slice ad code.length cap, .int .i64 0, .int .u64 0] 179)) := bA
  refine ⟨rfl, ⟨_, code, 0, 0, by simp [go_sem], H.out.below hb, by simp [go_sem], by omega, by omega, by simp [go_sem], by omega, by omega, by simp [go_sem], by simp [go_sem], Nat.le_refl _⟩, hb⟩
end Go.Proofs.YthjafhjghjbdmaaGreat
