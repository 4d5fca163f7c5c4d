/-
Contracts: the search, told to a listener.
A row of rows whose elements point into older memory, built by appends to its own elements; what it reads as. No program is named here.
Contracts: a search's own data, made.
Contracts: a search for an instance; the first values.
Contracts: full domains.
Contracts: the solutions of an instance, counted, listed, the first; the program's.
Contracts: the solutions of an instance, the reference's.
Contracts: the first values for which all atoms hold, the reference's.
-/
import Derived.Test.YtnhdohednekhjaaGreatDoorQAC
import Derived.Test.YtnhdohednekhjaaGreatDoorQAB
namespace Go.Proofs.YtnhdohednekhjaaGreatDoor
open Go.RowKit Go.Sort
set_option maxHeartbeats 800000 in
theorem Clip_any (w : World) {ad : Option Addr} {n c : Nat} (hn : n ≤ c) (h0 : ad = none → n = 0) (hl : n ≤ 140737488351232) :
  Calls Tryz.prog 230 #[.slice ad n c] w fun e w' => e = .returned (.slice ad n n) ∧ w = w' := by
 rcases ad with _ | ⟨b, o, fl⟩
 ·obtain rfl : n = 0 := h0 rfl
  go_enter Tryz.func230, Tryz.ntmps230
  go_wp2_with fail
  go_ret
  exact ⟨rfl, rfl⟩
 ·go_enter Tryz.func230, Tryz.ntmps230
  go_wp2_with fail
  go_ret
  exact ⟨rfl, rfl⟩
theorem rd_clip {w : World} {ad : Option Addr} {n c : Nat} {xs : List Int} {fp : List Nat} (h : intsT.rd w [.slice ad n c] xs fp) : intsT.rd w [.slice ad n n] xs fp ∧ n = xs.length ∧ n ≤ c ∧ (ad = none → n = 0) ∧ n ≤ 140737488351232 := by
 obtain ⟨ad', cap, hv, h1, h2, h3⟩ := h
 simp only [List.cons.injEq, Value.slice.injEq, and_true] at hv
 obtain ⟨rfl, rfl, rfl⟩ := hv
 refine ⟨⟨ad, xs.length, rfl, Nat.le_refl _, h2, h3⟩, rfl, h1, fun ha => ?_, h2⟩
 rcases h3 with ⟨h3, _⟩ | ⟨_, b, o, _, hb, _⟩
 ·exact h3
 ·rw [ha] at hb; cases hb
set_option maxHeartbeats 6400000 in
set_option maxRecDepth 100000 in
theorem walk_any {t : Int × List (Int × List (List Int))} {vars : Nat} {due : List (List (Int × List Int))} (hT : tplOk t) {s : Nat} (hs : t.1 = s) (hvars : vars ≤ 10) (hdl : due.length = vars) (hD : dueOk t vars due) (g : Nat) (caps : Array Value) (eg : ∀ args w, (callFunc g args).run Tryz.prog w = .ok (.enter g args) w)
  (go : List (List Int) → Bool) (I : List (List Int) → List Nat → World → Prop) (hY : Yl Tryz.prog g caps go I) (bs : Nat) (ok : Nat → Prop) :
  ∀ (m : Nat) (w : World) (v : Value) (vals : List Int) (fpv : List Nat) (told : List (List Int)) (O : List Nat), vals.length + m = vars → Sv ok w bs t vars due → (∀ k, ok k → k < w.heap.size ∧ k ∉ O) → intsT.rd w [v] vals fpv → (∀ k ∈ fpv, k ∉ O) → I told O w →
   told.length + (solsL s (goesB t due) m vals).length ≤ 2000000 →
   Calls Tryz.prog 186 #[.pointer (some ⟨bs, 0, none⟩), v, .func (.func g) #[] caps] w fun e w' => e = .returned (.bool (tellL go told (solsL s (goesB t due) m vals)).2) ∧
    ∃ O', I (tellL go told (solsL s (goesB t due) m vals)).1 O' w' ∧ TchF O w w' ∧ ∀ k ∈ O', k ∈ O ∨ w.heap.size ≤ k := by
 have HT := Lib.hid hT
 have HD := Lib.hid hD
 have HY := Lib.hid hY
 have hs4 := hT.1
 unfold sizeOk at hs4
 have hs41 : 1 ≤ s ∧ s ≤ 4 := by omega
 clear hT hD hY hs4
 intro m
 induction m with
 | zero =>
  intro w v vals fpv told O hlen hS hok hv hfv hI hbd
  have HS := Lib.hid hS
  obtain ⟨hbs, -, v1, v3, c0, c1, c2, c3, -, -⟩ := hS
  obtain ⟨va, vc, rfl⟩ := rd_slice ⟨fpv, hv⟩
  have HV : Hid (intsT.Rd w [.slice va vals.length vc] vals) := ⟨fpv, hv⟩
  have HI := Lib.hid hI
  have hl : vals.length = vars := by omega
  rw [solsL_zero, tellL_one]
  rw [solsL_zero] at hbd
  have hbd' : told.length ≤ 2000000 := by simp at hbd; omega
  clear hv hI hbd c0 c1 c3 hok hfv
  rw [hl] at HV ⊢
  go_enter Tryz.func186, Tryz.ntmps186
  go_wp2_with fail
  refine (Clone_any _ HV.out (by omega)).mono ?_
  rintro e w1 ⟨u, rfl, hf, hb1⟩
  have HF := Lib.hid hf
  clear hf
  go_wp2_with fail
  refine (HY.out.step HI.out hb1 HF.out (by omega) hbd').mono ?_
  rintro e w2 ⟨rfl, O', hI', ht, hO'⟩
  have HI2 := Lib.hid hI'
  have HO := Lib.hid hO'
  have HTC : Hid (TchF O w w2) := (Below.tchF hb1 O).then ht (fun k hk => .inl hk)
  clear hI' ht hO'
  go_wp2_with fail
  go_ret
  exact ⟨rfl, O', HI2.out, HTC.out, HO.out⟩
 | succ m ih =>
  intro w v vals fpv told O hlen hS hok hv hfv hI hbd
  have HS := Lib.hid hS
  obtain ⟨hbs, -, v1, v3, c0, c1, c2, c3, -, -⟩ := hS
  obtain ⟨va, vc, rfl⟩ := rd_slice ⟨fpv, hv⟩
  obtain ⟨hcl, -, hvl, hv0, hvm⟩ := rd_clip hv
  have HV := Lib.hid hcl
  have HI := Lib.hid hI
  have HOK := Lib.hid hok
  have HFV := Lib.hid hfv
  have HIH := Lib.hid ih
  have hl : vals.length < vars := by omega
  have hne : ((vals.length : Int) == (vars : Int)) = false := by simp; omega
  rw [solsL_succ]
  rw [solsL_succ] at hbd
  have HBD := Lib.hid hbd
  rw [hs] at c0
  have hbO := (hok bs HS.out.2.1).2
  clear hv hcl hI hbd hok hfv ih c1 c3
  go_enter Tryz.func186, Tryz.ntmps186
  go_wp2_with fail
  go_loopw [25] (fun i wr => ∃ (k : Nat) (O' : List Nat), k ≤ s ∧ i = .int .i64 k ∧ (tellL go told (solsTo s (goesB t due) m vals k)).2 = true ∧ I (tellL go told (solsTo s (goesB t due) m vals k)).1 O' wr ∧ TchF O w wr ∧ (∀ q ∈ O', q ∈ O ∨ w.heap.size ≤ q)) (fun i _ => s - (intOf i).toNat)
  case atStart => exact ⟨0, O, Nat.zero_le _, rfl, by rw [solsTo_zero]; rfl, by rw [solsTo_zero]; exact HI.out, TchF.refl _ _, fun q hq => .inl hq⟩
  case round =>
   obtain ⟨k, O', hk, rfl, hgo, hI', htc, hO'⟩ := hrel
   have HGO := Lib.hid hgo
   have HI2 := Lib.hid hI'
   have HO := Lib.hid hO'
   have htz := htc.size
   clear hgo hI' hO'
   by_cases hkl : k < s
   ·go_wp2_with fail
    refine (Clip_any _ hvl hv0 hvm).mono ?_
    rintro e _ ⟨rfl, rfl⟩
    have HVr : Hid (intsT.Rd wr [.slice va vals.length vals.length] vals) := ⟨fpv, HV.out.tch htc HFV.out⟩
    go_wp2_with (refine wpList_appFull _ rfl _ _ 48 2 rfl elInt rfl (HVr.out.below bA) rfl news1 (I64.small (by omega) (by omega)) (by omega) (by decide) ?_; intro u1 w1 hf1 hb1)
    obtain ⟨fp1, hr1, hnd1, hfb1, hun1⟩ := hf1
    have hb1' : Below wr.heap.size wr w1 := bthen bA hb1
    have HR1 := Lib.hid hr1
    have HFB1 : Hid (∀ q ∈ fp1, wr.heap.size ≤ q) := fun q hq => by have := hfb1 q hq; simp at this; omega
    have HLT := Lib.hid (HY.out.lt HI2.out)
    have hokO : ∀ q, ok q → q < w.heap.size ∧ q ∉ O' := fun q hq => ⟨(HOK.out q hq).1, fun hm => by
     rcases HO.out q hm with h | h
     ·exact (HOK.out q hq).2 h
     ·have := (HOK.out q hq).1; omega⟩
    have HOKO := Lib.hid hokO
    have HS1 : Hid (Sv ok w1 bs t vars due) := (HS.out.tch htc (fun q _ hq => (HOK.out q hq).2)).below hb1'
    clear hr1 hnd1 hfb1 hun1 hb1 hokO HVr
    have hl1 : (vals ++ [(k : Int)]).length = vals.length + 1 := by simp
    refine (goes_any _ HS1.out ⟨fp1, HR1.out⟩ HT.out HD.out (by omega) (by omega)).mono ?_
    rintro e w2 ⟨rfl, hb2⟩
    have hbw2 := bthen hb1' hb2
    have htc2 : TchF O w w2 := htc.then (Below.tchF hbw2 O) (fun q hq => .inl hq)
    have hz2 := hbw2.size
    have HI3 : Hid (I (tellL go told (solsTo s (goesB t due) m vals k)).1 O' w2) := HY.out.stable HI2.out hbw2
    clear htc HI2
    cases hg : goesB t due (vals ++ [(k : Int)])
    ·have HNO := Lib.hid (solsTo_no (s := s) (m := m) hg)
     clear hg
     go_wp2_with fail
     go_roundw
     case rel => exact ⟨k + 1, O', by omega, by go_num, by rw [HNO.out]; exact HGO.out, by rw [HNO.out]; exact HI3.out, htc2, HO.out⟩
     case measure => simp [intOf]; omega
    ·have HYES := Lib.hid (solsTo_yes (s := s) (m := m) hg)
     have HBK : Hid ((tellL go told (solsTo s (goesB t due) m vals k)).1.length + (solsL s (goesB t due) m (vals ++ [(k : Int)])).length ≤ 2000000) := by
      unfold Hid
      have h1 := HBD.out
      have h2 := tellL_len (go := go) (told := told) (xs := solsTo s (goesB t due) m vals k)
      obtain ⟨r, hr⟩ := solsTo_append (s := s) (m := m) (sure := goesB t due) (vals := vals) (k := k + 1) (j := s) (by omega)
      rw [hr, HYES.out, List.length_append, List.length_append] at h1
      omega
     have HAPP := Lib.hid (solsTo_append (s := s) (m := m) (sure := goesB t due) (vals := vals) (k := k + 1) (j := s) (by omega))
     clear hg
     go_wp2_with fail
     refine (HIH.out w2 u1 (vals ++ [(k : Int)]) fp1 _ O' (by omega) (HS1.out.below hb2) (fun q hq => ⟨by have := (HOKO.out q hq).1; omega, (HOKO.out q hq).2⟩) (HR1.out.below hb2) (fun q hq hm => by have := HFB1.out q hq; have := HLT.out q hm; omega) HI3.out HBK.out).mono ?_
     rintro e w3 ⟨rfl, O2, hI4, ht3, hO2⟩
     have HTL := Lib.hid (tellL_yes (ys := solsL s (goesB t due) m (vals ++ [(k : Int)])) HGO.out)
     rw [← HTL.out, ← HYES.out] at hI4
     rw [← HTL.out, ← HYES.out]
     have HI4 := Lib.hid hI4
     have htc3 : TchF O w w3 := htc2.then ht3 HO.out
     have HO2 : Hid (∀ q ∈ O2, q ∈ O ∨ w.heap.size ≤ q) := fun q hq => by
      rcases hO2 q hq with h | h
      ·exact HO.out q h
      ·exact .inr (by omega)
     clear hI4 ht3 hO2
     cases hret : (tellL go told (solsTo s (goesB t due) m vals (k + 1))).2
     ·have HRET := Lib.hid (tellL_stop hret HAPP.out)
      have HRF := Lib.hid hret
      clear hret
      go_wp2_with fail
      go_ret
      exact ⟨ret_bool (by rw [HRET.out, HRF.out]), O2, by rw [HRET.out]; exact HI4.out, htc3, HO2.out⟩
     ·have HRT := Lib.hid hret
      clear hret
      go_wp2_with fail
      go_roundw
      case rel => exact ⟨k + 1, O2, by omega, by go_num, HRT.out, HI4.out, htc3, HO2.out⟩
      case measure => simp [intOf]; omega
   ·obtain rfl : k = s := by omega
    go_wp2_with fail
    go_ret
    exact ⟨ret_bool HGO.out.symm, O', HI2.out, htc, HO.out⟩
end Go.Proofs.YtnhdohednekhjaaGreatDoor
namespace Go.Proofs.YtnhdohednekhjaaGreatDoor
open Go.RowKit
theorem slice_exP {α : Type} {E : Ty α} {ok : Nat → Prop} {w : World} {cs : List Value} {xs : List α} (h : (Ty.slice E).RdP ok w cs xs) :
  ∃ ad cap, cs = [.slice ad xs.length cap] ∧ xs.length ≤ cap ∧ xs.length ≤ 140737488351232 ∧
   (0 < xs.length → ∃ b o, ad = some ⟨b, o, none⟩ ∧ b < w.heap.size ∧ ok b ∧ ∀ i (h : i < xs.length), ∃ cs, E.RdP ok w cs xs[i] ∧ ∀ j (hj : j < cs.length), w.cell? ⟨b, o + i * E.sz + j, none⟩ = some cs[j]) := by
 obtain ⟨fp, ⟨ad, cap, rfl, h1, h2, h3⟩, hok⟩ := h
 refine ⟨ad, cap, rfl, h1, h2, fun hp => ?_⟩
 rcases h3 with h3 | ⟨h3, b, o, fps, rfl, hb, rfl, h4⟩
 ·omega
 ·exact ⟨b, o, rfl, hb, hok b (List.mem_cons_self ..), fun i hi => let ⟨cs, h5, h6⟩ := h4 i hi; ⟨cs, ⟨_, h5, fun k hk => hok k (List.mem_cons_of_mem _ (List.mem_flatMap.2 ⟨i, by simpa using hi, hk⟩))⟩, h6⟩⟩
/-- from its elements -/
theorem slice_mkP {α : Type} {E : Ty α} {ok : Nat → Prop} {w : World} {ad : Option Addr} {n cap : Nat} {xs : List α} (hn : n = xs.length) (h1 : n ≤ cap) (h2 : n ≤ capMax)
  (h : 0 < n → ∃ b o, ad = some ⟨b, o, none⟩ ∧ b < w.heap.size ∧ ok b ∧ ∀ i (h : i < xs.length), ∃ cs, E.RdP ok w cs xs[i] ∧ ∀ j (hj : j < cs.length), w.cell? ⟨b, o + i * E.sz + j, none⟩ = some cs[j]) :
  (Ty.slice E).RdP ok w [.slice ad n cap] xs := by
 subst hn
 rcases Nat.eq_zero_or_pos xs.length with h0 | h0
 ·exact ⟨[], ⟨ad, cap, rfl, h1, h2, .inl ⟨h0, rfl⟩⟩, fun k hk => by cases hk⟩
 ·obtain ⟨b, o, rfl, hb, hok, he⟩ := h h0
  have key : ∀ i, ∃ cf : List Value × List Nat, ∀ (h : i < xs.length), E.rd w cf.1 xs[i] cf.2 ∧ (∀ k ∈ cf.2, ok k) ∧ ∀ j (hj : j < cf.1.length), w.cell? ⟨b, o + i * E.sz + j, none⟩ = some cf.1[j] := fun i => by
   by_cases hi : i < xs.length
   ·obtain ⟨cs, ⟨fp, h3, h4⟩, h5⟩ := he i hi
    exact ⟨(cs, fp), fun _ => ⟨h3, h4, h5⟩⟩
   ·exact ⟨([], []), fun h => absurd h hi⟩
  obtain ⟨F, hF⟩ := Classical.axiomOfChoice key
  refine ⟨b :: (List.range xs.length).flatMap fun i => (F i).2, ⟨_, cap, rfl, h1, h2, .inr ⟨h0, b, o, fun i => (F i).2, rfl, hb, rfl, fun i hi => ⟨(F i).1, (hF i hi).1, (hF i hi).2.2⟩⟩⟩, fun k hk => ?_⟩
  rcases List.mem_cons.1 hk with rfl | hk
  ·exact hok
  ·obtain ⟨i, hi, hk⟩ := List.mem_flatMap.1 hk
   exact (hF i (by simpa using hi)).2.1 k hk
theorem rdP_slice {α : Type} {E : Ty α} {ok : Nat → Prop} {w : World} {u : Value} {x : List α} (h : (Ty.slice E).RdP ok w [u] x) : ∃ ad cap, u = .slice ad x.length cap := rd_slice h.rd
/-- a row of structs: its cells, with what their slices read as -/
theorem pairs_exP {ok : Nat → Prop} {w : World} {u : Value} {xs : List (Int × List Int)} (h : opsT.RdP ok w [u] xs) :
  ∃ ad cap, u = .slice ad xs.length cap ∧ xs.length ≤ cap ∧
   (0 < xs.length → ∃ b o, ad = some ⟨b, o, none⟩ ∧ b < w.heap.size ∧ ∀ i (h : i < xs.length), ∃ v, intsT.RdP ok w [v] xs[i].2 ∧ I64 xs[i].1 ∧
    w.cell? ⟨b, o + i * 2, none⟩ = some (.int .i64 xs[i].1) ∧ w.cell? ⟨b, o + i * 2 + 1, none⟩ = some v) := by
 obtain ⟨ad, cap, h1, h2, h3, h4⟩ := slice_exP h
 refine ⟨ad, cap, by simpa using h1, h2, fun hp => ?_⟩
 obtain ⟨b, o, h5, h6, _, h7⟩ := h4 hp
 refine ⟨b, o, h5, h6, fun i hi => ?_⟩
 obtain ⟨cs, ⟨fp, ⟨cs', rfl, hI, h8⟩, hf⟩, h10⟩ := h7 i hi
 obtain ⟨_, _, rfl, _⟩ := id h8
 exact ⟨_, ⟨_, h8, hf⟩, hI, by simpa [Ty.slice, Ty.cons] using h10 0 (by simp), by simpa [Ty.slice, Ty.cons] using h10 1 (by simp)⟩
/-- what a value of a row's cells reads as -/
def pvR (ok : Nat → Prop) (w : World) (z : (Int × List Int) × (Int × Value)) : Prop := z.2.1 = z.1.1 ∧ I64 z.1.1 ∧ intsT.RdP ok w [z.2.2] z.1.2
theorem pvR.below {ok : Nat → Prop} {w w' : World} {z : (Int × List Int) × (Int × Value)} (h : pvR ok w z) (hb : Below w.heap.size w w') : pvR ok w' z := ⟨h.1, h.2.1, h.2.2.below hb⟩
theorem pvR.mono {ok ok' : Nat → Prop} {w : World} {z : (Int × List Int) × (Int × Value)} (h : pvR ok w z) (hk : ∀ k, k < w.heap.size → ok k → ok' k) : pvR ok' w z := ⟨h.1, h.2.1, h.2.2.mono hk⟩
/-- the pairs of a row's data and its cells -/
theorem vals_of {ok : Nat → Prop} {w : World} {u : Value} {xs : List (Int × List Int)} (h : opsT.RdP ok w [u] xs) :
  ∃ Z : List ((Int × List Int) × (Int × Value)), Z.map (·.1) = xs ∧ (∀ z ∈ Z, pvR ok w z) ∧ Z.length = xs.length ∧
   ∃ ad cap, u = .slice ad xs.length cap ∧ (0 < xs.length → ∃ b o, ad = some ⟨b, o, none⟩ ∧ b < w.heap.size ∧ ∀ i (h : i < Z.length), w.cell? ⟨b, o + i * 2, none⟩ = some (.int .i64 (Z[i]).1.1) ∧ w.cell? ⟨b, o + i * 2 + 1, none⟩ = some (Z[i]).2.2) := by
 obtain ⟨ad, cap, rfl, -, hc⟩ := pairs_exP h
 rcases Nat.eq_zero_or_pos xs.length with h0 | h0
 ·refine ⟨[], ?_, fun z hz => (by cases hz), by simp [h0], ad, cap, rfl, fun h => by omega⟩
  rw [List.eq_nil_of_length_eq_zero h0]
  rfl
 ·obtain ⟨b, o, rfl, hb, hce⟩ := hc h0
  have key : ∀ i, ∃ v, ∀ (h : i < xs.length), intsT.RdP ok w [v] (xs[i]).2 ∧ I64 (xs[i]).1 ∧ w.cell? ⟨b, o + i * 2, none⟩ = some (.int .i64 (xs[i]).1) ∧ w.cell? ⟨b, o + i * 2 + 1, none⟩ = some v := fun i => by
   by_cases hi : i < xs.length
   ·obtain ⟨v, hv⟩ := hce i hi
    exact ⟨v, fun _ => hv⟩
   ·exact ⟨undef, fun h => absurd h hi⟩
  obtain ⟨F, hF⟩ := Classical.axiomOfChoice key
  have hl : ((List.range xs.length).map fun i => (xs.getD i (0, []), ((xs.getD i (0, [])).1, F i))).length = xs.length := by simp
  have hg : ∀ i (h : i < ((List.range xs.length).map fun i => (xs.getD i (0, []), ((xs.getD i (0, [])).1, F i))).length) (h' : i < xs.length), ((List.range xs.length).map fun i => (xs.getD i (0, []), ((xs.getD i (0, [])).1, F i)))[i] = (xs[i], ((xs[i]).1, F i)) := fun i h h' => by
   simp [List.getD_eq_getElem?_getD, h']
  refine ⟨(List.range xs.length).map fun i => (xs.getD i (0, []), ((xs.getD i (0, [])).1, F i)), ?_, fun z hz => ?_, hl, _, cap, rfl, fun _ => ⟨b, o, rfl, hb, fun i h => ?_⟩⟩
  ·apply List.ext_getElem (by simp)
   intro i h h'
   rw [List.getElem_map, hg i (by simpa using h') h']
  ·obtain ⟨i, hi, rfl⟩ := List.mem_iff_getElem.1 hz
   have h' : i < xs.length := by simpa using hi
   rw [hg i hi h']
   exact ⟨rfl, (hF i h').2.1, (hF i h').1⟩
  ·have h' : i < xs.length := by simpa using h
   rw [hg i h h']
   exact ⟨(hF i h').2.2.1, (hF i h').2.2.2⟩
/-- a row of these cells reads as the data do -/
theorem ops_of {ok : Nat → Prop} {w : World} {v : Value} {Z : List ((Int × List Int) × (Int × Value))} (h : (Ty.slice pvT).RdP ok w [v] (Z.map (·.2))) (hr : ∀ z ∈ Z, pvR ok w z) : opsT.RdP ok w [v] (Z.map (·.1)) := by
 obtain ⟨ad, cap, hv, h1, h2, h3⟩ := slice_exP h
 obtain rfl : v = _ := by simpa using hv
 have h1' : Z.length ≤ cap := by simpa using h1
 have h2' : Z.length ≤ capMax := by unfold capMax; simpa using h2
 have h3' : 0 < Z.length → _ := fun h => h3 (by simpa using h)
 refine slice_mkP (by simp) h1' h2' fun h0 => ?_
 obtain ⟨b, o, rfl, hb, hok, he⟩ := h3' h0
 refine ⟨b, o, rfl, hb, hok, fun i hi => ?_⟩
 rw [List.length_map] at hi
 obtain ⟨cs, ⟨fp, ⟨cs', rfl, _, rfl, _, _⟩, hf⟩, h6⟩ := he i (by simpa using hi)
 obtain ⟨e1, e2, fq, e3, e4⟩ := hr _ (List.getElem_mem hi)
 simp only [List.getElem_map] at h6 ⊢
 exact ⟨_, ⟨fq, ⟨_, by rw [e1], e2, e3⟩, e4⟩, h6⟩
theorem Bl.ge {α : Type} {E : Ty α} {e base top : Nat} {w : World} {v : Value} {ys : List α} (h : Bl E e base top w v ys) {g : Nat} (hg : v.ownBlock = some g) : base ≤ g := by
 obtain ⟨L, fps, h1, _⟩ := h
 exact (h1.lt g hg).1
theorem Bl.lt_top {α : Type} {E : Ty α} {e base top : Nat} {w : World} {v : Value} {ys : List α} (h : Bl E e base top w v ys) {g : Nat} (hg : v.ownBlock = some g) : g < top := by
 obtain ⟨L, fps, _, _, _, _, h5, _⟩ := h
 exact h5 g hg
theorem grown_cell' {w w' : World} {row : Option Nat} {b i : Nat} (h : w.grownBy w' row) (hlt : b < w.heap.size) (hne : row ≠ some b) : w'.cell? ⟨b, i, none⟩ = w.cell? ⟨b, i, none⟩ := World.cell?_of_block (h.block b hlt fun e => hne e.symm)
/-- a datum that does not lie in one block -/
def Ty.off {α : Type} (E : Ty α) (bx : Nat) : Ty α where
 sz := E.sz
 rd := fun w cs x fp => E.rd w cs x fp ∧ bx ∉ fp
 len := fun h => E.len h.1
 same := fun h hs => ⟨E.same h.1 hs, h.2⟩
 lt := fun h => E.lt h.1
 one := fun h => E.one h.1
theorem fr_off {α : Type} {E : Ty α} {bx base : Nat} {w : World} {cs : List Value} {x : α} (h : E.Fr base w cs x) (hb : bx < base) : (E.off bx).Fr base w cs x :=
 let ⟨fp, h1, h2, h3, h4⟩ := h; ⟨fp, ⟨h1, fun hm => by have := h3 bx hm; omega⟩, h2, h3, h4⟩
theorem off_same {α : Type} {E : Ty α} {bx e base top : Nat} {w w' : World} {v : Value} {ys : List α} (h : Bl (E.off bx) e base top w v ys) (hv : v.ownBlock ≠ some bx) (hs : ∀ k, k ≠ bx → w'.heap[k]? = w.heap[k]?) : Bl (E.off bx) e base top w' v ys := by
 obtain ⟨L, fps, h1, h2, h3, h4, h5, h6⟩ := h
 have hne : ∀ b ∈ flat fps ys.length, b ≠ bx := by
  intro b hb he
  obtain ⟨i, hi, hb⟩ := List.mem_flatMap.1 hb
  obtain ⟨cs, h7, _⟩ := h2 i (by simpa using hi)
  rw [he] at hb
  exact h7.2 hb
 have hS : Same (flat fps ys.length) w w' := fun k hk => hs k (hne k hk)
 refine ⟨L, fps, ⟨h1.1, ?_⟩, fun i hi => ?_, h3, h4, h5, h6.same hS⟩
 ·rcases h1.2 with h | ⟨g, cap, cur, rfl, hg, hh, r⟩
  ·exact .inl h
  ·exact .inr ⟨g, cap, cur, rfl, hg, by rw [hs g (fun e => hv (by rw [e]; rfl))]; exact hh, r⟩
 ·obtain ⟨cs, h7, h8⟩ := h2 i hi
  exact ⟨cs, (E.off bx).same h7 (fun k hk => hS k (List.mem_flatMap.2 ⟨i, by simpa using hi, hk⟩)), h8⟩
theorem pv_same {e base top top' : Nat} {w w' : World} {v : Value} {ys : List (Int × Value)} (h : Bl pvT e base top w v ys) (hs : ∀ b, v.ownBlock = some b → w'.heap[b]? = w.heap[b]?) (ht : top ≤ top') : Bl pvT e base top' w' v ys := by
 obtain ⟨L, fps, h1, h2, h3, h4, h5, h6⟩ := h
 have hnil : ∀ b, b ∉ flat fps ys.length := by
  intro b hb
  obtain ⟨i, hi, hb⟩ := List.mem_flatMap.1 hb
  obtain ⟨cs, ⟨cs', _, _, _, _, hf⟩, _⟩ := h2 i (by simpa using hi)
  rw [hf] at hb
  cases hb
 refine ⟨L, fps, ⟨h1.1, ?_⟩, fun i hi => ?_, h3, fun b hb => absurd hb (hnil b), fun g hg => Nat.lt_of_lt_of_le (h5 g hg) ht, fun b hb => absurd hb (hnil b)⟩
 ·rcases h1.2 with h | ⟨g, cap, cur, rfl, hg, hh, r⟩
  ·exact .inl h
  ·exact .inr ⟨g, cap, cur, rfl, hg, by rw [hs g rfl]; exact hh, r⟩
 ·obtain ⟨cs, h7, h8⟩ := h2 i hi
  exact ⟨cs, h7, h8⟩
/-- a row of n rows at block g: its cells are us; each is a row of the call's own, from base on, and no two share a block -/
def DU (eA eR base top : Nat) (w : World) (g n : Nat) (us : Nat → Value) (Ls : Nat → List (Int × Value)) : Prop :=
 w.ownsRow g eR 1 (.slice (some ⟨g, 0, none⟩) n n) n ((List.range n).map us) ∧ g < base ∧ (∀ v, v < n → Bl pvT eA base top w (us v) (Ls v)) ∧ ∀ v, v < n → ∀ b, (us v).ownBlock = some b → ∀ v', v' < n → v' ≠ v → (us v').ownBlock ≠ some b
section
variable {eA eR base top g n : Nat} {w w' : World} {us : Nat → Value} {Ls : Nat → List (Int × Value)}
theorem owns_same {b e sz : Nat} {g n cap : Nat} {xs : List Value} (h : w.ownsRow b e sz (.slice (some ⟨g, 0, none⟩) n cap) n xs) (hs : w'.heap[g]? = w.heap[g]?) : w'.ownsRow b e sz (.slice (some ⟨g, 0, none⟩) n cap) n xs := by
 refine ⟨h.1, ?_⟩
 rcases h.2 with h | ⟨g', cap, cur, hg', hg, hh, r⟩
 ·exact .inl h
 ·simp only [Value.slice.injEq, Option.some.injEq, Addr.mk.injEq, and_true, true_and] at hg'
  obtain ⟨rfl, rfl⟩ := hg'
  exact .inr ⟨g, _, cur, rfl, hg, by rw [hs]; exact hh, r⟩
theorem DU.nils {eA' base' top' : Nat} (h : DU eA eR base top w g n (fun _ => .slice none 0 0) (fun _ => [])) (hb : g < base') (hs : w'.heap[g]? = w.heap[g]?) : DU eA' eR base' top' w' g n (fun _ => .slice none 0 0) (fun _ => []) :=
 ⟨owns_same h.1 hs, hb, fun v _ => Bl.nil, fun v _ b hb => by simp [Value.ownBlock] at hb⟩
theorem DU.lt (h : DU eA eR base top w g n us Ls) : g < w.heap.size := (h.1.lt g rfl).2
theorem DU.cell (h : DU eA eR base top w g n us Ls) {j : Nat} (hj : j < n) : w.cell? ⟨g, j, none⟩ = some (us j) := by
 rw [World.ownsRow.cellAt h.1 j (by omega)]
 simp [hj]
theorem DU.free (h : DU eA eR base top w g n us Ls) (j : Nat) : w.frozen? ⟨g, j, none⟩ = false := World.ownsRow.frozenAt h.1 j
theorem DU.below {B : Nat} (h : DU eA eR base top w g n us Ls) (hb : Below B w w') (ht : top ≤ B) (hB : base ≤ B) : DU eA eR base top w' g n us Ls :=
 ⟨owns_same h.1 (hb.block g (by have := h.2.1; omega)), h.2.1, fun v hv => (h.2.2.1 v hv).below hb ht, h.2.2.2⟩
theorem DU.mono {top' : Nat} (h : DU eA eR base top w g n us Ls) (ht : top ≤ top') : DU eA eR base top' w g n us Ls := ⟨h.1, h.2.1, fun v hv => (h.2.2.1 v hv).mono ht, h.2.2.2⟩
theorem DU.push {l : Nat} {v1 : Value} {y : Int × Value} (h : DU eA eR base top w g n us Ls) (hl : l < n) (hB : Bl pvT eA base w'.heap.size w' v1 (Ls l ++ [y])) (hg : w.grownBy w' (us l).ownBlock) (hv : v1.ownBlock = (us l).ownBlock ∨ v1.ownBlock = some w.heap.size) (ht : top ≤ w.heap.size) :
  DU eA eR base w'.heap.size (w'.setCell ⟨g, l, none⟩ v1) g n (fun v => if v = l then v1 else us v) (fun v => if v = l then Ls l ++ [y] else Ls v) := by
 obtain ⟨h1, h2, h3, h4⟩ := h
 have hbl : (us l).ownBlock ≠ some g := fun e => by have := (h3 l hl).ge e; omega
 have hgl := (h1.lt g rfl).2
 have hg' : w'.heap[g]? = w.heap[g]? := hg.block g hgl (fun e => hbl e.symm)
 have hset : ∀ b, b ≠ g → (w'.setCell ⟨g, l, none⟩ v1).heap[b]? = w'.heap[b]? := fun b hb => Below.heap_setCell w' ⟨g, l, none⟩ v1 b hb
 refine ⟨?_, h2, fun v hv' => ?_, fun v hv' b hb v' hv2 hne => ?_⟩
 ·have h5 := ((owns_same h1 hg').stored l v1).1
  have e : ((List.range n).map us).set l v1 = (List.range n).map (fun v => if v = l then v1 else us v) := by
   apply List.ext_getElem (by simp)
   intro i hi hi'
   rw [List.getElem_set]
   simp only [List.getElem_map, List.getElem_range]
   by_cases e : l = i
   ·subst e; simp
   ·rw [if_neg e, if_neg (fun h => e h.symm)]
  rw [← e]
  exact h5
 ·by_cases e : v = l
  ·subst e
   simp only [if_pos]
   exact pv_same hB (fun b hb => hset b (by have := hB.ge hb; omega)) (Nat.le_refl _)
  ·simp only [if_neg e]
   refine pv_same (h3 v hv') (fun b hb => ?_) (Nat.le_trans ht hg.size)
   have hbl := (h3 v hv').ge hb
   have hbt : b < w.heap.size := by
    obtain ⟨L, fps, _, _, _, _, h5, _⟩ := h3 v hv'
    exact Nat.lt_of_lt_of_le (h5 b hb) ht
   rw [hset b (by omega)]
   exact hg.block b hbt (fun he => h4 v hv' b hb l hl (fun h => e h.symm) he.symm)
 ·have hbt : ∀ u b, u < n → (us u).ownBlock = some b → b < w.heap.size := fun u b hu hb => by
   obtain ⟨L, fps, _, _, _, _, h5, _⟩ := h3 u hu
   exact Nat.lt_of_lt_of_le (h5 b hb) ht
  by_cases e : v = l
  ·subst e
   simp only [if_pos] at hb
   simp only [if_neg hne]
   rcases hv with hv | hv
   ·rw [hv] at hb; exact h4 v hv' b hb v' hv2 hne
   ·rw [hv] at hb
    intro he
    have := hbt v' b hv2 he
    simp at hb
    omega
  ·simp only [if_neg e] at hb
   by_cases e' : v' = l
   ·subst e'
    simp only [if_pos]
    rcases hv with hv | hv
    ·rw [hv]; exact h4 v hv' b hb v' hv2 hne
    ·rw [hv]
     intro he
     have := hbt v b hv' hb
     simp at he
     omega
   ·simp only [if_neg e']
    exact h4 v hv' b hb v' hv2 hne
end
/-- what it reads as -/
theorem dues_of {eA eR base top g n : Nat} {w : World} {us : Nat → Value} {ok : Nat → Prop} {Zs : Nat → List ((Int × List Int) × (Int × Value))} (h : DU eA eR base top w g n us (fun v => (Zs v).map (·.2))) (hn : n ≤ capMax) (hl : ∀ v, v < n → (Zs v).length ≤ capMax)
  (hr : ∀ v, v < n → ∀ z ∈ Zs v, pvR ok w z) (hg : ok g) (hb : ∀ k, base ≤ k → k < w.heap.size → ok k) : duesT.RdP ok w [.slice (some ⟨g, 0, none⟩) n n] ((List.range n).map fun v => (Zs v).map (·.1)) := by
 refine slice_mkP (by simp) (Nat.le_refl _) hn fun _ => ⟨g, 0, rfl, h.lt, hg, fun i hi => ?_⟩
 have hi' : i < n := by simpa using hi
 refine ⟨[us i], ?_, fun j hj => ?_⟩
 ·rw [List.getElem_map, List.getElem_range]
  obtain ⟨fp, h1, -, h3, -⟩ := (h.2.2.1 i hi').fr (by rw [List.length_map]; exact hl i hi')
  exact ops_of ⟨fp, h1, fun k hk => hb k (h3 k hk) (Ty.lt _ h1 k hk)⟩ (hr i hi')
 ·obtain rfl : j = 0 := by simpa using hj
  have := h.cell hi'
  simpa [Ty.slice] using this
/-- a make of n rows, in a region -/
theorem step_mkN {P : Program} {K : Act → World → Prop} {Ee : Prop} (w : World) {ops : Array Oper} {o : Oper} {a : Act} {Q : Exit → Act → World → Prop} (hg : o.guard = none) (l c : Operand) (t e : TypeId) {bytes : Nat}
  (hop : o.op = Op.makeSlice t l c) (ht : P.underlying t = some (.slice e)) (hinfo : (P.info? e).map (fun i => (i.zero, i.size, i.bytes)) = some (some (.slice none 0 0), 1, bytes)) (n : Nat) (hl : a.eval l = .int .i64 (n : Int)) (hc : a.eval c = .int .i64 (n : Int)) (hn : n ≤ 1000000000) (hby : bytes ≤ 100000)
  (hK : ∀ w', (∀ eA base top, w.heap.size < base → DU eA e base top w' w.heap.size n (fun _ => .slice none 0 0) (fun _ => [])) → Below w.heap.size w w' → w'.heap.size = w.heap.size + 1 → K (a.put o.dst (.slice (some ⟨w.heap.size, 0, none⟩) n n)) w') :
  if Region.wanted o (yielded ops a.tmps) = true then Oper.wp P o a w K Q else Ee := by
 rw [if_pos (by simp [Region.wanted, hg])]
 obtain ⟨i, hi, hz, hsz, hbt'⟩ := info_parts hinfo
 have hlen' : bytes * n ≤ 281474976710656 := Nat.le_trans (Nat.mul_le_mul hby hn) (by decide)
 have hb48 : (i.bytes : Int) * (n : Int) ≤ 281474976710656 := by
  have h : ((bytes * n : Nat) : Int) ≤ 281474976710656 := by omega
  rw [hbt']
  rwa [Int.natCast_mul] at h
 have hr := run_make (P := P) w t e i (.slice none 0 0) ht hi hz .i64 .i64 (n : Int) (n : Int) (by omega) (Int.le_refl _) hb48 (by omega)
 simp only [Int.toNat_natCast] at hr
 unfold Oper.wp
 simp only [execOp, hop, hl, hc, hr, Result.andThen_ok, Sem.run_bind, Sem.run_pure]
 have hown := World.ownsRow_lit (base := w.heap.size) (e := e) (size := 1) w (madeCells (Value.slice none 0 0).cells (n * i.size)) n (Nat.le_refl _) (by unfold maxLen; omega) (by rw [size_madeCells, hsz])
 have e1 : (madeCells (Value.slice none 0 0).cells (n * i.size)).toList = (List.range n).map (fun _ => Value.slice none 0 0) := by
  rw [hsz, Nat.mul_one]
  have hc0 : (Value.slice none 0 0).cells = #[.slice none 0 0] := by simp [Value.cells]
  rw [hc0, toList_madeCells_one, List.map_const', List.length_range]
 rw [e1] at hown
 exact hK _ (fun eA base top hb => ⟨hown, hb, fun v _ => Bl.nil, fun v _ b hb => by simp [Value.ownBlock] at hb⟩) ((Below.refl _ w).alloc (Nat.le_refl _) _) (by simp)
end Go.Proofs.YtnhdohednekhjaaGreatDoor
namespace Go.Proofs.YtnhdohednekhjaaGreatDoor
open Go.RowKit Go.Sort
/-- the atoms that are due at a variable; for all variables -/
def dueL (ats : List (Int × List Int)) (v : Nat) : List (Int × List Int) := ats.filter fun a => topI a.2 == (v : Int)
def duesL (ats : List (Int × List Int)) (n : Nat) : List (List (Int × List Int)) := (List.range n).map (dueL ats)
theorem duesL_len {ats : List (Int × List Int)} {n : Nat} : (duesL ats n).length = n := by simp [duesL]
theorem duesL_get {ats : List (Int × List Int)} {n k : Nat} (h : k < (duesL ats n).length) : (duesL ats n)[k] = dueL ats k := by simp [duesL]
theorem duesL_ok {t : Int × List (Int × List (List Int))} {n : Nat} {ats : List (Int × List Int)} (h : ∀ a ∈ ats, atomOk t n a) : dueOk t n (duesL ats n) := fun k hk a ha => by
 rw [duesL_get hk] at ha
 obtain ⟨ha, ht⟩ := List.mem_filter.1 ha
 have h1 := h a ha
 refine ⟨h1, fun p hp => ?_⟩
 have h2 := topI_ge hp
 have h3 := h1.2.2 p hp
 have : topI a.2 = (k : Int) := by simpa using ht
 omega
def zL (Z : List ((Int × List Int) × (Int × Value))) (k v : Nat) : List ((Int × List Int) × (Int × Value)) := (Z.take k).filter fun z => topI z.1.2 == (v : Int)
theorem zL_zero {Z : List ((Int × List Int) × (Int × Value))} {v : Nat} : zL Z 0 v = [] := by simp [zL]
theorem zL_mem {Z : List ((Int × List Int) × (Int × Value))} {k v : Nat} {z : (Int × List Int) × (Int × Value)} (h : z ∈ zL Z k v) : z ∈ Z := List.mem_of_mem_take (List.mem_filter.1 h).1
theorem zL_yes {Z : List ((Int × List Int) × (Int × Value))} {k v : Nat} (h : k < Z.length) (e : topI (Z[k]).1.2 = (v : Int)) : zL Z (k + 1) v = zL Z k v ++ [Z[k]] := by
 unfold zL
 rw [List.take_succ_eq_append_getElem h, List.filter_append]
 simp [e]
theorem zL_no {Z : List ((Int × List Int) × (Int × Value))} {k v : Nat} (h : k < Z.length) (e : topI (Z[k]).1.2 ≠ (v : Int)) : zL Z (k + 1) v = zL Z k v := by
 unfold zL
 rw [List.take_succ_eq_append_getElem h, List.filter_append]
 simp [e]
theorem zL_fst {Z : List ((Int × List Int) × (Int × Value))} {v : Nat} : (zL Z Z.length v).map (·.1) = dueL (Z.map (·.1)) v := by
 unfold zL dueL
 rw [List.take_length, List.filter_map]
 rfl
theorem zL_len {Z : List ((Int × List Int) × (Int × Value))} {k v : Nat} : (zL Z k v).length ≤ Z.length := by
 unfold zL
 exact Nat.le_trans (List.length_filter_le _ _) (by rw [List.length_take]; omega)
theorem infoAtomS : (Tryz.prog.info? 29).map (fun i => (i.zero, i.size, i.bytes)) = some (some (.slice none 0 0), 1, 24) := by kernel_rfl
set_option maxHeartbeats 6400000 in
set_option maxRecDepth 100000 in
theorem solverOf_any (w : World) {ok0 : Nat → Prop} {ct : Array Value} {t : Int × List (Int × List (List Int))} (ht : tplT.RdP ok0 w ct.toList t) {n : Nat} (hn : n ≤ 10) {va : Value} {ats : List (Int × List Int)} (ha : opsT.RdP ok0 w [va] ats) (hlen : ats.length ≤ 1000)
  (hA : ∀ a ∈ ats, 1 ≤ a.2.length ∧ ∀ p ∈ a.2, 0 ≤ p ∧ p < (n : Int)) :
  Calls Tryz.prog 102 #[.agg ct, .int .i64 n, va] w fun e w' => ∃ bs, e = .returned (.pointer (some ⟨bs, 0, none⟩)) ∧ Sv (fun k => ok0 k ∨ w.heap.size ≤ k) w' bs t n (duesL ats n) ∧ Below w.heap.size w w' := by
 have HT := Lib.hid ht
 obtain ⟨v1, hct, -, -⟩ := pair_ex ht.rd
 obtain rfl := agg_of hct
 obtain ⟨Z, hZ, hZr, hZl, aa, ac, rfl, hZc⟩ := vals_of ha
 have HZ := Lib.hid hZ
 have HZR := Lib.hid hZr
 have HZL := Lib.hid hZl
 have HZC := Lib.hid hZc
 have HAS : Hid (∀ k (h : k < Z.length), 1 ≤ (Z[k]).1.2.length ∧ ∀ p ∈ (Z[k]).1.2, 0 ≤ p ∧ p < (n : Int)) := fun k h => by
  have h1 : (Z[k]).1 ∈ ats := by rw [← hZ]; exact List.mem_map_of_mem (List.getElem_mem h)
  exact hA _ h1
 clear ht hct ha hA hZ hZr hZl hZc
 go_enter Tryz.func102, Tryz.ntmps102
 go_wp2_with fail
 generalize hW : World.alloc _ _ = W
 have hbW : Below w.heap.size w W := hW ▸ bA
 have hsW : w.heap.size + 1 ≤ W.heap.size := by rw [← hW]; simp
 have t0 : W.cell? ⟨w.heap.size, 0, none⟩ = some (.int .i64 t.1) := by rw [← hW]; simp
 have t1 : W.cell? ⟨w.heap.size, 1, none⟩ = some v1 := by rw [← hW]; simp
 clear hW
 refine wp_region_T (fun w' => w'.cell? ⟨w.heap.size, 0, none⟩ = some (.int .i64 t.1) ∧ w'.cell? ⟨w.heap.size, 1, none⟩ = some v1) [5, 6] (by kernel_rfl) ⟨t0, t1⟩ (fun hHeld => ?_)
 refine wpAnyT_take (i := 0) (v := ?_) rfl (by kernel_rfl) (fun _ _ _ h => h) (Or.inl ⟨by rfl, ?_⟩) (by assumption) ?_
 rotate_left
 ·(intro w hSw; (try dsimp only at hSw); go_simp <;> with_reducible rfl)
 try simp only [Act.put]
 refine wpAnyT_take (i := 1) (v := ?_) rfl (by kernel_rfl) (fun _ _ _ h => h) (Or.inl ⟨by rfl, ?_⟩) (by assumption) ?_
 rotate_left
 ·(intro w hSw; (try dsimp only at hSw); go_simp <;> with_reducible rfl)
 try simp only [Act.put]
 refine wpAnyT_take (i := 2) (v := ?_) rfl (by kernel_rfl) (fun _ _ _ h => h) (Or.inl ⟨by rfl, ?_⟩) (by assumption) ?_
 rotate_left
 ·(intro w hSw; (try dsimp only at hSw); go_simp <;> with_reducible rfl)
 try simp only [Act.put]
 refine wpAnyT_one (i := 3) rfl (by kernel_rfl) (fun K hK => ?_)
 refine step_mkN _ rfl _ _ 197 29 rfl Tryz.underlying197 infoAtomS n rfl rfl (by omega) (by decide) ?_
 intro w1 hDU hb1 hs1
 have hb1' : Below W.heap.size W w1 := bthen bD hb1
 have hs1' : W.heap.size + 1 ≤ w1.heap.size := Nat.le_of_eq hs1.symm
 have HDU : Hid (DU 98 29 (w1.heap.size + 1) (w1.heap.size + 1) w1 W.heap.size n (fun _ => .slice none 0 0) (fun _ => [])) := hDU _ _ _ (by have : W.drew.heap.size = W.heap.size := rfl; omega)
 replace t0 := (cellB hb1' (by omega)).trans t0
 replace t1 := (cellB hb1' (by omega)).trans t1
 clear hDU hb1 hs1
 refine hK.out _ _ ⟨t0, t1⟩ (fun hHeld => ?_)
 clear hK K
 refine wpAnyT_take (i := 4) (v := ?_) rfl (by kernel_rfl) (fun _ _ _ h => h) (Or.inl ⟨by rfl, ?_⟩) (by assumption) ?_
 rotate_left
 ·(intro w hSw; (try dsimp only at hSw); go_simp <;> with_reducible rfl)
 try simp only [Act.put]
 refine wpAnyT_last (i := 5) rfl (by kernel_rfl) (by kernel_rfl) (fun K hK => ?_)
 go_simp
 refine hK.out _ _ ?_
 clear hK K
 refine wpAnyT_last (i := 6) rfl (by kernel_rfl) (by kernel_rfl) (fun K hK => ?_)
 go_simp
 refine hK.out _ _ ?_
 clear hK K
 refine wpAnyT_done (by kernel_rfl) ?_ _
 go_simp
 go_wp2_with fail
 have hgD : W.drew.heap.size = W.heap.size := rfl
 generalize hWs : World.alloc w1 _ = ws
 have hbs : Below w1.heap.size w1 ws := hWs ▸ bA
 have hss : w1.heap.size + 1 ≤ ws.heap.size := by rw [← hWs]; simp
 have s0 : ws.cell? ⟨w1.heap.size, 0, none⟩ = some (.int .i64 t.1) := by rw [← hWs]; simp [go_sem]
 have s1 : ws.cell? ⟨w1.heap.size, 1, none⟩ = some v1 := by rw [← hWs]; simp [go_sem]
 have s2 : ws.cell? ⟨w1.heap.size, 2, none⟩ = some (.int .i64 n) := by rw [← hWs]; simp [go_sem]
 have s3 : ws.cell? ⟨w1.heap.size, 3, none⟩ = some (.slice (some ⟨W.heap.size, 0, none⟩) n n) := by rw [← hWs]; simp [go_sem]
 have hbww : Below w.heap.size w ws := bthen (bthen hbW hb1') hbs
 generalize hgB : w1.heap.size = bs at *
 generalize hgG : W.heap.size = g at *
 have hgbs : g + 1 ≤ bs := hs1'
 have hwg : w.heap.size + 1 ≤ g := hsW
 clear hWs hHeld t0 t1 hb1' hbW hgB hgG hgD hs1' hsW
 go_loopw [19] (fun i wr => ∃ (k : Nat) (us : Nat → Value), k ≤ ats.length ∧ i = .int .i64 k ∧ DU 98 29 (bs + 1) wr.heap.size wr g n us (fun v => (zL Z k v).map (·.2)) ∧ Below g ws wr ∧ wr.heap[bs]? = ws.heap[bs]? ∧ bs + 1 ≤ wr.heap.size) (fun i _ => ats.length - (intOf i).toNat)
 case atStart =>
  refine ⟨0, fun _ => .slice none 0 0, Nat.zero_le _, rfl, ?_, Below.refl _ _, rfl, hss⟩
  have h1 : DU 98 29 (bs + 1) ws.heap.size ws g n (fun _ => .slice none 0 0) (fun _ => []) := HDU.out.nils (by omega) (hbs.block g (by omega))
  simpa [zL_zero] using h1
 case round =>
  obtain ⟨k, us, hk, rfl, hdu, hbe, hbb, hse⟩ := hrel
  have HDK := Lib.hid hdu
  have HBB := Lib.hid hbb
  have hbw : Below w.heap.size w wr := hbww.trans (hbe.mono (by omega))
  clear hdu hbb HDU
  by_cases hkl : k < ats.length
  ·obtain ⟨b, o, rfl, hb, hce⟩ := HZC.out (by omega)
   have hkz : k < Z.length := by rw [HZL.out]; exact hkl
   obtain ⟨g0, g1⟩ := hce k hkz
   obtain ⟨q1, q2, q3⟩ := HZR.out _ (List.getElem_mem hkz)
   obtain ⟨qa, qc, hqe⟩ := rdP_slice q3
   have hy : (Z[k]).2 = ((Z[k]).1.1, .slice qa (Z[k]).1.2.length qc) := by rw [← q1, ← hqe]
   rw [hqe] at g1 q3
   have HY := Lib.hid hy
   have hI := q2
   have d0 := (hbw.cell hb).trans g0
   have d1 := (hbw.cell hb).trans g1
   have HQ := Lib.hid (q3.rd.below hbw)
   obtain ⟨m1, m2⟩ := HAS.out k hkz
   obtain ⟨l, hl⟩ : ∃ l : Nat, topI (Z[k]).1.2 = l := ⟨(topI (Z[k]).1.2).toNat, by have := topI_nn (xs := (Z[k]).1.2); omega⟩
   have hln : l < n := by
    have h0 : (0 : Int) ≤ (n : Int) - 1 := by
     have := m2 _ (List.getElem_mem (show 0 < (Z[k]).1.2.length by omega))
     omega
    have := topI_le h0 (fun x hx => by have := m2 x hx; omega)
    omega
   have HM2 : Hid (∀ x ∈ (Z[k]).1.2, 0 ≤ x) := fun x hx => (m2 x hx).1
   have HL := Lib.hid hl
   obtain ⟨ua, un, uc, hul⟩ := ex_slice ((HDK.out.2.2.1 l hln).fr (by have := zL_len (Z := Z) (k := k) (v := l); have := HZL.out; rw [List.length_map]; unfold capMax; omega))
   have HUL := Lib.hid hul
   have hlz : (zL Z k l).length ≤ 1000 := by have := zL_len (Z := Z) (k := k) (v := l); have := HZL.out; omega
   generalize hz1 : (Z[k]).1.1 = c1 at *
   clear hce g0 g1 q1 q3 hqe m2 hy hl hul
   go_wp2_with fail
   generalize hWa : World.alloc wr _ = wa
   have hba : Below wr.heap.size wr wa := hWa ▸ bA
   have hsa : wr.heap.size + 1 ≤ wa.heap.size := by rw [← hWa]; simp
   have e0 : wa.cell? ⟨wr.heap.size, 0, none⟩ = some (.int .i64 c1) := by rw [← hWa]; simp
   have e1 : wa.cell? ⟨wr.heap.size, 1, none⟩ = some (.slice qa (Z[k]).1.2.length qc) := by rw [← hWa]; simp
   clear hWa
   refine (MaxI_any _ (HQ.out.below hba) m1 HM2.out).mono ?_
   rintro e _ ⟨rfl, rfl⟩
   rw [HL.out]
   have f3 := (World.cell?_of_block (a := ⟨bs, 3, none⟩) (HBB.out)).trans s3
   have f4 := HDK.out.cell hln
   rw [HUL.out] at f4
   have f5 := HDK.out.free l
   have hgw := HDK.out.lt
   have hbsw : bs < wr.heap.size := by omega
   replace f3 := (cellB hba (by omega)).trans f3
   replace f4 := (cellB hba (by omega)).trans f4
   replace f5 := (frozenB hba (by omega)).trans f5
   go_wp2_with fail
   refine wp_region_T (fun w' => w'.cell? ⟨bs, 3, none⟩ = some (.slice (some ⟨g, 0, none⟩) n n) ∧ w'.cell? ⟨g, l, none⟩ = some (.slice ua un uc) ∧ w'.cell? ⟨wr.heap.size, 0, none⟩ = some (.int .i64 c1) ∧ w'.cell? ⟨wr.heap.size, 1, none⟩ = some (.slice qa (Z[k]).1.2.length qc)) [16] (by kernel_rfl) ⟨f3, f4, e0, e1⟩ (fun hHeld => ?_)
   refine wpAnyT_take (i := 0) (v := ?_) rfl (by kernel_rfl) (fun _ _ _ h => h) (Or.inl ⟨by rfl, ?_⟩) (by assumption) ?_
   rotate_left
   ·(intro w hSw; (try dsimp only at hSw); go_simp <;> with_reducible rfl)
   try simp only [Act.put]
   refine wpAnyT_take (i := 1) (v := ?_) rfl (by kernel_rfl) (fun _ _ _ h => h) (Or.inl ⟨by rfl, ?_⟩) (by assumption) ?_
   rotate_left
   ·(intro w hSw; (try dsimp only at hSw); go_simp <;> with_reducible rfl)
   try simp only [Act.put]
   refine wpAnyT_take (i := 2) (v := ?_) rfl (by kernel_rfl) (fun _ _ _ h => h) (Or.inl ⟨by rfl, ?_⟩) (by assumption) ?_
   rotate_left
   ·(intro w hSw; (try dsimp only at hSw); go_simp <;> with_reducible rfl)
   try simp only [Act.put]
   refine wpAnyT_take (i := 3) (v := ?_) rfl (by kernel_rfl) (fun _ _ _ h => h) (Or.inl ⟨by rfl, ?_⟩) (by assumption) ?_
   rotate_left
   ·(intro w hSw; (try dsimp only at hSw); go_simp <;> with_reducible rfl)
   try simp only [Act.put]
   refine wpAnyT_take (i := 4) (v := ?_) rfl (by kernel_rfl) (fun _ _ _ h => h) (Or.inl ⟨by rfl, ?_⟩) (by assumption) ?_
   rotate_left
   ·(intro w hSw; (try dsimp only at hSw); go_simp <;> with_reducible rfl)
   try simp only [Act.put]
   refine wpAnyT_take (i := 5) (v := ?_) rfl (by kernel_rfl) (fun _ _ _ h => h) (Or.inl ⟨by rfl, ?_⟩) (by assumption) ?_
   rotate_left
   ·(intro w hSw; (try dsimp only at hSw); go_simp <;> with_reducible rfl)
   try simp only [Act.put]
   refine wpAnyT_take (i := 6) (v := ?_) rfl (by kernel_rfl) (fun _ _ _ h => h) (Or.inl ⟨by rfl, ?_⟩) (by assumption) ?_
   rotate_left
   ·(intro w hSw; (try dsimp only at hSw); go_simp <;> with_reducible rfl)
   try simp only [Act.put]
   refine wpAnyT_take (i := 7) (v := ?_) rfl (by kernel_rfl) (fun _ _ _ h => h) (Or.inl ⟨by rfl, ?_⟩) (by assumption) ?_
   rotate_left
   ·(intro w hSw; (try dsimp only at hSw); go_simp <;> with_reducible rfl)
   try simp only [Act.put]
   refine wpAnyT_take (i := 8) (v := ?_) rfl (by kernel_rfl) (fun _ _ _ h => h) (Or.inl ⟨by rfl, ?_⟩) (by assumption) ?_
   rotate_left
   ·(intro w hSw; (try dsimp only at hSw); go_simp <;> with_reducible rfl)
   try simp only [Act.put]
   refine wpAnyT_take (i := 9) (v := ?_) rfl (by kernel_rfl) (fun _ _ _ h => h) (Or.inl ⟨by rfl, ?_⟩) (by assumption) ?_
   rotate_left
   ·(intro w hSw; (try dsimp only at hSw); go_simp <;> with_reducible rfl)
   try simp only [Act.put]
   refine wpAnyT_take (i := 10) (v := ?_) rfl (by kernel_rfl) (fun _ _ _ h => h) (Or.inl ⟨by rfl, ?_⟩) (by assumption) ?_
   rotate_left
   ·(intro w hSw; (try dsimp only at hSw); go_simp <;> with_reducible rfl)
   try simp only [Act.put]
   refine wpAnyT_take (i := 11) (v := ?_) rfl (by kernel_rfl) (fun _ _ _ h => h) (Or.inl ⟨by rfl, ?_⟩) (by assumption) ?_
   rotate_left
   ·(intro w hSw; (try dsimp only at hSw); go_simp <;> with_reducible rfl)
   try simp only [Act.put]
   refine wpAnyT_take (i := 12) (v := ?_) rfl (by kernel_rfl) (fun _ _ _ h => h) (Or.inl ⟨by rfl, ?_⟩) (by assumption) ?_
   rotate_left
   ·(intro w hSw; (try dsimp only at hSw); go_simp <;> with_reducible rfl)
   try simp only [Act.put]
   refine wpAnyT_one (i := 13) rfl (by kernel_rfl) (fun K hK => ?_)
   go_simp
   refine hK.out _ _ ⟨by go_keep, by go_keep, by go_keep, by go_keep⟩ (fun hHeld => ?_)
   clear hK K
   refine wpAnyT_one (i := 14) rfl (by kernel_rfl) (fun K hK => ?_)
   have HBl : Hid (Bl pvT 98 (bs + 1) wr.heap.size wr (.slice ua un uc) ((zL Z k l).map (·.2))) := by rw [← HUL.out]; exact HDK.out.2.2.1 l hln
   have hbX : ∀ o : Obj, Below wr.heap.size wr (wa.drew.alloc o) := fun o => bthen hba ((Below.refl _ wa).drew.alloc (by simp) o)
   refine step_push (E := pvT) _ rfl _ _ 29 98 rfl elAtomS rfl (HBl.out.below (hbX _) (Nat.le_refl _)) rfl news2 (fr_pv (x := .slice qa (Z[k]).1.2.length qc) hI rfl) (by rw [List.length_map]; omega) (by decide) (by omega) (by simp; omega) ?_
   intro v5 w5 hB5 hg5 hown
   obtain ⟨a5, n5, c5, rfl⟩ := ex_slice (hB5.fr (by rw [List.length_append, List.length_map]; unfold capMax; simp only [List.length_singleton]; omega))
   have hg6 : ((wa.alloc (.cells #[.int .i64 c1, .slice qa (Z[k]).1.2.length qc] 98)).drew).grownBy w5 (Value.slice ua un uc).ownBlock := hg5
   have hown6 : (Value.slice a5 n5 c5).ownBlock = (Value.slice ua un uc).ownBlock ∨ (Value.slice a5 n5 c5).ownBlock = some ((wa.alloc (.cells #[.int .i64 c1, .slice qa (Z[k]).1.2.length qc] 98)).drew).heap.size := hown
   have hbX2 : Below wr.heap.size wr ((wa.alloc (.cells #[.int .i64 c1, .slice qa (Z[k]).1.2.length qc] 98)).drew) := hbX _
   generalize hWX : (wa.alloc (.cells #[.int .i64 c1, .slice qa (Z[k]).1.2.length qc] 98)).drew = wx at hg6 hown6 hbX2
   have hax : Below wa.heap.size wa wx := by rw [← hWX]; exact (Below.refl _ wa).drew.alloc (by simp) _
   have hxs := hax.size
   have hown0 : ∀ q, (Value.slice ua un uc).ownBlock = some q → q < wr.heap.size := fun q hq => HBl.out.lt_top hq
   have HD5 := Lib.hid (DU.push (y := (c1, .slice qa (Z[k]).1.2.length qc)) (HDK.out.below hbX2 (Nat.le_refl _) hse) hln hB5 (by rw [HUL.out]; exact hg6) (by rw [HUL.out]; exact hown6) hbX2.size)
   have HLS : Hid ((fun v => if v = l then (zL Z k l).map (·.2) ++ [(c1, Value.slice qa (Z[k]).1.2.length qc)] else (zL Z k v).map (·.2)) = fun v => (zL Z (k + 1) v).map (·.2)) := by
    unfold Hid
    funext v
    by_cases e : v = l
    ·subst e
     rw [if_pos rfl, zL_yes hkz HL.out, List.map_append, List.map_cons, List.map_nil, HY.out]
    ·rw [if_neg e, zL_no hkz (by rw [HL.out]; intro h; exact e (by omega))]
   rw [HLS.out] at HD5
   have hb5 : Below (bs + 1) wr w5 := (hbX2.mono (by omega)).grown hg6 (by omega) (fun q hq => HBl.out.ge hq)
   have i3 := (cellB (hb5) (by omega)).trans ((World.cell?_of_block (a := ⟨bs, 3, none⟩) (HBB.out)).trans s3)
   have i4 := (cellB hb5 (show g < bs + 1 by omega)).trans (HDK.out.cell hln)
   rw [HUL.out] at i4
   have i5 := (frozenB hb5 (show g < bs + 1 by omega)).trans (HDK.out.free l)
   have j0 := ((grown_cell' (i := 0) hg6 (show wr.heap.size < wx.heap.size by omega) (fun e => by have := hown0 _ e; omega)).trans (cellB hax (show wr.heap.size < wa.heap.size by omega))).trans e0
   have j1 := ((grown_cell' (i := 1) hg6 (show wr.heap.size < wx.heap.size by omega) (fun e => by have := hown0 _ e; omega)).trans (cellB hax (show wr.heap.size < wa.heap.size by omega))).trans e1
   have hz5 := hb5.size
   have hbs5 : w5.heap[bs]? = ws.heap[bs]? := (hb5.block bs (by omega)).trans HBB.out
   have HBS5 := Lib.hid hbs5
   have hbe5 : Below g ws w5 := hbe.trans (hb5.mono (by omega))
   clear hB5 hg5 hown hg6 hown6 hWX hbs5 hown0
   refine hK.out _ _ ⟨i3, i4, j0, j1⟩ (fun hHeld => ?_)
   clear hK K
   refine wpAnyT_take (i := 15) (v := ?_) rfl (by kernel_rfl) (fun _ _ _ h => h) (Or.inl ⟨by rfl, ?_⟩) (by assumption) ?_
   rotate_left
   ·(intro w hSw; (try dsimp only at hSw); go_simp <;> with_reducible rfl)
   try simp only [Act.put]
   refine wpAnyT_last (i := 16) rfl (by kernel_rfl) (by kernel_rfl) (fun K hK => ?_)
   go_simp
   refine hK.out _ _ ?_
   clear hK K
   refine wpAnyT_done (by kernel_rfl) ?_ _
   go_simp
   go_wp2_with fail
   go_roundw
   case rel => exact ⟨k + 1, _, by omega, by go_num, by rw [size_set]; exact HD5.out, hbe5.setCell (Nat.le_refl _) _, (Below.heap_setCell _ _ _ _ (by simp; omega)).trans HBS5.out, by rw [size_set]; omega⟩
   case measure => simp [intOf]; omega
  ·obtain rfl : k = ats.length := by omega
   have hzl : ats.length = Z.length := HZL.out.symm
   have HSV : Hid (Sv (fun k => ok0 k ∨ w.heap.size ≤ k) wr bs t n (duesL ats n)) := by
    refine ⟨by omega, .inr (by omega), v1, _, (World.cell?_of_block (a := ⟨bs, 0, none⟩) HBB.out).trans s0, (World.cell?_of_block (a := ⟨bs, 1, none⟩) HBB.out).trans s1, (World.cell?_of_block (a := ⟨bs, 2, none⟩) HBB.out).trans s2, (World.cell?_of_block (a := ⟨bs, 3, none⟩) HBB.out).trans s3, (HT.out.below hbw).mono (fun _ _ h => .inl h), ?_⟩
    have h1 := dues_of (ok := fun k => ok0 k ∨ w.heap.size ≤ k) HDK.out (by unfold capMax; omega) (fun v _ => by have := zL_len (Z := Z) (k := ats.length) (v := v); unfold capMax; omega) (fun v _ z hz => ((HZR.out z (zL_mem hz)).below hbw).mono (fun _ _ h => .inl h)) (.inr (by omega)) (fun q hq _ => .inr (by omega))
    have h2 : (fun v => (zL Z ats.length v).map (·.1)) = dueL ats := by
     funext v
     rw [hzl, zL_fst, HZ.out]
    rw [h2] at h1
    exact h1
   clear HZC
   go_wp2_with fail
   go_ret
   exact ⟨bs, rfl, HSV.out, hbw⟩
end Go.Proofs.YtnhdohednekhjaaGreatDoor
namespace Go.Proofs.YtnhdohednekhjaaGreatDoor
open Go.RowKit Go.Sort
theorem Ty.Fr.P {α : Type} {E : Ty α} {base : Nat} {w : World} {cs : List Value} {x : α} (h : E.Fr base w cs x) : E.RdP (fun k => base ≤ k) w cs x := let ⟨fp, h1, _, h3, _⟩ := h; ⟨fp, h1, h3⟩
theorem rd_prefix {w : World} {ad : Option Addr} {n c k : Nat} {xs : List Int} (h : intsT.Rd w [.slice ad n c] xs) (hk : k ≤ xs.length) : intsT.Rd w [.slice ad k c] (xs.take k) := by
 obtain ⟨fp, ad', cap, hv, h1, h2, h3⟩ := h
 simp only [List.cons.injEq, Value.slice.injEq, and_true] at hv
 obtain ⟨rfl, rfl, rfl⟩ := hv
 have hl : (xs.take k).length = k := List.length_take_of_le hk
 rcases Nat.eq_zero_or_pos k with h0 | h0
 ·subst h0
  exact ⟨[], ad, c, by simp, by simp, by simp, .inl ⟨by simp, rfl⟩⟩
 ·rcases h3 with ⟨h3, _⟩ | ⟨h3, b, o, fps, rfl, hb, rfl, h4⟩
  ·omega
  ·refine ⟨_, some ⟨b, o, none⟩, c, by rw [hl], by rw [hl]; omega, by rw [hl]; unfold capMax at *; omega, .inr ⟨by rw [hl]; exact h0, b, o, fps, rfl, hb, rfl, fun i hi => ?_⟩⟩
   rw [hl] at hi
   obtain ⟨cs, h5, h6⟩ := h4 i (by omega)
   exact ⟨cs, by rw [List.getElem_take]; exact h5, h6⟩
/-- the beginnings go, as far as k of them -/
def preTo (sure : List Int → Bool) (b : List Int) (k : Nat) : Prop := ∀ j, j < k → sure (b.take (j + 1)) = true
theorem preTo_zero {sure : List Int → Bool} {b : List Int} : preTo sure b 0 := fun _ h => absurd h (Nat.not_lt_zero _)
theorem preTo_succ {sure : List Int → Bool} {b : List Int} {k : Nat} (h : preTo sure b k) (h' : sure (b.take (k + 1)) = true) : preTo sure b (k + 1) := fun j hj => by
 by_cases e : j = k
 ·subst e; exact h'
 ·exact h j (by omega)
/-- all lists of values that begin with some -/
noncomputable def witL (s : Nat) (sure : List Int → Bool) (n : Nat) (b : List Int) : List (List Int) := match tb (preTo sure b b.length) with
 | true => solsL s sure (n - b.length) b
 | false => []
theorem witL_no {s : Nat} {sure : List Int → Bool} {n : Nat} {b : List Int} {k : Nat} (hk : k < b.length) (h : sure (b.take (k + 1)) = false) : witL s sure n b = [] := by
 have : tb (preTo sure b b.length) = false := tb_false (fun hh => by have := hh k hk; rw [h] at this; cases this)
 simp only [witL, this]
theorem witL_yes {s : Nat} {sure : List Int → Bool} {n : Nat} {b : List Int} (h : preTo sure b b.length) : witL s sure n b = solsL s sure (n - b.length) b := by simp only [witL, tb_true h]
def headV (l : List (List Int)) : List Int := match l with
 | [] => []
 | x :: _ => x
def headB (l : List (List Int)) : Bool := match l with
 | [] => false
 | _ :: _ => true
/-- a box that keeps the last that was told -/
def lastI (bx : Nat) (told : List (List Int)) (O : List Nat) (w : World) : Prop :=
 O = [bx] ∧ bx < w.heap.size ∧ w.frozen? ⟨bx, 0, none⟩ = false ∧ ((told = [] ∧ w.cell? ⟨bx, 0, none⟩ = some (.slice none 0 0)) ∨ ∃ x u, told.getLast? = some x ∧ w.cell? ⟨bx, 0, none⟩ = some u ∧ intsT.Fr (bx + 1) w [u] x)
set_option maxHeartbeats 800000 in
theorem first1_yl (bx : Nat) : Yl Tryz.prog 187 #[.pointer (some ⟨bx, 0, none⟩)] (fun _ => false) (lastI bx) := by
 refine ⟨?_, ?_, ?_⟩
 ·rintro told O w w' ⟨rfl, h1, h2, h3⟩ hb
  refine ⟨rfl, Nat.lt_of_lt_of_le h1 hb.size, (frozenB hb h1).trans h2, ?_⟩
  rcases h3 with ⟨h3, h4⟩ | ⟨x, u, h3, h4, h5⟩
  ·exact .inl ⟨h3, (cellB hb h1).trans h4⟩
  ·exact .inr ⟨x, u, h3, (cellB hb h1).trans h4, h5.below hb⟩
 ·rintro told O w ⟨rfl, h1, -, -⟩ k hk
  obtain rfl : k = bx := by simpa using hk
  exact h1
 ·rintro told O w0 w u x ⟨rfl, h1, h2, h3⟩ hb hf hlx -
  obtain ⟨a, c, rfl⟩ := fr_slice hf
  have HF := Lib.hid hf
  have hz := hb.size
  have f0 := (frozenB hb h1).trans h2
  obtain ⟨u0, c0⟩ : ∃ u0, w.cell? ⟨bx, 0, none⟩ = some u0 := by
   rcases h3 with ⟨-, h4⟩ | ⟨x, u, -, h4, -⟩
   ·exact ⟨_, (cellB hb h1).trans h4⟩
   ·exact ⟨_, (cellB hb h1).trans h4⟩
  clear h3 hf h2
  show Calls Tryz.prog 187 #[.slice a x.length c, .pointer (some ⟨bx, 0, none⟩)] w _
  go_enter Tryz.func187, Tryz.ntmps187
  go_wp2_with fail
  go_ret
  refine ⟨rfl, [bx], ⟨rfl, by rw [size_set]; omega, (World.frozen?_setCell _ _ _ _).trans f0, .inr ⟨x, _, by simp, World.cell?_setCell_same _ _ _ c0, (HF.out.mono (by omega)).set (by simp)⟩⟩, TchF.setCell (List.mem_singleton.2 rfl) _ _ _, fun k hk => .inl hk⟩
set_option maxHeartbeats 3200000 in
set_option maxRecDepth 100000 in
theorem first_any (w : World) {t : Int × List (Int × List (List Int))} {n : Nat} {due : List (List (Int × List Int))} (hT : tplOk t) {s : Nat} (hs : t.1 = s) (hn : n ≤ 10) (hdl : due.length = n) (hD : dueOk t n due) {ok : Nat → Prop} {bs : Nat} (hS : Sv ok w bs t n due) {v : Value} {b : List Int} (hv : intsT.Rd w [v] b) (hl : b.length ≤ n) :
  Calls Tryz.prog 103 #[.pointer (some ⟨bs, 0, none⟩), v] w fun e w' => ∃ u, e = .returned (.tuple #[u, .bool (headB (witL s (goesB t due) n b))]) ∧ intsT.Fr w.heap.size w' [u] (headV (witL s (goesB t due) n b)) ∧ Below w.heap.size w w' := by
 have HT := Lib.hid hT
 have HD := Lib.hid hD
 have HS := Lib.hid hS
 have HV := Lib.hid hv
 obtain ⟨va, vc, rfl⟩ := rd_slice hv
 have hvc : b.length ≤ vc := by obtain ⟨_, _, he, h, _⟩ := ints_ex hv; simp at he; omega
 have hs4 := hT.1
 unfold sizeOk at hs4
 clear hT hD hS hv
 go_enter Tryz.func103, Tryz.ntmps103
 go_wp2_with fail
 go_loopw [11] (fun i wr => ∃ k : Nat, k ≤ b.length ∧ i = .int .i64 k ∧ preTo (goesB t due) b k ∧ Below w.heap.size w wr) (fun i _ => b.length - (intOf i).toNat)
 case atStart => exact ⟨0, Nat.zero_le _, rfl, preTo_zero, Below.refl _ _⟩
 case round =>
  obtain ⟨k, hk, rfl, hpre, hbe⟩ := hrel
  have HP := Lib.hid hpre
  clear hpre
  by_cases hkl : k < b.length
  ·have hk1 : k + 1 ≤ vc := by omega
   go_wp2_with fail
   refine (goes_any _ (HS.out.below hbe) (rd_prefix (HV.out.below hbe) (show k + 1 ≤ b.length by omega)) HT.out HD.out (by rw [take_len (show k + 1 ≤ b.length by omega)]; omega) (by rw [take_len (show k + 1 ≤ b.length by omega)]; omega)).mono ?_
   rintro e w1 ⟨rfl, hb1⟩
   have hbw1 := bthen hbe hb1
   cases hg : goesB t due (b.take (k + 1))
   ·have HW := Lib.hid (witL_no (s := s) (n := n) hkl hg)
    clear hg
    go_wp2_with fail
    go_ret2
    exact ⟨.slice none 0 0, by rw [HW.out]; rfl, by rw [HW.out]; exact fr_nil, hbw1⟩
   ·have HP1 := Lib.hid (preTo_succ HP.out hg)
    clear hg
    go_wp2_with fail
    go_roundw
    case rel => exact ⟨k + 1, by omega, by go_num, HP1.out, hbw1⟩
    case measure => simp [intOf]; omega
  ·obtain rfl : k = b.length := by omega
   have HW := Lib.hid (witL_yes (s := s) (n := n) HP.out)
   go_wp2_with fail
   generalize hWa : World.alloc wr _ = wa
   have hba : Below wr.heap.size wr wa := hWa ▸ bA
   have hsa : wr.heap.size + 1 ≤ wa.heap.size := by rw [← hWa]; simp
   have hI0 : lastI wr.heap.size [] [wr.heap.size] wa := ⟨rfl, by omega, by rw [← hWa]; simp, .inl ⟨rfl, by rw [← hWa]; simp⟩⟩
   have HI0 := Lib.hid hI0
   have hbwa := bthen hbe hba
   have hSa : Sv (fun q => q < wr.heap.size) wa bs t n due := ((HS.out.below hbe).mono (ok' := fun q => q < wr.heap.size) (fun q hq _ => hq)).below hba
   have HSA := Lib.hid hSa
   obtain ⟨fpv, hrv⟩ := HV.out.below hbe
   have HRV := Lib.hid hrv
   have hfl : ∀ q ∈ fpv, q < wr.heap.size := Ty.lt _ hrv
   have HFL := Lib.hid hfl
   have hsl := solsL_len (s := s) (sure := goesB t due) (m := n - b.length) (vals := b)
   have hpow : s ^ (n - b.length) ≤ 4 ^ 10 := Nat.le_trans (Nat.pow_le_pow_left (by omega) _) (Nat.pow_le_pow_right (by omega) (by omega))
   have HBD : Hid (([] : List (List Int)).length + (solsL s (goesB t due) (n - b.length) b).length ≤ 2000000) := by
    unfold Hid
    have : (4 : Nat) ^ 10 = 1048576 := by decide
    simp only [List.length_nil]
    omega
   clear hWa hI0 hSa hrv hfl hsl hpow
   refine (walk_any HT.out hs hn hdl HD.out 187 #[.pointer (some ⟨wr.heap.size, 0, none⟩)] (enters Tryz.func187 (by kernel_rfl) rfl) (fun _ => false) (lastI wr.heap.size) (first1_yl _) bs (fun q => q < wr.heap.size) (n - b.length) wa _ b fpv [] [wr.heap.size] (by omega) HSA.out (fun q hq => ⟨by omega, fun hm => by simp at hm; omega⟩) (HRV.out.below hba) (fun q hq hm => by have := HFL.out q hq; simp at hm; omega) HI0.out HBD.out).mono ?_
   rintro e w2 ⟨rfl, O', hI, ht, hO⟩
   have hbw2 : Below w.heap.size w w2 := hbwa.trans (ht.below hbwa.size (fun q hq => by simp at hq; have := hbe.size; omega))
   have hse := hbe.size
   clear ht hO HI0 HSA HRV HFL HBD
   generalize solsL s (goesB t due) (n - b.length) b = L at hI HW ⊢
   rcases L with _ | ⟨x, r⟩
   ·obtain ⟨rfl, h1, h2, h3⟩ := hI
    have c0 : w2.cell? ⟨wr.heap.size, 0, none⟩ = some (.slice none 0 0) := by
     rcases h3 with ⟨-, h3⟩ | ⟨x, u, h3, -, -⟩
     ·exact h3
     ·simp [tellL] at h3
    clear h3
    rw [tellL_nil]
    go_wp2_with fail
    go_ret2
    exact ⟨.slice none 0 0, by rw [HW.out]; rfl, by rw [HW.out]; exact fr_nil, hbw2⟩
   ·rw [tellL_first] at hI ⊢
    obtain ⟨rfl, h1, h2, h3⟩ := hI
    obtain ⟨u, c0, hf⟩ : ∃ u, w2.cell? ⟨wr.heap.size, 0, none⟩ = some u ∧ intsT.Fr (wr.heap.size + 1) w2 [u] x := by
     rcases h3 with ⟨h3, -⟩ | ⟨y, u, h3, h4, h5⟩
     ·simp at h3
     ·obtain rfl : x = y := by simpa using h3
      exact ⟨u, h4, h5⟩
    obtain ⟨ua, uc, rfl⟩ := fr_slice hf
    have HF := Lib.hid hf
    clear h3 hf
    go_wp2_with fail
    go_ret2
    exact ⟨.slice ua x.length uc, by rw [HW.out]; rfl, by rw [HW.out]; exact HF.out.mono (by omega), hbw2⟩
end Go.Proofs.YtnhdohednekhjaaGreatDoor
namespace Go.Proofs.YtnhdohednekhjaaGreatDoor
open Go.RowKit Go.Sort
section
variable {t : Int × List (Int × List (List Int))} {x : Int × List (Int × List Int)}
end
end Go.Proofs.YtnhdohednekhjaaGreatDoor
namespace Go.Proofs.YtnhdohednekhjaaGreatDoor
open Go.RowKit Go.Sort
section
variable {t : Int × List (Int × List (List Int))} {x : Int × List (Int × List Int)}
end
end Go.Proofs.YtnhdohednekhjaaGreatDoor
namespace Go.Proofs.YtnhdohednekhjaaGreatDoor
open Go.RowKit Go.Sort
/-- an atom that is due at k and does not hold -/
noncomputable def badB (t : Int × List (Int × List (List Int))) (k : Nat) (vals : List Int) (a : Int × List Int) : Bool := (topI a.2 == (k : Int)) && !holdsA t vals a
theorem goes_bad {t : Int × List (Int × List (List Int))} {n k : Nat} {ats : List (Int × List Int)} {vals : List Int} (h : vals.length = k + 1) (hk : k < n) : goesB t (duesL ats n) vals = !anyB (badB t k vals) ats := by
 rw [goesB_at h (by rw [duesL_len]; exact hk), duesL_get]
 unfold anyB dueL badB
 rw [List.any_filter]
theorem bad_no {t : Int × List (Int × List (List Int))} {k : Nat} {vals : List Int} {a : Int × List Int} (h : (topI a.2 == (k : Int)) = false) : badB t k vals a = false := by simp only [badB, h, Bool.false_and]
theorem bad_hold {t : Int × List (Int × List (List Int))} {k : Nat} {vals : List Int} {a : Int × List Int} (h : (topI a.2 == (k : Int)) = true) : badB t k vals a = !holdsA t vals a := by simp only [badB, h, Bool.true_and]
theorem anyB_none {α : Type} {p : α → Bool} {xs : List α} (h : noneB p xs) : anyB p xs = false := by
 unfold anyB
 rw [List.any_eq_false]
 intro x hx
 simp [h x hx]
theorem anyB_some {α : Type} {p : α → Bool} {xs : List α} {k : Nat} (h : k < xs.length) (hp : p xs[k] = true) : anyB p xs = true := by
 unfold anyB
 rw [List.any_eq_true]
 exact ⟨_, List.getElem_mem h, hp⟩
/-- a pointer to a datum in blocks below B -/
def Ty.PtB {α : Type} (E : Ty α) (B : Nat) (w : World) (v : Value) (x : α) : Prop := ∃ b o cs, v = .pointer (some ⟨b, o, none⟩) ∧ b < B ∧ b < w.heap.size ∧ E.RdB B w cs x ∧ ∀ j (hj : j < cs.length), w.cell? ⟨b, o + j, none⟩ = some cs[j]
theorem Ty.PtB.below {α : Type} {E : Ty α} {B : Nat} {w w' : World} {v : Value} {x : α} (h : E.PtB B w v x) (hb : Below B w w') : E.PtB B w' v x :=
 let ⟨b, o, cs, h1, h2, h3, h4, h5⟩ := h
 ⟨b, o, cs, h1, h2, Nat.lt_of_lt_of_le h3 hb.size, h4.below hb (Nat.le_refl _), fun j hj => (cellB hb h2).trans (h5 j hj)⟩
theorem Ty.Pt.B {α : Type} {E : Ty α} {w : World} {v : Value} {x : α} (h : E.Pt w v x) : E.PtB w.heap.size w v x := let ⟨b, o, cs, h1, h2, h3, h4⟩ := h; ⟨b, o, cs, h1, h2, h2, h3.B, h4⟩
/-- a search in progress, at block bf: what it was told so far -/
def Fnd (e bf most : Nat) (vt vx : Value) (told : List (List Int)) (O : List Nat) (w : World) : Prop :=
 ∃ v, O = bf :: v.ownBlock.toList ∧ bf < w.heap.size ∧ w.cell? ⟨bf, 0, none⟩ = some vt ∧ w.cell? ⟨bf, 1, none⟩ = some vx ∧ w.cell? ⟨bf, 2, none⟩ = some (.int .i64 most) ∧ w.cell? ⟨bf, 3, none⟩ = some v ∧ w.cell? ⟨bf, 4, none⟩ = some (.int .i64 told.length) ∧
  w.frozen? ⟨bf, 3, none⟩ = false ∧ w.frozen? ⟨bf, 4, none⟩ = false ∧ Bl intsT e (bf + 1) w.heap.size w v (told.take most)
theorem Fnd.below {e bf most : Nat} {vt vx : Value} {told : List (List Int)} {O : List Nat} {w w' : World} (h : Fnd e bf most vt vx told O w) (hb : Below w.heap.size w w') : Fnd e bf most vt vx told O w' := by
 obtain ⟨v, h0, h1, c0, c1, c2, c3, c4, m3, m4, hB⟩ := h
 exact ⟨v, h0, Nat.lt_of_lt_of_le h1 hb.size, (cellB hb h1).trans c0, (cellB hb h1).trans c1, (cellB hb h1).trans c2, (cellB hb h1).trans c3, (cellB hb h1).trans c4, (frozenB hb h1).trans m3, (frozenB hb h1).trans m4, (hB.below hb (Nat.le_refl _)).mono hb.size⟩
theorem Fnd.ge {e bf most : Nat} {vt vx : Value} {told : List (List Int)} {O : List Nat} {w : World} (h : Fnd e bf most vt vx told O w) : ∀ k ∈ O, bf ≤ k := by
 obtain ⟨v, rfl, h1, c0, c1, c2, c3, c4, m3, m4, hB⟩ := h
 intro k hk
 rcases List.mem_cons.1 hk with rfl | hk
 ·exact Nat.le_refl _
 ·have := hB.ge (show v.ownBlock = some k by simpa using hk)
  omega
theorem Fnd.lt {e bf most : Nat} {vt vx : Value} {told : List (List Int)} {O : List Nat} {w : World} (h : Fnd e bf most vt vx told O w) : ∀ k ∈ O, k < w.heap.size := by
 obtain ⟨v, rfl, h1, c0, c1, c2, c3, c4, m3, m4, hB⟩ := h
 intro k hk
 rcases List.mem_cons.1 hk with rfl | hk
 ·exact h1
 ·exact hB.lt_top (show v.ownBlock = some k by simpa using hk)
end Go.Proofs.YtnhdohednekhjaaGreatDoor
namespace Go.Proofs.YtnhdohednekhjaaGreatDoor
open Go.RowKit Go.Sort
set_option maxHeartbeats 1600000 in
set_option maxRecDepth 100000 in
theorem l03Atom_any (w : World) {vt va v : Value} {t : Int × List (Int × List (List Int))} {a : Int × List Int} {vals : List Int} (ht : tplT.Pt w vt t) (ha : opT.Pt w va a) (hv : intsT.Rd w [v] vals)
  (hT : tplOk t) {vars : Int} (hA : atomOk t vars a) (hin : ∀ p ∈ a.2, 0 ≤ p ∧ p < (vals.length : Int)) :
  Calls Tryz.prog 226 #[vt, va, v] w fun e w' => e = .returned (.bool (holdsA t vals a)) ∧ Below w.heap.size w w' := by
 obtain ⟨h1, h4, h5, h6⟩ := atom_len hT hA
 obtain ⟨bt, ot, at0, ct, rfl, hbt, -, -, t1, htx⟩ := pt_pair ht
 obtain ⟨ba, oa, aa, ca, rfl, hba, -, a0, a1, hax⟩ := pt_pair ha
 have HT := Lib.hid htx
 have HX := Lib.hid hax
 have HV := Lib.hid hv
 have HIN := Lib.hid hin
 have HTO := Lib.hid hT
 clear ht ha htx hax hv hin hT hA
 go_enter Tryz.func226, Tryz.ntmps226
 go_wp2_with fail
 refine (l01At_any _ HV.out HX.out HIN.out (by omega)).mono ?_
 rintro e w1 ⟨u, rfl, hf, hb1⟩
 obtain ⟨ua, uc, rfl⟩ := fr_slice hf
 have HF := Lib.hid hf.rd
 replace t1 := (cellB hb1 (by omega)).trans t1
 replace a0 := (cellB hb1 (by omega)).trans a0
 replace a1 := (cellB hb1 (by omega)).trans a1
 have hz1 := hb1.size
 clear hf
 cases hq : (a.1 == -1)
 ·have hne : a.1 ≠ -1 := by simpa using hq
  obtain ⟨h7, h8⟩ := h6 hne
  obtain ⟨k, hk⟩ : ∃ k : Nat, a.1 = k := ⟨a.1.toNat, by omega⟩
  have hkl : k < t.2.length := by omega
  obtain ⟨ra, ro, rfl, hp⟩ := rd_elem HT.out hkl
  have hp' : relT.Pt w (.pointer (some ⟨ra, ro + k * 2, none⟩)) t.2[k] := hp
  have HE : Hid (tb (atL vals a.2 ∈ (t.2[k]).2) = holdsA t vals a) := by
   unfold Hid
   rw [holdsA_rel hq]
   unfold holdsC
   rw [hk, relAt_nat hkl]
  have cL : ∀ n, Calls Tryz.prog 104 #[.pointer (some ⟨ra, ro + k * 2, none⟩), .slice ua (atL vals a.2).length uc] (w1.drewN n) fun e w'' => e = .returned (.bool (tb (atL vals a.2 ∈ (t.2[k]).2))) ∧ ∃ m, w'' = w1.drewN m := fun n => quiet_call (l01Has_quiet _ ((hp'.below hb1).below (Quiet.drewN w1 n).below) (HF.out.below (Quiet.drewN w1 n).below))
  rw [hk] at a0 hq
  clear hp hp' hk hne h5 h6
  go_wp2_with fail
  go_quiet (exact cL _)
  go_wp2_with fail
  go_ret
  exact ⟨ret_bool HE.out, bthen hb1 (Quiet.drewN _ _).below⟩
 ·have he : a.1 = -1 := by simpa using hq
  have h7 := h5 he
  obtain ⟨_, _, e1, -, -, hce⟩ := ints_ex HF.out
  simp only [List.cons.injEq, Value.slice.injEq, and_true, true_and] at e1
  obtain ⟨rfl, rfl⟩ := e1
  have hal : (atL vals a.2).length = 2 := by rw [atL_len]; exact h7
  obtain ⟨b, o, rfl, hb, hcc⟩ := hce (by omega)
  have i0 := (hcc 0 (by omega)).2
  have i1 := (hcc 1 (by omega)).2
  rw [Nat.add_zero] at i0
  have HE : Hid (((atL vals a.2)[0]'(by omega) == (atL vals a.2)[1]'(by omega)) = holdsA t vals a) := by
   unfold Hid
   rw [holdsA_eq hq]
   simp [List.getD_eq_getElem?_getD, hal]
  clear hcc hce h5 h6 he
  rw [hal]
  go_wp2_with fail
  go_quiet (fail)
  go_wp2_with fail
  go_ret
  exact ⟨ret_bool HE.out, bthen hb1 (Quiet.drewN _ _).below⟩
set_option maxHeartbeats 3200000 in
set_option maxRecDepth 100000 in
theorem l03Sure_any (w : World) {vt vf v : Value} {t : Int × List (Int × List (List Int))} {f : Int × Int × List (Int × List Int)} {vals : List Int} (ht : tplT.Pt w vt t) (hf : frmT.Pt w vf f) (hvr : intsT.Rd w [v] vals) (hok : frmOk t f) {k : Nat} (hl : vals.length = k + 1) (hk : (k : Int) < f.2.1) :
  Calls Tryz.prog 181 #[vt, vf, v] w fun e w' => e = .returned (.bool (goesB t (duesL f.2.2 f.2.1.toNat) vals)) ∧ Below w.heap.size w w' := by
 obtain ⟨b, o, ad, cap, rfl, hb, -, -, -, -, c2, hx⟩ := pt_trip hf
 obtain ⟨b2, o2, _, _, rfl, hb2, -, -, -, -⟩ := pt_pair ht
 obtain ⟨av, capv, rfl⟩ := rd_slice hvr
 obtain ⟨_, _, e1, hle', hle2', hcell⟩ := pairs_ex hx
 simp only [List.cons.injEq, Value.slice.injEq, and_true, true_and] at e1
 obtain ⟨rfl, rfl⟩ := e1
 have HOK := Lib.hid hok
 have HL := Lib.hid hl
 have HTP := Lib.hid ht
 have HV := Lib.hid hvr
 have HX := Lib.hid hx
 have hk10 : k ≤ 10 := by have := hok.2.1.2.1.2; omega
 have HG := Lib.hid (goes_bad (t := t) (ats := f.2.2) (n := f.2.1.toNat) hl (by omega))
 rw [hl]
 clear hf hok hl ht hvr hcell hx
 go_enter Tryz.func181, Tryz.ntmps181
 go_wp2_with fail
 go_loopw [8] (fun i wr => ∃ q : Nat, q ≤ f.2.2.length ∧ i = .int .i64 q ∧ noneB (badB t k vals) (f.2.2.take q) ∧ Below w.heap.size w wr) (fun i _ => f.2.2.length - (intOf i).toNat)
 case atStart => exact ⟨0, Nat.zero_le _, rfl, noneB_zero _ _, Below.refl _ _⟩
 case round =>
  obtain ⟨q, hq, rfl, hne, hbel⟩ := hrel
  have HN := Lib.hid hne
  have d1 := (hbel.cell hb).trans c2
  clear hne
  by_cases hql : q < f.2.2.length
  ·obtain ⟨a, r, rfl, hp⟩ := rd_elem HX.out hql
   have hp' : opT.Pt w (.pointer (some ⟨a, r + q * 2, none⟩)) f.2.2[q] := hp
   have HP2 := Lib.hid (hp'.below hbel)
   obtain ⟨_, _, sa, sc, hpe, hpb, -, p0, p1, hps⟩ := pt_pair (hp'.below hbel)
   simp only [Value.pointer.injEq, Option.some.injEq, Addr.mk.injEq, and_true] at hpe
   obtain ⟨rfl, rfl⟩ := hpe
   have hatom := HOK.out.2.2 _ (List.getElem_mem hql)
   have hsh := (atom_len HOK.out.1 hatom).2.1
   have HC := Lib.hid hatom
   obtain ⟨_, _, he, -, -, hsce⟩ := ints_ex hps
   simp only [List.cons.injEq, Value.slice.injEq, and_true, true_and] at he
   obtain ⟨rfl, rfl⟩ := he
   have HSC := Lib.hid hsce
   have HPS := Lib.hid hps
   clear hp hp' hatom hps hsce
   go_wp2_with fail
   obtain ⟨wo, rfl⟩ : ∃ wo : World, wo = wr := ⟨_, rfl⟩
   go_loopw [10, 9] (fun i m wi => ∃ j : Nat, j ≤ (f.2.2[q]).2.length ∧ i = .int .i64 j ∧ m = .int .i64 (topI ((f.2.2[q]).2.take j)) ∧ wi = wo) (fun i _ _ => (f.2.2[q]).2.length - (intOf i).toNat)
   case atStart => exact ⟨0, Nat.zero_le _, rfl, by simp [topI], by first | trivial | rfl⟩
   case round =>
    obtain ⟨j, hj, rfl, rfl, rfl⟩ := hrel
    by_cases hjl : j < (f.2.2[q]).2.length
    ·obtain ⟨sb, so, rfl, hsb, hse⟩ := HSC.out (by omega)
     have s0 := (hse j hjl).2
     have HTK := Lib.hid (topI_take hjl)
     clear hse
     go_wp2_with fail
     refine (l00Max_any _ _ _).mono ?_
     rintro e _ ⟨rfl, rfl⟩
     go_wp2_with fail
     go_roundw
     case rel => exact ⟨j + 1, by omega, by go_num, by rw [HTK.out], by first | trivial | rfl⟩
     case measure => simp [intOf]; omega
    ·obtain rfl : j = (f.2.2[q]).2.length := by omega
     rw [List.take_length]
     cases htop : (topI (f.2.2[q]).2 == (k : Int))
     ·have HN1 := Lib.hid (noneB_succ hql HN.out (bad_no (t := t) (vals := vals) htop))
      go_wp2_with fail
      go_roundw
      case rel => exact ⟨q + 1, by omega, by go_num, HN1.out, hbel⟩
      case measure => simp [intOf]; omega
     ·have HBH := Lib.hid (bad_hold (t := t) (vals := vals) htop)
      have htk : topI (f.2.2[q]).2 = (k : Int) := by simpa using htop
      have HIN : Hid (∀ p ∈ (f.2.2[q]).2, 0 ≤ p ∧ p < (vals.length : Int)) := fun p hp => by
       have h1 := topI_ge hp
       have h2 := HC.out.2.2 p hp
       have := HL.out
       omega
      clear htk
      go_wp2_with fail
      refine (l03Atom_any _ (HTP.out.below hbel) HP2.out (by have := HV.out.below hbel; rw [HL.out] at this; exact this) HOK.out.1 HC.out HIN.out).mono ?_
      rintro e w1 ⟨rfl, hb1⟩
      have hbw1 := bthen hbel hb1
      cases hh : holdsA t vals f.2.2[q]
      ·have HE : Hid (goesB t (duesL f.2.2 f.2.1.toNat) vals = false) := by
        unfold Hid
        rw [HG.out, anyB_some hql (by rw [HBH.out, hh]; rfl)]
        rfl
       clear hh
       go_wp2_with fail
       go_ret
       exact ⟨ret_bool HE.out.symm, hbw1⟩
      ·have HN1 := Lib.hid (noneB_succ hql HN.out (by rw [HBH.out, hh]; rfl))
       clear hh
       go_wp2_with fail
       go_roundw
       case rel => exact ⟨q + 1, by omega, by go_num, HN1.out, hbw1⟩
       case measure => simp [intOf]; omega
  ·obtain rfl : q = f.2.2.length := by omega
   have HE : Hid (goesB t (duesL f.2.2 f.2.1.toNat) vals = true) := by
    unfold Hid
    rw [HG.out, anyB_none (by have := HN.out; rwa [List.take_length] at this)]
    rfl
   go_wp2_with fail
   go_ret
   exact ⟨ret_bool HE.out.symm, hbel⟩
theorem head_app {a b : List (List Int)} (h : headB a = true) : headV (a ++ b) = headV a ∧ headB (a ++ b) = true := by
 cases a with
 | nil => cases h
 | cons x r => exact ⟨rfl, rfl⟩
theorem head_no {a : List (List Int)} (h : headB a = false) : a = [] := by
 cases a with
 | nil => rfl
 | cons x r => cases h
set_option maxHeartbeats 6400000 in
set_option maxRecDepth 100000 in
theorem l03Search_any {t : Int × List (Int × List (List Int))} {f : Int × Int × List (Int × List Int)} (hok : frmOk t f) {n s : Nat} (hn : f.2.1 = n) (hs : t.1 = s) (B : Nat) (vt vf : Value) :
  ∀ (m : Nat) (w : World) (v : Value) (vals : List Int), vals.length + m = n → B ≤ w.heap.size → tplT.Pt w vt t → frmT.Pt w vf f → intsT.Fr B w [v] vals →
   Calls Tryz.prog 182 #[vt, vf, v] w fun e w' => ∃ u, e = .returned (.tuple #[u, .bool (headB (solsL s (goesB t (duesL f.2.2 n)) m vals))]) ∧ intsT.Fr B w' [u] (headV (solsL s (goesB t (duesL f.2.2 n)) m vals)) ∧ Below w.heap.size w w' := by
 have HOK := Lib.hid hok
 have hs4 := hok.1.1
 unfold sizeOk at hs4
 have hn1 := hok.2.1
 have hs41 : 1 ≤ s ∧ s ≤ 4 := by omega
 have hn10 : 1 ≤ n ∧ n ≤ 10 := by unfold frameOk at hn1; omega
 have HN := Lib.hid hn
 have HS := Lib.hid hs
 clear hok hs4 hn1 hn hs
 intro m
 induction m with
 | zero =>
  intro w v vals hlen hB ht hf hv
  obtain ⟨bf, of, _, _, rfl, hbf, -, -, -, f1, -, -⟩ := pt_trip hf
  obtain ⟨va, vc, rfl⟩ := fr_slice hv
  have HV := Lib.hid hv
  have hl : vals.length = n := by omega
  have hnw : ((n : Int) == (n : Int)) = true := by simp
  rw [HN.out] at f1
  rw [solsL_zero]
  clear hv
  rw [hl] at HV ⊢
  go_enter Tryz.func182, Tryz.ntmps182
  go_wp2_with fail
  go_ret2
  exact ⟨.slice va n vc, rfl, HV.out, Below.refl _ _⟩
 | succ m ih =>
  intro w v vals hlen hB ht hf hv
  have HTP := Lib.hid ht
  have HFP := Lib.hid hf
  obtain ⟨bf, of, _, _, rfl, hbf, -, -, -, f1, -, -⟩ := pt_trip hf
  obtain ⟨bt, ot, _, _, rfl, hbt, -, t0, -, -⟩ := pt_pair ht
  obtain ⟨va, vc, rfl⟩ := fr_slice hv
  have HV := Lib.hid hv.rd
  have HIH := Lib.hid ih
  have hl : vals.length < n := by omega
  have hne : ((vals.length : Int) == (n : Int)) = false := by simp; omega
  rw [HN.out] at f1
  rw [HS.out] at t0
  rw [solsL_succ]
  clear ht hf hv ih
  go_enter Tryz.func182, Tryz.ntmps182
  go_wp2_with fail
  go_loopw [8] (fun i wr => ∃ k : Nat, k ≤ s ∧ i = .int .i64 k ∧ solsTo s (goesB t (duesL f.2.2 n)) m vals k = [] ∧ Below w.heap.size w wr) (fun i _ => s - (intOf i).toNat)
  case atStart => exact ⟨0, Nat.zero_le _, rfl, solsTo_zero, Below.refl _ _⟩
  case round =>
   obtain ⟨k, hk, rfl, hnil, hbe⟩ := hrel
   have HNIL := Lib.hid hnil
   have hz := hbe.size
   have y0 := (cellB hbe hbt).trans t0
   clear hnil
   by_cases hkl : k < s
   ·go_wp2_with fail
    refine (l00Own_any _ (HV.out.below hbe) (by omega)).mono ?_
    rintro e w2 ⟨u2, rfl, hB2, hb2⟩
    obtain ⟨a2, n2, c2, rfl⟩ := ex_slice (hB2.fr (by unfold capMax; omega))
    have HB2 := Lib.hid hB2
    have hz2 := hb2.size
    replace y0 := (cellB hb2 (by omega)).trans y0
    clear hB2
    go_wp2_with (refine wpList_push (E := Ty.int) _ rfl _ _ 48 2 rfl elInt rfl (HB2.out.below bA (Nat.le_refl _)) rfl news1 (fr_int (I64.small (by omega) (by omega))) (by omega) (by decide) hz2 (by simp) ?_; intro v5 w5 hB5 hg5 _; have hb5 : Below wr.heap.size w2 w5 := ((bA (w := w2)).mono hz2).grown hg5 (by simp; omega) (fun q hq => HB2.out.own hq); obtain ⟨a5, n5, c5, rfl⟩ := ex_slice (hB5.fr (by rw [List.length_append]; unfold capMax; simp only [List.length_singleton]; omega)))
    have hf5 := hB5.fr (by rw [List.length_append]; unfold capMax; simp only [List.length_singleton]; omega)
    have HF5 := Lib.hid hf5
    have hbr5 : Below wr.heap.size wr w5 := hb2.trans hb5
    have hbw5 := bthen hbe hbr5
    have hz5 := hbr5.size
    replace y0 := (cellB hb5 (by omega)).trans y0
    clear hB5 hg5 hf5
    have hNN := HN.out
    refine (l03Sure_any w5 (HTP.out.below hbw5) (HFP.out.below hbw5) HF5.out.rd HOK.out (k := vals.length) (by simp) (by omega)).mono ?_
    rintro e w6 ⟨rfl, hb6⟩
    rw [show f.2.1.toNat = n by omega]
    have hbw6 := bthen hbw5 hb6
    have hz6 := hbw6.size
    replace y0 := (cellB hb6 (by omega)).trans y0
    clear hNN
    cases hg : goesB t (duesL f.2.2 n) (vals ++ [(k : Int)])
    ·have HNO : Hid (solsTo s (goesB t (duesL f.2.2 n)) m vals (k + 1) = []) := by unfold Hid; rw [solsTo_no hg]; exact HNIL.out
     clear hg
     go_wp2_with fail
     go_roundw
     case rel => exact ⟨k + 1, by omega, by go_num, HNO.out, hbw6⟩
     case measure => simp [intOf]; omega
    ·have HYES := Lib.hid (solsTo_yes (s := s) (m := m) hg)
     clear hg
     go_wp2_with fail
     refine (HIH.out w6 (.slice a5 n5 c5) (vals ++ [(k : Int)]) (by rw [List.length_append, List.length_singleton]; omega) (by omega) (HTP.out.below hbw6) (HFP.out.below hbw6) ((HF5.out.below hb6).mono (by omega))).mono ?_
     rintro e w7 ⟨u7, rfl, hf7, hb7⟩
     obtain ⟨a7, n7, c7, rfl⟩ := ex_slice hf7
     have hbw7 := bthen hbw6 hb7
     cases hh : headB (solsL s (goesB t (duesL f.2.2 n)) m (vals ++ [(k : Int)]))
     ·have HNO : Hid (solsTo s (goesB t (duesL f.2.2 n)) m vals (k + 1) = []) := by unfold Hid; rw [HYES.out, HNIL.out, head_no hh]; rfl
      clear hh hf7 y0
      go_wp2_with fail
      go_roundw
      case rel => exact ⟨k + 1, by omega, by go_num, HNO.out, hbw7⟩
      case measure => simp [intOf]; omega
     ·have HRES : Hid (headV (solsTo s (goesB t (duesL f.2.2 n)) m vals s) = headV (solsL s (goesB t (duesL f.2.2 n)) m (vals ++ [(k : Int)])) ∧ headB (solsTo s (goesB t (duesL f.2.2 n)) m vals s) = true) := by
       unfold Hid
       obtain ⟨r, hr⟩ := solsTo_append (s := s) (m := m) (sure := goesB t (duesL f.2.2 n)) (vals := vals) (k := k + 1) (j := s) (by omega)
       rw [hr, HYES.out, HNIL.out, List.nil_append]
       exact head_app hh
      have HF7 := Lib.hid hf7
      clear hh hf7 y0
      go_wp2_with fail
      go_ret2
      exact ⟨.slice a7 n7 c7, by rw [HRES.out.2]; rfl, by rw [HRES.out.1]; exact HF7.out, hbw7⟩
   ·obtain rfl : k = s := by omega
    go_wp2_with fail
    go_ret2
    exact ⟨.slice (some ⟨wr.heap.size, 0, none⟩) 0 0, by rw [HNIL.out]; rfl, by rw [HNIL.out]; exact fr_nil, hbe.alloc hbe.size _⟩
end Go.Proofs.YtnhdohednekhjaaGreatDoor
