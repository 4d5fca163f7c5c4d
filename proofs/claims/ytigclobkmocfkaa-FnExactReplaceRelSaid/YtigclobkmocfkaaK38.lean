/-
  Contracts: a relation of a formula replaced by a formula: plain parts; the program's.
-/
import Derived.Test.YtigclobkmocfkaaK37
namespace Go.Proofs.Ytigclobkmocfkaa
open Go.RowKit Go.Sort
/-- where a variable of the formula that is put in goes: its free ones to the atom's, the others behind -/
def putTo (args : List Int) (free behind v : Int) : Int := match decide (v < free) with
  | true => args.getD v.toNat 0
  | false => v + behind
theorem put_lt {args : List Int} {free behind v : Int} (h : v < free) : putTo args free behind v = args.getD v.toNat 0 := by simp [putTo, h]
theorem put_ge {args : List Int} {free behind v : Int} (h : free ≤ v) : putTo args free behind v = v + behind := by
  have : ¬ v < free := by omega
  simp [putTo, this]
/-- one atom replaced: the number of variables, the atoms -/
def repStep (rel : Int) (g : Int × Int × List (Int × List Int)) (s : Int × List (Int × List Int)) (a : Int × List Int) : Int × List (Int × List Int) :=
  if a.1 = rel then (s.1 + (g.2.1 - g.1), s.2 ++ rnL (putTo a.2 g.1 (s.1 - g.1)) g.2.2) else (s.1, s.2 ++ [a])
def repAll (f : Int × Int × List (Int × List Int)) (rel : Int) (g : Int × Int × List (Int × List Int)) (k : Nat) : Int × List (Int × List Int) := (f.2.2.take k).foldl (repStep rel g) (f.2.1, [])
theorem rep_zero {f g : Int × Int × List (Int × List Int)} {rel : Int} : repAll f rel g 0 = (f.2.1, []) := by simp [repAll]
theorem rep_succ {f g : Int × Int × List (Int × List Int)} {rel : Int} {k : Nat} (h : k < f.2.2.length) : repAll f rel g (k + 1) = repStep rel g (repAll f rel g k) f.2.2[k] := by
  unfold repAll
  rw [List.take_succ_eq_append_getElem h, List.foldl_append]
  rfl
theorem rep_no {g : Int × Int × List (Int × List Int)} {rel : Int} {s : Int × List (Int × List Int)} {a : Int × List Int} (h : a.1 ≠ rel) : repStep rel g s a = (s.1, s.2 ++ [a]) := if_neg h
theorem rep_yes {g : Int × Int × List (Int × List Int)} {rel : Int} {s : Int × List (Int × List Int)} {a : Int × List Int} (h : a.1 = rel) : repStep rel g s a = (s.1 + (g.2.1 - g.1), s.2 ++ rnL (putTo a.2 g.1 (s.1 - g.1)) g.2.2) := if_pos h
def repF (f : Int × Int × List (Int × List Int)) (rel : Int) (g : Int × Int × List (Int × List Int)) : Int × Int × List (Int × List Int) := (f.1, repAll f rel g f.2.2.length)
section
variable (t : Int × List (Int × List (List Int))) (f : Int × Int × List (Int × List Int)) (rel : Int) (g : Int × Int × List (Int × List Int))
noncomputable def repOk : Bool := tb (frmOk t f) && tb (frmOk t g)
noncomputable def repC0 : Int := match repOk t f g, inB rel 0 ((t.2.length : Int) - 1), (g.1 != arOf t rel) with
  | false, _, _ => 1
  | true, false, _ => 2
  | true, true, true => 4
  | true, true, false => 0
noncomputable def repV : Int × Int × List (Int × List Int) := if repC0 t f rel g = 0 then limV (repF f rel g) else frm0
noncomputable def repC : Int := if repC0 t f rel g = 0 then limC (repF f rel g) else repC0 t f rel g
end
section
variable {t : Int × List (Int × List (List Int))} {f : Int × Int × List (Int × List Int)} {rel : Int} {g : Int × Int × List (Int × List Int)}
theorem repC_1 (h : repOk t f g = false) : repC0 t f rel g = 1 := by simp only [repC0, h]
theorem repC_2 (h : repOk t f g = true) (h2 : inB rel 0 ((t.2.length : Int) - 1) = false) : repC0 t f rel g = 2 := by simp only [repC0, h, h2]
theorem repC_4 (h : repOk t f g = true) (h2 : inB rel 0 ((t.2.length : Int) - 1) = true) (h3 : (g.1 != arOf t rel) = true) : repC0 t f rel g = 4 := by simp only [repC0, h, h2, h3]
theorem repC_0 (h : repOk t f g = true) (h2 : inB rel 0 ((t.2.length : Int) - 1) = true) (h3 : (g.1 != arOf t rel) = false) : repC0 t f rel g = 0 := by simp only [repC0, h, h2, h3]
theorem repV_no (h : repC0 t f rel g ≠ 0) : repV t f rel g = frm0 ∧ repC t f rel g = repC0 t f rel g := by simp [repV, repC, h]
theorem repV_yes (h : repC0 t f rel g = 0) : repV t f rel g = limV (repF f rel g) ∧ repC t f rel g = limC (repF f rel g) := by simp [repV, repC, h]
/-- bounds as the loop goes on -/
theorem rep_bd (hf : tb (frmOk t f) = true) (hg : tb (frmOk t g) = true) : ∀ k, k ≤ f.2.2.length → f.2.1 ≤ (repAll f rel g k).1 ∧ (repAll f rel g k).1 ≤ 8 + 8 * k ∧ (repAll f rel g k).2.length ≤ 16 * k ∧ cntOps (repAll f rel g k).2 ≤ 80 * k
  | 0, _ => by rw [rep_zero]; obtain ⟨a1, a2, a3, a4, a5⟩ := frm_bd hf; simp [cntOps, sumL]; omega
  | k + 1, h => by
    have hk : k < f.2.2.length := by omega
    obtain ⟨b1, b2, b3, b4⟩ := rep_bd hf hg k (by omega)
    obtain ⟨a1, a2, a3, a4, a5⟩ := frm_bd hf
    obtain ⟨c1, c2, c3, c4, c5⟩ := frm_bd hg
    have e5 := a5 _ (List.getElem_mem hk)
    rw [rep_succ hk]
    by_cases he : (f.2.2[k]).1 = rel
    · rw [rep_yes he]
      have := cntOps_bd (xs := g.2.2) fun a ha => (c5 a ha).2
      have hrl : (rnL (putTo (f.2.2[k]).2 g.1 ((repAll f rel g k).1 - g.1)) g.2.2).length = g.2.2.length := rnL_len
      refine ⟨by show _ ≤ _ + (g.2.1 - g.1); omega, by show _ + (g.2.1 - g.1) ≤ _; omega, ?_, ?_⟩
      · show List.length (_ ++ _) ≤ _
        rw [List.length_append, hrl]; omega
      · show cntOps (_ ++ _) ≤ _
        rw [cntOps_app, rnL_cnt]; omega
    · rw [rep_no he]
      refine ⟨by show _ ≤ (repAll f rel g k).1; omega, by show (repAll f rel g k).1 ≤ _; omega, ?_, ?_⟩
      · show List.length (_ ++ _) ≤ _
        rw [List.length_append, List.length_singleton]; omega
      · show cntOps (_ ++ _) ≤ _
        rw [cntOps_app]
        have h1 : cntOps [f.2.2[k]] = cntOp1 f.2.2[k] + 0 := rfl
        rw [h1]
        simp only [cntOp1, cntI]
        omega
theorem rep_cnt : cntFrm (repV t f rel g) ≤ 1000000 := by
  by_cases h : repC0 t f rel g = 0
  · rw [(repV_yes h).1]
    cases h1 : tb (frmOk t f)
    · rw [repC_1 (by rw [repOk, h1]; rfl)] at h; cases h
    cases h2 : tb (frmOk t g)
    · rw [repC_1 (by rw [repOk, h1, h2]; rfl)] at h; cases h
    obtain ⟨_, _, _, h4, _⟩ := frm_bd h1
    obtain ⟨_, _, _, b4⟩ := rep_bd (rel := rel) h1 h2 f.2.2.length (Nat.le_refl _)
    by_cases hl : (repF f rel g).2.1 ≤ 8 ∧ (repF f rel g).2.2.length ≤ 16
    · rw [(lim_yes hl).1]
      have : cntFrm (repF f rel g) = cntOps (repAll f rel g f.2.2.length).2 := rfl
      omega
    · rw [(lim_no hl).1, cnt_frm0]; omega
  · rw [(repV_no h).1, cnt_frm0]; omega
theorem put_I {args : List Int} {free behind v : Int} (h : ∀ a ∈ args, 0 ≤ a ∧ a ≤ 1000) (hl : free ≤ args.length) (hv : 0 ≤ v ∧ v ≤ 1000) (hb : -1000 ≤ behind ∧ behind ≤ 1000) : I64 (putTo args free behind v) := by
  rcases ilt v free with h4 | h4
  · rw [put_lt h4]
    have h5 : v.toNat < args.length := by omega
    rw [List.getD_eq_getElem?_getD, List.getElem?_eq_getElem h5]
    have := h _ (List.getElem_mem h5)
    exact I64.small (by simp; omega) (by simp; omega)
  · rw [put_ge h4]; exact I64.small (by omega) (by omega)
end
theorem ReplaceRel1_any (w : World) (a free behind : Int) {v : Value} {args : List Int} (b1 b2 b3 : Nat) (h1 : w.cell? ⟨b1, 0, none⟩ = some (.int .i64 free)) (h2 : w.cell? ⟨b2, 1, none⟩ = some v) (h3 : w.cell? ⟨b3, 0, none⟩ = some (.int .i64 behind)) (hr : intsT.Rd w [v] args) (h4 : 0 ≤ a ∧ a ≤ 1000) (h5 : free ≤ args.length) (h6 : -1000 ≤ behind ∧ behind ≤ 1000) :
    Calls Try.prog 114 #[.int .i64 a, .pointer (some ⟨b1, 0, none⟩), .pointer (some ⟨b2, 0, none⟩), .pointer (some ⟨b3, 0, none⟩)] w fun e w' => e = .returned (.int .i64 (putTo args free behind a)) ∧ w = w' := by
  rcases ilt a free with hc | hc
  · obtain ⟨n, rfl⟩ : ∃ n : Nat, a = n := ⟨a.toNat, by omega⟩
    have hn : n < args.length := by omega
    obtain ⟨ad, cap, hv, -, -, hcell⟩ := ints_ex hr
    obtain rfl : v = _ := by simpa using hv
    obtain ⟨b, o, rfl, hb, hce⟩ := hcell (by omega)
    have e0 := (hce n hn).2
    have HE : Hid (putTo args free behind (n : Int) = args[n]) := by
      unfold Hid
      rw [put_lt hc, Int.toNat_natCast, List.getD_eq_getElem?_getD, List.getElem?_eq_getElem hn]
      rfl
    clear hcell hce hv hr
    go_enter Try.func114, Try.ntmps114
    go_wp2_with fail
    go_ret
    exact ⟨ret_int HE.out.symm, rfl⟩
  · have HE := Lib.hid (put_ge (args := args) (behind := behind) hc)
    clear hr
    go_enter Try.func114, Try.ntmps114
    go_wp2_with fail
    go_ret
    exact ⟨ret_int HE.out.symm, rfl⟩
theorem rd_one {w : World} {n : Int} {u : Value} {x : List Int} {T : TypeId} {B : Nat} (hI : I64 n) (h : intsT.Rd w [u] x) (hB : B = w.heap.size) : opsT.Rd (w.alloc (.cells #[.int .i64 n, u] T)) [.slice (some ⟨B, 0, none⟩) 1 1] [(n, x)] := by
  subst hB
  obtain ⟨fp, h1⟩ := h
  have hs : Same fp w (w.alloc (.cells #[.int .i64 n, u] T)) := Same.below bA ((Ty.slice Ty.int).lt h1)
  refine ⟨w.heap.size :: fp, some ⟨w.heap.size, 0, none⟩, 1, rfl, Nat.le_refl _, by simp [capMax], .inr ⟨by simp, w.heap.size, 0, fun _ => fp, rfl, by simp, by simp, fun i hi => ?_⟩⟩
  obtain rfl : i = 0 := by simpa using hi
  refine ⟨[.int .i64 n, u], ⟨[u], rfl, hI, (Ty.slice Ty.int).same h1 hs⟩, fun j hj => ?_⟩
  rcases (show j = 0 ∨ j = 1 by simp at hj; omega) with rfl | rfl <;> simp
set_option maxHeartbeats 6400000 in
set_option maxRecDepth 100000 in
theorem ReplaceRel_any (w : World) {cs cf cg : Array Value} {t : Int × List (Int × List (List Int))} {f g : Int × Int × List (Int × List Int)} (h : tplT.Rd w cs.toList t) (hf : frmT.Rd w cf.toList f) {rel : Int} (hg : frmT.Rd w cg.toList g) :
    Calls Try.prog 43 #[.agg cs, .agg cf, .int .i64 rel, .agg cg] w (RetAC frmT w (repV t f rel g) (repC t f rel g)) := by
  have HT0 := Lib.hid h
  have HF0 := Lib.hid hf
  have HG0 := Lib.hid hg
  obtain ⟨v1, hv, hI, htx⟩ := pair_ex h
  obtain rfl := agg_of hv
  obtain ⟨v2, hv2, hIf, hIf2, hfx⟩ := trip_ex hf
  obtain rfl := agg_of hv2
  obtain ⟨v3, hv3, -, -, hgx⟩ := trip_ex hg
  obtain rfl := agg_of hv3
  obtain ⟨ta, tc, htv, -, -, htcell⟩ := pairs_ex htx
  obtain rfl : v1 = _ := by simpa using htv
  obtain ⟨fa, fc, hfv, -, -, hfcell⟩ := pairs_ex hfx
  obtain rfl : v2 = _ := by simpa using hfv
  obtain ⟨ga, gn, gc, rfl⟩ := rd_sl hgx
  have HTC := Lib.hid htcell
  have HFC := Lib.hid hfcell
  have HGX := Lib.hid hgx
  clear h hf hg hv hv2 hv3 hfx hgx htx htv hfv htcell hfcell
  go_enter Try.func43, Try.ntmps43
  go_wp2_with fail
  generalize hW : World.alloc _ _ = W
  have hbW : Below w.heap.size w W := hW ▸ (((bAA (w := w)).alloc (by simp; omega) _).alloc (by simp; omega) _)
  have hsW : W.heap.size = w.heap.size + 4 := by rw [← hW]; simp
  have t0 : W.cell? ⟨w.heap.size, 0, none⟩ = some (.int .i64 t.1) := by rw [← hW]; simp [go_sem]
  have t1 : W.cell? ⟨w.heap.size, 1, none⟩ = some (.slice ta t.2.length tc) := by rw [← hW]; simp [go_sem]
  have f0 : W.cell? ⟨w.heap.size + 1, 0, none⟩ = some (.int .i64 f.1) := by rw [← hW]; simp [go_sem]
  have f1 : W.cell? ⟨w.heap.size + 1, 1, none⟩ = some (.int .i64 f.2.1) := by rw [← hW]; simp [go_sem]
  have f2 : W.cell? ⟨w.heap.size + 1, 2, none⟩ = some (.slice fa f.2.2.length fc) := by rw [← hW]; simp [go_sem]
  have g0 : W.cell? ⟨w.heap.size + 2, 0, none⟩ = some (.int .i64 g.1) := by rw [← hW]; simp [go_sem]
  have g1 : W.cell? ⟨w.heap.size + 2, 1, none⟩ = some (.int .i64 g.2.1) := by rw [← hW]; simp [go_sem]
  have g2 : W.cell? ⟨w.heap.size + 2, 2, none⟩ = some (.slice ga gn gc) := by rw [← hW]; simp [go_sem]
  have r0 : W.cell? ⟨w.heap.size + 3, 0, none⟩ = some (.int .i64 0) := by rw [← hW]; simp [go_sem]
  have r1 : W.cell? ⟨w.heap.size + 3, 1, none⟩ = some (.int .i64 0) := by rw [← hW]; simp [go_sem]
  have r2 : W.cell? ⟨w.heap.size + 3, 2, none⟩ = some (.slice none 0 0) := by rw [← hW]; simp [go_sem]
  have m0 : W.frozen? ⟨w.heap.size + 3, 0, none⟩ = false := by rw [← hW]; simp [go_sem]
  have m1 : W.frozen? ⟨w.heap.size + 3, 1, none⟩ = false := by rw [← hW]; simp [go_sem]
  have m2 : W.frozen? ⟨w.heap.size + 3, 2, none⟩ = false := by rw [← hW]; simp [go_sem]
  clear hW
  have HBAD : Hid (∀ (w1 : World) (c : Int), Below w.heap.size w w1 → repC0 t f rel g = c → c ≠ 0 → RetAC frmT w (repV t f rel g) (repC t f rel g) (.returned (.tuple #[.agg #[.int .i64 0, .int .i64 0, .slice none 0 0], .int .i64 c])) (set3 w1 (w.heap.size + 3) (.int .i64 0) (.int .i64 0) (.slice none 0 0))) := by
    intro w1 c hb hc h0
    obtain ⟨e1, e2⟩ := repV_no (show repC0 t f rel g ≠ 0 by rw [hc]; exact h0)
    exact ⟨[.int .i64 0, .int .i64 0, .slice none 0 0], by rw [e2, hc], by rw [e1]; exact fr_frm0, set3_below hb (by omega)⟩
  refine (ValidFormula_any _ (HT0.out.below hbW) (HF0.out.below hbW)).mono ?_
  rintro e w1 ⟨rfl, hb1⟩
  have hz1 := hb1.size
  have hB1 := bthen hbW hb1
  replace t0 := (cellB hb1 (by omega)).trans t0
  replace t1 := (cellB hb1 (by omega)).trans t1
  replace f0 := (cellB hb1 (by omega)).trans f0
  replace f1 := (cellB hb1 (by omega)).trans f1
  replace f2 := (cellB hb1 (by omega)).trans f2
  replace g0 := (cellB hb1 (by omega)).trans g0
  replace g1 := (cellB hb1 (by omega)).trans g1
  replace g2 := (cellB hb1 (by omega)).trans g2
  replace r0 := (cellB hb1 (by omega)).trans r0
  replace r1 := (cellB hb1 (by omega)).trans r1
  replace r2 := (cellB hb1 (by omega)).trans r2
  replace m0 := (frozenB hb1 (by omega)).trans m0
  replace m1 := (frozenB hb1 (by omega)).trans m1
  replace m2 := (frozenB hb1 (by omega)).trans m2
  cases hT : tb (frmOk t f)
  · have HR := Lib.hid (repC_1 (rel := rel) (show repOk t f g = false by rw [repOk, hT]; rfl))
    clear hT
    obtain ⟨q0, q1, q2⟩ := set3_cells (x := .int .i64 0) (y := .int .i64 0) (z := .slice none 0 0) r0 r1 r2
    go_wp2_with fail
    exact bodyPost_ret (v := .tuple #[.agg #[.int .i64 0, .int .i64 0, .slice none 0 0], .int .i64 1]) (by simp [results, Try.results43, go_sem, q0, q1, q2]) rfl (HBAD.out w1 1 hB1 HR.out (by decide))
  go_wp2_with fail
  refine (ValidFormula_any _ (HT0.out.below hB1) (HG0.out.below hB1)).mono ?_
  rintro e w2 ⟨rfl, hb2⟩
  have hz2 := hb2.size
  have hB2 := bthen hB1 hb2
  replace t0 := (cellB hb2 (by omega)).trans t0
  replace t1 := (cellB hb2 (by omega)).trans t1
  replace f0 := (cellB hb2 (by omega)).trans f0
  replace f1 := (cellB hb2 (by omega)).trans f1
  replace f2 := (cellB hb2 (by omega)).trans f2
  replace g0 := (cellB hb2 (by omega)).trans g0
  replace g1 := (cellB hb2 (by omega)).trans g1
  replace g2 := (cellB hb2 (by omega)).trans g2
  replace r0 := (cellB hb2 (by omega)).trans r0
  replace r1 := (cellB hb2 (by omega)).trans r1
  replace r2 := (cellB hb2 (by omega)).trans r2
  replace m0 := (frozenB hb2 (by omega)).trans m0
  replace m1 := (frozenB hb2 (by omega)).trans m1
  replace m2 := (frozenB hb2 (by omega)).trans m2
  obtain ⟨q0, q1, q2⟩ := set3_cells (x := .int .i64 0) (y := .int .i64 0) (z := .slice none 0 0) r0 r1 r2
  cases hT2 : tb (frmOk t g)
  · have HR := Lib.hid (repC_1 (rel := rel) (show repOk t f g = false by rw [repOk, hT, hT2]; rfl))
    clear hT hT2
    go_wp2_with fail
    exact bodyPost_ret (v := .tuple #[.agg #[.int .i64 0, .int .i64 0, .slice none 0 0], .int .i64 1]) (by simp [results, Try.results43, go_sem, q0, q1, q2]) rfl (HBAD.out w2 1 hB2 HR.out (by decide))
  have hok : repOk t f g = true := by rw [repOk, hT, hT2]; rfl
  have htl6 : t.2.length ≤ 6 := (tb_iff.1 hT).1.2.1
  go_wp2_with fail
  refine (within_any _ _ _ _).mono ?_
  rintro e _ ⟨rfl, rfl⟩
  cases hA : inB rel 0 ((t.2.length : Int) - 1)
  · have HR := Lib.hid (repC_2 hok hA)
    clear hT hT2 hok hA
    go_wp2_with fail
    exact bodyPost_ret (v := .tuple #[.agg #[.int .i64 0, .int .i64 0, .slice none 0 0], .int .i64 2]) (by simp [results, Try.results43, go_sem, q0, q1, q2]) rfl (HBAD.out w2 2 hB2 HR.out (by decide))
  have hA2 := inB_true.1 hA
  obtain ⟨kk, rfl⟩ : ∃ kk : Nat, rel = kk := ⟨rel.toNat, by omega⟩
  have hkk : kk < t.2.length := by omega
  obtain ⟨tb0, to0, rfl, htb, hte⟩ := HTC.out (by omega)
  obtain ⟨_, _, _, he0, -⟩ := hte kk hkk
  have tt := (hB2.cell htb).trans he0
  have har := arOf_nat hkk
  cases hE : (g.1 != arOf t (kk : Int))
  rotate_left
  · have HR := Lib.hid (repC_4 hok hA hE)
    have hE' : (g.1 != (t.2[kk]).1) = true := by rw [← har]; exact hE
    clear hT hT2 hok hA hte he0 hE har
    go_wp2_with fail
    go_quiet (fail)
    generalize hWq : w2.drewN _ = w3
    have hbq : Below w2.heap.size w2 w3 := hWq ▸ (Quiet.drewN w2 _).below
    have hz3 := hbq.size
    replace r0 := (cellB hbq (by omega)).trans r0
    replace r1 := (cellB hbq (by omega)).trans r1
    replace r2 := (cellB hbq (by omega)).trans r2
    replace m0 := (frozenB hbq (by omega)).trans m0
    replace m1 := (frozenB hbq (by omega)).trans m1
    replace m2 := (frozenB hbq (by omega)).trans m2
    clear hWq
    obtain ⟨q0, q1, q2⟩ := set3_cells (x := .int .i64 0) (y := .int .i64 0) (z := .slice none 0 0) r0 r1 r2
    go_wp2_with fail
    exact bodyPost_ret (v := .tuple #[.agg #[.int .i64 0, .int .i64 0, .slice none 0 0], .int .i64 4]) (by simp [results, Try.results43, go_sem, q0, q1, q2]) rfl (HBAD.out w3 4 (bthen hB2 hbq) HR.out (by decide))
  have HR := Lib.hid (repV_yes (repC_0 hok hA hE))
  have hE' : (g.1 != (t.2[kk]).1) = false := by rw [← har]; exact hE
  have HAR := Lib.hid har
  have HGE : Hid (g.1 = arOf t (kk : Int)) := by unfold Hid; simpa using hE
  clear hok hA hte he0 hE har q0 q1 q2
  go_wp2_with fail
  go_quiet (fail)
  generalize hWq : w2.drewN _ = w3
  have hbq : Below w2.heap.size w2 w3 := hWq ▸ (Quiet.drewN w2 _).below
  have hz3 := hbq.size
  have hB3 := bthen hB2 hbq
  replace f0 := (cellB hbq (by omega)).trans f0
  replace f1 := (cellB hbq (by omega)).trans f1
  replace f2 := (cellB hbq (by omega)).trans f2
  replace g0 := (cellB hbq (by omega)).trans g0
  replace g1 := (cellB hbq (by omega)).trans g1
  replace g2 := (cellB hbq (by omega)).trans g2
  replace r0 := (cellB hbq (by omega)).trans r0
  replace r1 := (cellB hbq (by omega)).trans r1
  replace r2 := (cellB hbq (by omega)).trans r2
  replace m0 := (frozenB hbq (by omega)).trans m0
  replace m1 := (frozenB hbq (by omega)).trans m1
  replace m2 := (frozenB hbq (by omega)).trans m2
  obtain ⟨a1, a2, a3, a4, a5⟩ := frm_bd hT
  obtain ⟨c1, c2, c3, c4, c5⟩ := frm_bd hT2
  have A5 := Lib.hid a5
  have C5 := Lib.hid c5
  have HBD := Lib.hid (rep_bd (rel := (kk : Int)) hT hT2)
  have HTO := Lib.hid (tb_iff.1 hT)
  have hl1 : w.heap.size + 1 < w3.heap.size := by omega
  clear hWq hT hT2 a5 c5 t0 t1 tt hE' HT0 HF0 HG0 HTC htb
  go_wp2_with fail
  generalize hWa : World.alloc w3 _ = wa
  have hba : Below w3.heap.size w3 wa := hWa ▸ bA
  have hsa : wa.heap.size = w3.heap.size + 1 := by rw [← hWa]; simp
  have y0 : wa.cell? ⟨w3.heap.size, 0, none⟩ = some (.int .i64 f.1) := by rw [← hWa]; simp
  have y1 : wa.cell? ⟨w3.heap.size, 1, none⟩ = some (.int .i64 f.2.1) := by rw [← hWa]; simp
  have y2 : wa.cell? ⟨w3.heap.size, 2, none⟩ = some (.slice none 0 0) := by rw [← hWa]; simp
  have n1 : wa.frozen? ⟨w3.heap.size, 1, none⟩ = false := by rw [← hWa]; simp
  have n2 : wa.frozen? ⟨w3.heap.size, 2, none⟩ = false := by rw [← hWa]; simp
  replace g0 := (cellB hba (by omega)).trans g0
  replace g1 := (cellB hba (by omega)).trans g1
  replace g2 := (cellB hba (by omega)).trans g2
  replace r0 := (cellB hba (by omega)).trans r0
  replace r1 := (cellB hba (by omega)).trans r1
  replace r2 := (cellB hba (by omega)).trans r2
  replace m0 := (frozenB hba (by omega)).trans m0
  replace m1 := (frozenB hba (by omega)).trans m1
  replace m2 := (frozenB hba (by omega)).trans m2
  have hBa := bthen hB3 hba
  clear hWa
  go_loopw [54] (fun i wr => ∃ (k : Nat) (v : Value), k ≤ f.2.2.length ∧ i = .int .i64 k ∧ Bl opT 121 (w3.heap.size + 1) wr.heap.size wr v (repAll f kk g k).2 ∧ wr.cell? ⟨w3.heap.size, 2, none⟩ = some v ∧ wr.cell? ⟨w3.heap.size, 0, none⟩ = some (.int .i64 f.1) ∧ wr.cell? ⟨w3.heap.size, 1, none⟩ = some (.int .i64 (repAll f kk g k).1) ∧ wr.frozen? ⟨w3.heap.size, 1, none⟩ = false ∧ wr.frozen? ⟨w3.heap.size, 2, none⟩ = false ∧ Below w3.heap.size wa wr ∧ w3.heap.size + 1 ≤ wr.heap.size) (fun i _ => f.2.2.length - (intOf i).toNat)
  case atStart => exact ⟨0, _, Nat.zero_le _, rfl, by rw [rep_zero]; simpa using Bl.nil, y2, y0, by rw [rep_zero]; exact y1, n1, n2, Below.refl _ _, by omega⟩
  case round =>
    obtain ⟨k, v, hk, rfl, hBv, z2, z0, z1, zn1, zn2, hbe, hse⟩ := hrel
    obtain ⟨b1, b2, b3, b4⟩ := HBD.out k hk
    obtain ⟨sv, sl, hrs⟩ : ∃ sv sl, repAll f kk g k = (sv, sl) := ⟨_, _, rfl⟩
    have hrs1 : (repAll f kk g k).1 = sv := by rw [hrs]
    have hrs2 : (repAll f kk g k).2 = sl := by rw [hrs]
    rw [hrs1] at z1 b1 b2
    rw [hrs2] at hBv b3 b4
    have HRS := Lib.hid hrs
    obtain ⟨av0, nv0, cv0, rfl⟩ := ex_slice (hBv.fr (by unfold capMax; omega))
    have HBv := Lib.hid hBv
    have hbw : Below w.heap.size w wr := hBa.trans (hbe.mono (by omega))
    have hbw1 : Below (w.heap.size + 4) w3 wr := (hba.mono (by omega)).trans (hbe.mono (by omega))
    clear hBv y0 y1 y2 n1 n2 hrs hrs1 hrs2
    have G0 := (cellB hbe (by omega)).trans g0
    have G1 := (cellB hbe (by omega)).trans g1
    have G2 := (cellB hbe (by omega)).trans g2
    by_cases hkl : k < f.2.2.length
    · obtain ⟨b, o, rfl, hb, hce⟩ := HFC.out (by omega)
      obtain ⟨uk, huk, hIk, e0, e1⟩ := hce k hkl
      obtain ⟨ak, nk, ck, rfl⟩ := rd_sl huk
      have d0 := (hbw.cell hb).trans e0
      have d1 := (hbw.cell hb).trans e1
      have HU := Lib.hid (huk.below hbw)
      have HA5 := Lib.hid (A5.out _ (List.getElem_mem hkl))
      have HSUC := Lib.hid (rep_succ (rel := (kk : Int)) (g := g) hkl)
      have hlb : b < wr.heap.size := Nat.lt_of_lt_of_le hb (by omega)
      clear hce huk e0 e1
      by_cases hrel' : (f.2.2[k]).1 = (kk : Int)
      · have hne : ((f.2.2[k]).1 != (kk : Int)) = false := by simpa using hrel'
        have HST : Hid (repAll f kk g (k + 1) = (sv + (g.2.1 - g.1), sl ++ rnL (putTo (f.2.2[k]).2 g.1 (sv - g.1)) g.2.2)) := by unfold Hid; rw [HSUC.out, HRS.out, rep_yes hrel']
        have hal : ((f.2.2[k]).2.length : Int) = g.1 := by
          have h1 := (HTO.out.2.2 _ (List.getElem_mem hkl)).2.1
          rw [hrel', ← HGE.out] at h1
          exact h1
        have hal2 : g.1 ≤ ((f.2.2[k]).2.length : Int) := by omega
        have hl4 : w.heap.size + 2 < wr.heap.size := by omega
        have hl5 : w3.heap.size < wr.heap.size := by omega
        clear hrel' hal
        go_wp2_with fail
        generalize hWb : World.alloc (World.alloc wr _) _ = wb
        have hbb : Below wr.heap.size wr wb := hWb ▸ bAA
        have hsb : wb.heap.size = wr.heap.size + 2 := by rw [← hWb]; simp
        have x1 : wb.cell? ⟨wr.heap.size, 1, none⟩ = some (.slice ak nk ck) := by rw [← hWb]; simp
        have xb : wb.cell? ⟨wr.heap.size + 1, 0, none⟩ = some (.int .i64 (sv - g.1)) := by rw [← hWb]; simp
        replace z2 := (cellB hbb (by omega)).trans z2
        replace z0 := (cellB hbb (by omega)).trans z0
        replace z1 := (cellB hbb (by omega)).trans z1
        replace G0 := (cellB hbb (by omega)).trans G0
        replace G1 := (cellB hbb (by omega)).trans G1
        replace G2 := (cellB hbb (by omega)).trans G2
        replace zn1 := (frozenB hbb (by omega)).trans zn1
        replace zn2 := (frozenB hbb (by omega)).trans zn2
        have HUB := Lib.hid (HU.out.below hbb)
        have HGB := Lib.hid (HGX.out.below (bthen hbw hbb))
        have hl2 : w3.heap.size < wb.heap.size := by omega
        have hl3 : w.heap.size + 2 < wb.heap.size := by omega
        clear hWb d0 d1
        refine wp_region_T (fun w' => w'.cell? ⟨w3.heap.size, 2, none⟩ = some (.slice av0 nv0 cv0) ∧ w'.cell? ⟨w.heap.size + 2, 2, none⟩ = some (.slice ga gn gc)) [6, 8] (by kernel_rfl) ⟨z2, G2⟩ (fun hHeld => ?_)
        refine wpAnyT_take (i := 0) (v := ?_) rfl (by kernel_rfl) (fun _ _ _ h => h) (Or.inl ⟨by rfl, ?_⟩) (by assumption) ?_
        rotate_left
        · (intro w hSw; (try dsimp only at hSw); go_simp <;> with_reducible rfl)
        try simp only [Act.put]
        refine wpAnyT_take (i := 1) (v := ?_) rfl (by kernel_rfl) (fun _ _ _ h => h) (Or.inl ⟨by rfl, ?_⟩) (by assumption) ?_
        rotate_left
        · (intro w hSw; (try dsimp only at hSw); go_simp <;> with_reducible rfl)
        try simp only [Act.put]
        refine wpAnyT_take (i := 2) (v := ?_) rfl (by kernel_rfl) (fun _ _ _ h => h) (Or.inl ⟨by rfl, ?_⟩) (by assumption) ?_
        rotate_left
        · (intro w hSw; (try dsimp only at hSw); go_simp <;> with_reducible rfl)
        try simp only [Act.put]
        refine wpAnyT_take (i := 3) (v := ?_) rfl (by kernel_rfl) (fun _ _ _ h => h) (Or.inl ⟨by rfl, ?_⟩) (by assumption) ?_
        rotate_left
        · (intro w hSw; (try dsimp only at hSw); go_simp <;> with_reducible rfl)
        try simp only [Act.put]
        refine wpAnyT_take (i := 4) (v := ?_) rfl (by kernel_rfl) (fun _ _ _ h => h) (Or.inl ⟨by rfl, ?_⟩) (by assumption) ?_
        rotate_left
        · (intro w hSw; (try dsimp only at hSw); go_simp <;> with_reducible rfl)
        try simp only [Act.put]
        refine wpAnyT_one (i := 5) rfl (by kernel_rfl) (fun K hK => ?_)
        go_simp
        go_at_call 109
        have hto : Hid (∀ W a, Below wb.drew.heap.size wb.drew W → (∃ c ∈ g.2.2, a ∈ c.2) → Calls Try.prog 114 (#[.int .i64 a] ++ #[.pointer (some ⟨w.heap.size + 2, 0, none⟩), .pointer (some ⟨wr.heap.size, 0, none⟩), .pointer (some ⟨wr.heap.size + 1, 0, none⟩)]) W fun e w' => e = .returned (.int .i64 (putTo (f.2.2[k]).2 g.1 (sv - g.1) a)) ∧ W = w') := by
          intro W' a hW ⟨c, hc, ha⟩
          have h5 := (C5.out c hc).1 a ha
          have hW2 : Below wb.heap.size wb W' := bthen bD hW
          exact ReplaceRel1_any W' a _ _ _ _ _ ((cellB hW2 (by omega)).trans G0) ((cellB hW2 (by omega)).trans x1) ((cellB hW2 (by omega)).trans xb) (HUB.out.below hW2) (by omega) hal2 (by omega)
        have HGH := Lib.hid (show ∀ c ∈ g.2.2, (∀ a ∈ c.2, I64 (putTo (f.2.2[k]).2 g.1 (sv - g.1) a)) ∧ c.2.length ≤ 1000000 from fun c hc => ⟨fun a ha => put_I (fun v hv => by have := HA5.out.1 v hv; omega) hal2 (by have := (C5.out c hc).1 a ha; omega) (by omega), by have := (C5.out c hc).2; omega⟩)
        refine (renamed_any _ (HGB.out.below bD) 114 _ (enters Try.func114 (by kernel_rfl) rfl) (putTo (f.2.2[k]).2 g.1 (sv - g.1)) hto HGH.out (by omega)).mono ?_
        rintro e w4 ⟨u4, rfl, hf4, hb4⟩
        obtain ⟨a4, n4, c4, rfl⟩ := ex_slice hf4
        have HF4 := Lib.hid (hf4.mono (base' := wr.heap.size) (by simp; omega))
        have hb4' : Below wb.heap.size wb w4 := bthen bD hb4
        have hz4 := hb4'.size
        replace z2 := (cellB hb4' (by omega)).trans z2
        replace z0 := (cellB hb4' (by omega)).trans z0
        replace z1 := (cellB hb4' (by omega)).trans z1
        replace G0 := (cellB hb4' (by omega)).trans G0
        replace G1 := (cellB hb4' (by omega)).trans G1
        replace G2 := (cellB hb4' (by omega)).trans G2
        replace zn1 := (frozenB hb4' (by omega)).trans zn1
        replace zn2 := (frozenB hb4' (by omega)).trans zn2
        clear hf4 hb4 hto
        dsimp only
        refine hK.out _ _ ⟨z2, G2⟩ (fun hHeld => ?_)
        clear hK K
        refine wpAnyT_last (i := 6) rfl (by kernel_rfl) (by kernel_rfl) (fun K hK => ?_)
        refine step_pushAll (E := opT) _ rfl _ _ 55 121 rfl elAtomS rfl (HBv.out.below (hbb.trans (hb4'.mono (by omega))) (Nat.le_refl _)) rfl HF4.out (by rw [rnL_len]; omega) (by decide) hse (by omega) ?_
        intro v5 w5 hB5 hg5 _
        obtain ⟨a5, n5, c5, rfl⟩ := ex_slice (hB5.fr (by rw [List.length_append, rnL_len]; unfold capMax; omega))
        have HB5 := Lib.hid hB5
        have hb5 : Below (w3.heap.size + 1) w4 w5 := (Below.refl _ w4).grown hg5 (by omega) (fun q hq => HBv.out.own hq)
        have hz5 := hb5.size
        replace z2 := (cellB hb5 (by omega)).trans z2
        replace z0 := (cellB hb5 (by omega)).trans z0
        replace z1 := (cellB hb5 (by omega)).trans z1
        replace G0 := (cellB hb5 (by omega)).trans G0
        replace G1 := (cellB hb5 (by omega)).trans G1
        replace zn1 := (frozenB hb5 (by omega)).trans zn1
        replace zn2 := (frozenB hb5 (by omega)).trans zn2
        clear hB5 hg5 x1 xb G2
        refine hK.out _ _ ?_
        clear hK K
        refine wpAnyT_any (i := 7) (v := ?_) rfl (by kernel_rfl) (fun _ _ _ h => h) (Or.inl ⟨by rfl, ?_⟩) (by first | exact fun _ => by assumption | (intro hp; exact absurd hp (by rw [show pastB _ _ = true by kernel_rfl]; simp))) ?_
        rotate_left
        · (intro w hSw; (try dsimp only at hSw); go_simp <;> with_reducible rfl)
        try simp only [Act.put]
        refine wpAnyT_last (i := 8) rfl (by kernel_rfl) (by kernel_rfl) (fun K hK => ?_)
        go_simp
        refine hK.out _ _ ?_
        clear hK K
        refine wpAnyT_done (by kernel_rfl) ?_ _
        go_simp
        generalize hW6 : World.setCell w5 _ _ = w6
        have hb6 : Below w3.heap.size w5 w6 := hW6 ▸ ((Below.refl _ w5).setCell (by simp) _)
        have hz6 : w6.heap.size = w5.heap.size := by rw [← hW6, size_set]
        have i0 : w6.cell? ⟨w3.heap.size, 0, none⟩ = some (.int .i64 f.1) := by rw [← hW6]; exact (World.cell?_setCell_other _ _ _ _ (by simp)).trans z0
        have i1 : w6.cell? ⟨w3.heap.size, 1, none⟩ = some (.int .i64 sv) := by rw [← hW6]; exact (World.cell?_setCell_other _ _ _ _ (by simp)).trans z1
        have i2 : w6.cell? ⟨w3.heap.size, 2, none⟩ = some (.slice a5 n5 c5) := by rw [← hW6]; exact World.cell?_setCell_same _ _ _ z2
        have j1 : w6.frozen? ⟨w3.heap.size, 1, none⟩ = false := by rw [← hW6, World.frozen?_setCell]; exact zn1
        have j2 : w6.frozen? ⟨w3.heap.size, 2, none⟩ = false := by rw [← hW6, World.frozen?_setCell]; exact zn2
        have HB6 : Hid (Bl opT 121 (w3.heap.size + 1) w6.heap.size w6 (.slice a5 n5 c5) (sl ++ rnL (putTo (f.2.2[k]).2 g.1 (sv - g.1)) g.2.2)) := by
          unfold Hid
          rw [hz6, ← hW6]
          exact HB5.out.sameB (fun q hq1 hq2 => Below.heap_setCell _ _ _ _ (by simp; omega))
        replace G0 := (cellB hb6 (by omega)).trans G0
        replace G1 := (cellB hb6 (by omega)).trans G1
        clear hW6 z0 z1 z2 zn1 zn2
        go_wp2_with fail
        go_roundw
        case rel => exact ⟨k + 1, _, by omega, by go_num, by rw [size_set, HST.out]; exact HB6.out.sameB (fun q hq1 hq2 => Below.heap_setCell _ _ _ _ (by simp; omega)), (World.cell?_setCell_other _ _ _ _ (by simp)).trans i2, (World.cell?_setCell_other _ _ _ _ (by simp)).trans i0, by rw [HST.out]; exact World.cell?_setCell_same _ _ _ i1, (World.frozen?_setCell _ _ _ _).trans j1, (World.frozen?_setCell _ _ _ _).trans j2, (hbe.trans ((hbb.mono (by omega)).trans ((hb4'.mono (by omega)).trans ((hb5.mono (by omega)).trans hb6)))).setCell (by simp) _, by rw [size_set]; omega⟩
        case measure => simp [intOf]; omega
      · have hne : ((f.2.2[k]).1 != (kk : Int)) = true := by simpa using hrel'
        have HST : Hid (repAll f kk g (k + 1) = (sv, sl ++ [f.2.2[k]])) := by unfold Hid; rw [HSUC.out, HRS.out, rep_no hrel']
        clear hrel'
        go_wp2_with fail
        generalize hWb : World.alloc wr _ = wb
        have hbb : Below wr.heap.size wr wb := hWb ▸ bA
        have hsb : wb.heap.size = wr.heap.size + 1 := by rw [← hWb]; simp
        have x0 : wb.cell? ⟨wr.heap.size, 0, none⟩ = some (.int .i64 (f.2.2[k]).1) := by rw [← hWb]; simp
        have x1 : wb.cell? ⟨wr.heap.size, 1, none⟩ = some (.slice ak nk ck) := by rw [← hWb]; simp
        replace z2 := (cellB hbb (by omega)).trans z2
        replace z0 := (cellB hbb (by omega)).trans z0
        replace z1 := (cellB hbb (by omega)).trans z1
        replace zn1 := (frozenB hbb (by omega)).trans zn1
        replace zn2 := (frozenB hbb (by omega)).trans zn2
        have hl2 : w3.heap.size < wb.heap.size := by omega
        have hl3 : wr.heap.size < wb.heap.size := by omega
        clear hWb d0 d1
        refine wp_region_T (fun w' => w'.cell? ⟨w3.heap.size, 2, none⟩ = some (.slice av0 nv0 cv0) ∧ w'.cell? ⟨wr.heap.size, 0, none⟩ = some (.int .i64 (f.2.2[k]).1) ∧ w'.cell? ⟨wr.heap.size, 1, none⟩ = some (.slice ak nk ck)) [5, 7] (by kernel_rfl) ⟨z2, x0, x1⟩ (fun hHeld => ?_)
        refine wpAnyT_take (i := 0) (v := ?_) rfl (by kernel_rfl) (fun _ _ _ h => h) (Or.inl ⟨by rfl, ?_⟩) (by assumption) ?_
        rotate_left
        · (intro w hSw; (try dsimp only at hSw); go_simp <;> with_reducible rfl)
        try simp only [Act.put]
        refine wpAnyT_take (i := 1) (v := ?_) rfl (by kernel_rfl) (fun _ _ _ h => h) (Or.inl ⟨by rfl, ?_⟩) (by assumption) ?_
        rotate_left
        · (intro w hSw; (try dsimp only at hSw); go_simp <;> with_reducible rfl)
        try simp only [Act.put]
        refine wpAnyT_take (i := 2) (v := ?_) rfl (by kernel_rfl) (fun _ _ _ h => h) (Or.inl ⟨by rfl, ?_⟩) (by assumption) ?_
        rotate_left
        · (intro w hSw; (try dsimp only at hSw); go_simp <;> with_reducible rfl)
        try simp only [Act.put]
        refine wpAnyT_one (i := 3) rfl (by kernel_rfl) (fun K hK => ?_)
        go_simp
        refine hK.out _ _ ⟨by go_keep, by go_keep, by go_keep⟩ (fun hHeld => ?_)
        clear hK K
        refine wpAnyT_one (i := 4) rfl (by kernel_rfl) (fun K hK => ?_)
        go_simp
        go_at_call 109
        have HRD : Hid (opsT.Rd (wb.alloc (.cells #[.int .i64 (f.2.2[k]).1, .slice ak nk ck] 121)).drew [.slice (some ⟨wr.heap.size + 1, 0, none⟩) 1 1] [((f.2.2[k]).1, (f.2.2[k]).2)]) := (rd_one hIk (HU.out.below hbb) hsb.symm).below bD
        refine (renamed_any _ HRD.out 111 #[] (enters Try.func111 (by kernel_rfl) rfl) (fun v => v) (fun W' a _ _ => same_any W' a) (fun c hc => by obtain rfl : c = _ := List.mem_singleton.1 hc; exact ⟨fun a ha => I64.small (by have := HA5.out.1 a ha; omega) (by have := HA5.out.1 a ha; omega), by have := HA5.out.2; show (f.2.2[k]).2.length ≤ _; omega⟩) (by simp)).mono ?_
        rintro e w4 ⟨u4, rfl, hf4, hb4⟩
        rw [rnL_id] at hf4
        obtain ⟨a4, n4, c4, rfl⟩ := ex_slice hf4
        have HF4 := Lib.hid (hf4.mono (base' := wr.heap.size) (by simp; omega))
        have hb4' : Below wb.heap.size wb w4 := bthen (bthen bA bD) hb4
        have hz4 := hb4'.size
        replace z2 := (cellB hb4' (by omega)).trans z2
        replace z0 := (cellB hb4' (by omega)).trans z0
        replace z1 := (cellB hb4' (by omega)).trans z1
        replace x0 := (cellB hb4' (by omega)).trans x0
        replace x1 := (cellB hb4' (by omega)).trans x1
        replace zn1 := (frozenB hb4' (by omega)).trans zn1
        replace zn2 := (frozenB hb4' (by omega)).trans zn2
        clear hf4 hb4
        dsimp only
        refine hK.out _ _ ⟨z2, x0, x1⟩ (fun hHeld => ?_)
        clear hK K
        refine wpAnyT_last (i := 5) rfl (by kernel_rfl) (by kernel_rfl) (fun K hK => ?_)
        refine step_pushAll (E := opT) _ rfl _ _ 55 121 rfl elAtomS rfl (HBv.out.below (hbb.trans (hb4'.mono (by omega))) (Nat.le_refl _)) rfl HF4.out (by simp; omega) (by decide) hse (by omega) ?_
        intro v5 w5 hB5 hg5 _
        have hB5' : Bl opT 121 (w3.heap.size + 1) w5.heap.size w5 v5 (sl ++ [f.2.2[k]]) := hB5
        obtain ⟨a5, n5, c5, rfl⟩ := ex_slice (hB5'.fr (by rw [List.length_append]; unfold capMax; simp; omega))
        have HB5 := Lib.hid hB5'
        have hb5 : Below (w3.heap.size + 1) w4 w5 := (Below.refl _ w4).grown hg5 (by omega) (fun q hq => HBv.out.own hq)
        have hz5 := hb5.size
        replace z2 := (cellB hb5 (by omega)).trans z2
        replace z0 := (cellB hb5 (by omega)).trans z0
        replace z1 := (cellB hb5 (by omega)).trans z1
        replace zn1 := (frozenB hb5 (by omega)).trans zn1
        replace zn2 := (frozenB hb5 (by omega)).trans zn2
        clear hB5 hB5' hg5 x0 x1
        refine hK.out _ _ ?_
        clear hK K
        refine wpAnyT_any (i := 6) (v := ?_) rfl (by kernel_rfl) (fun _ _ _ h => h) (Or.inl ⟨by rfl, ?_⟩) (by first | exact fun _ => by assumption | (intro hp; exact absurd hp (by rw [show pastB _ _ = true by kernel_rfl]; simp))) ?_
        rotate_left
        · (intro w hSw; (try dsimp only at hSw); go_simp <;> with_reducible rfl)
        try simp only [Act.put]
        refine wpAnyT_last (i := 7) rfl (by kernel_rfl) (by kernel_rfl) (fun K hK => ?_)
        go_simp
        refine hK.out _ _ ?_
        clear hK K
        refine wpAnyT_done (by kernel_rfl) ?_ _
        go_simp
        go_wp2_with fail
        go_roundw
        case rel => exact ⟨k + 1, _, by omega, by go_num, by rw [size_set, HST.out]; exact HB5.out.sameB (fun q hq1 hq2 => Below.heap_setCell _ _ _ _ (by simp; omega)), World.cell?_setCell_same _ _ _ z2, (World.cell?_setCell_other _ _ _ _ (by simp)).trans z0, (World.cell?_setCell_other _ _ _ _ (by simp)).trans (by rw [HST.out]; exact z1), (World.frozen?_setCell _ _ _ _).trans zn1, (World.frozen?_setCell _ _ _ _).trans zn2, (hbe.trans ((hbb.mono (by omega)).trans ((hb4'.mono (by omega)).trans (hb5.mono (by omega))))).setCell (by simp) _, by rw [size_set]; omega⟩
        case measure => simp [intOf]; omega
    · obtain rfl : k = f.2.2.length := by omega
      have HGF : Hid (frmT.Fr (w3.heap.size + 1) wr [.int .i64 f.1, .int .i64 sv, .slice av0 nv0 cv0] (repF f kk g)) := by
        have h1 : repF f kk g = (f.1, sv, sl) := by rw [repF, HRS.out]
        unfold Hid
        rw [h1]
        exact fr_cons hIf (fr_cons (I64.small (by omega) (by omega)) (HBv.out.fr (by unfold capMax; omega)))
      have hl5 : w3.heap.size < wr.heap.size := by omega
      replace r0 := (cellB hbe (by omega)).trans r0
      replace r1 := (cellB hbe (by omega)).trans r1
      replace r2 := (cellB hbe (by omega)).trans r2
      replace m0 := (frozenB hbe (by omega)).trans m0
      replace m1 := (frozenB hbe (by omega)).trans m1
      replace m2 := (frozenB hbe (by omega)).trans m2
      clear HBv
      go_wp2_with fail
      refine (limited_any _ (cs := #[.int .i64 f.1, .int .i64 sv, .slice av0 nv0 cv0]) HGF.out (by omega)).mono ?_
      rintro e w7 ⟨cs7, rfl, hf7, hb7⟩
      obtain ⟨ad7, cap7, rfl⟩ := fr_trip hf7
      have HF7 := Lib.hid hf7
      have hz7 := hb7.size
      replace r0 := (cellB hb7 (by omega)).trans r0
      replace r1 := (cellB hb7 (by omega)).trans r1
      replace r2 := (cellB hb7 (by omega)).trans r2
      replace m0 := (frozenB hb7 (by omega)).trans m0
      replace m1 := (frozenB hb7 (by omega)).trans m1
      replace m2 := (frozenB hb7 (by omega)).trans m2
      clear hf7 z0 z1 z2 zn1 zn2
      obtain ⟨q0, q1, q2⟩ := set3_cells (x := .int .i64 (limV (repF f kk g)).1) (y := .int .i64 (limV (repF f kk g)).2.1) (z := .slice ad7 (limV (repF f kk g)).2.2.length cap7) r0 r1 r2
      have hl7 : w.heap.size + 3 < w7.heap.size := by omega
      go_wp2_with fail
      refine bodyPost_ret (v := .tuple #[.agg #[.int .i64 (limV (repF f kk g)).1, .int .i64 (limV (repF f kk g)).2.1, .slice ad7 (limV (repF f kk g)).2.2.length cap7], .int .i64 (limC (repF f kk g))]) (by simp [results, Try.results43, go_sem, q0, q1, q2]) rfl ⟨[.int .i64 (limV (repF f kk g)).1, .int .i64 (limV (repF f kk g)).2.1, .slice ad7 (limV (repF f kk g)).2.2.length cap7], by rw [HR.out.2], ?_, ?_⟩
      · rw [HR.out.1]
        exact (HF7.out.set3 (by omega)).mono (by omega)
      · exact set3_below (bthen hbw hb7) (by omega)
end Go.Proofs.Ytigclobkmocfkaa
