/-
Contracts: a polymorphism with given values, the reference's.
Contracts: a polymorphism with given values, the reference's, whole.
Plain: how great an operation with given values is.
Contracts: the relation of all tuples for which something is so.
Contracts: the lists of the values of tuples at all places, both sides.
Contracts: the code of tuples of which there may be a hull, both sides.
Some rows of new data that now stand in a newer row: it is new data, too. No program is named here.
The hull of tuples: what it is; the relation of all tuples; contracts: the reference's hull.
-/
import Derived.Test.YtccobadobklbpaaQBB
import Derived.Test.YtccobadobklbpaaQAE
import Derived.Test.YtccobadobklbpaaQAC
namespace Go.Proofs.Ytccobadobklbpaa
open Go.RowKit Go.Sort
noncomputable def lwV (t : Tpl) (ar : Int) (ls : List (List Int)) (vs : List Int) : Int × List Int := match wF t ar ls vs, limF t ar.toNat with
  | none, _ => (0, [])
  | some _, true => (0, [])
  | some f, false => foV ar (polyF t ar f fun _ => -1)
noncomputable def lwC (t : Tpl) (ar : Int) (ls : List (List Int)) (vs : List Int) : Int := match wF t ar ls vs, limF t ar.toNat with
  | none, _ => 4
  | some _, true => 3
  | some f, false => foC (polyF t ar f fun _ => -1)
section
variable {t : Tpl} {ar : Int} {ls : List (List Int)} {vs f : List Int}
theorem lw_none (h : wF t ar ls vs = none) : lwV t ar ls vs = (0, []) ∧ lwC t ar ls vs = 4 := by simp [lwV, lwC, h]
theorem lw_lim (h : wF t ar ls vs = some f) (h1 : limF t ar.toNat = true) : lwV t ar ls vs = (0, []) ∧ lwC t ar ls vs = 3 := by simp [lwV, lwC, h, h1]
theorem lw_fo (h : wF t ar ls vs = some f) (h1 : limF t ar.toNat = false) : lwV t ar ls vs = foV ar (polyF t ar f fun _ => -1) ∧ lwC t ar ls vs = foC (polyF t ar f fun _ => -1) := by simp [lwV, lwC, h, h1]
theorem lw_ph (h1 : limF t ar.toNat = false) : lwV t ar ls vs = phV t ar ls vs ∧ lwC t ar ls vs = phC t ar ls vs := by
  unfold phV phC
  cases h : wF t ar ls vs with
  | none => exact lw_none h
  | some f => exact lw_fo h h1
theorem pw_lw (h : askC t ar = 0) (h1 : wOk t ar ls vs = true) : pwV t ar ls vs = lwV t ar ls vs ∧ pwC t ar ls vs = lwC t ar ls vs := by
  cases h3 : limF t ar.toNat
  · rw [(lw_ph h3).1, (lw_ph h3).2]
    exact pw_ph h h1 h3
  · cases h2 : wF t ar ls vs with
    | none => rw [(lw_none h2).1, (lw_none h2).2]; exact pw_st h h1 h2
    | some f => rw [(lw_lim h2 h3).1, (lw_lim h2 h3).2]; exact pw_lim h h1 h2 h3
end
theorem telK_len {s : Int} {ls : List (List Int)} {vs f g : List Int} : ∀ {k : Nat}, telK s ls vs f k = some g → g.length = f.length := by
  intro k
  induction k generalizing g with
  | zero => intro h; cases h; rfl
  | succ k ih =>
    intro h
    cases h0 : telK s ls vs f k with
    | none => rw [telK_none h0 (Nat.le_succ k)] at h; cases h
    | some q =>
      have h' : tellAt s (ls.getD k []) (vs.getD k 0) q = some g := by
        have h9 : (telK s ls vs f k).bind (tellAt s (ls.getD k []) (vs.getD k 0)) = some g := h
        rw [h0] at h9
        exact h9
      unfold tellAt at h'
      split at h'
      · cases h'
      · cases h'; rw [List.length_set]; exact ih h0
theorem fo_0 {ar : Int} {R : FR} (h : R.1 = 0) : foV ar R = (0, []) ∧ foC R = 6 := by simp [foV, foC, h]
theorem fo_7 {ar : Int} {R : FR} (h : R.1 = 7) : foV ar R = (0, []) ∧ foC R = 7 := by simp [foV, foC, h]
theorem fo_m {ar : Int} {R : FR} {st : Nat} {x : List Int} (h : R = (-1, st, [x])) : foV ar R = (ar, x) ∧ foC R = 0 := by simp [foV, foC, h]
set_option maxHeartbeats 6400000 in
set_option maxRecDepth 100000 in
theorem l04With_any (w : World) {vt v v' : Value} {t : Tpl} {ls : List (List Int)} {vs : List Int} (hPt : tplT.Pt w vt t) (hl : rowsT.Rd w [v] ls) (hv : intsT.Rd w [v'] vs) {ar : Int} (hT : tplOk t) (har : 1 ≤ ar ∧ ar ≤ 3) (hin : ∀ l ∈ ls, (l.length : Int) = ar ∧ ∀ a ∈ l, 0 ≤ a ∧ a ≤ t.1 - 1) (hlen : ls.length = vs.length) (hvs : ∀ a ∈ vs, 0 ≤ a ∧ a ≤ t.1 - 1) (hL : ls.length ≤ 140737488351232) :
    Calls Try.prog 46 #[vt, .int .i64 ar, v, v'] w (RetAC opT w (lwV t ar ls vs) (lwC t ar ls vs)) := by
  have HPT := Lib.hid hPt
  have HL := Lib.hid hl
  have HV := Lib.hid hv
  have HIN := Lib.hid hin
  have HVS := Lib.hid hvs
  have HLEN := Lib.hid hlen
  have HTT := Lib.hid hT
  have hs4 := hT.1
  unfold sizeOk at hs4
  obtain ⟨tq, tf, ra, rc, rfl, htq, -, p0, p1, -⟩ := pt_pair hPt
  obtain ⟨la, lc, rfl⟩ := rd_slice hl
  obtain ⟨va, vc, rfl⟩ := rd_slice hv
  have hN := tabL_of (ar := ar) hT
  have HNN := Lib.hid hN
  have hNb := tabN_bd (tabN_of hT.1 (ar := ar.toNat) (by omega) hN)
  have c0 : ∀ o, (w.alloc o).cell? ⟨tq, tf, none⟩ = some (.int .i64 t.1) := fun o => (cellB bA htq).trans p0
  have hix : ∀ l ∈ ls, l.length ≤ 3 ∧ (∀ a ∈ l, 0 ≤ a ∧ a ≤ t.1 - 1) ∧ idxL t.1 0 l < (tabL t ar : Int) := fun l hl => by
    obtain ⟨h1, h2⟩ := HIN.out l hl
    refine ⟨by omega, h2, ?_⟩
    have h3 := (idx_bd (by omega) h2 l.length (Nat.le_refl _)).2
    rw [List.take_length] at h3
    have h4 := HNN.out
    have h5 : ar.toNat = l.length := by omega
    rw [h5] at h4
    omega
  have HIX := Lib.hid hix
  have HWF : Hid (telK t.1 ls vs (List.replicate (tabL t ar) (-1)) ls.length = wF t ar ls vs) := rfl
  have HPTN : Hid (tplT.Pt w (.pointer (some ⟨tq, tf, none⟩)) t) := HPT.out
  clear hPt hl hv hin hvs hlen hT hN hix HPT
  go_enter Try.func46, Try.ntmps46
  go_wp2_with fail
  refine (l01Power_any _ t.1 ar (by omega) (by omega) (by omega)).mono ?_
  rintro e _ ⟨rfl, rfl⟩
  rw [HNN.out]
  obtain ⟨N, hNe⟩ : ∃ N, tabL t ar = N := ⟨_, rfl⟩
  rw [hNe] at HIX HWF hNb ⊢
  have HNE := Lib.hid hNe
  clear hNe HNN
  generalize hW : World.alloc w _ = W
  have hbW : Below w.heap.size w W := hW ▸ bA
  have hsW : w.heap.size + 1 ≤ W.heap.size := by rw [← hW]; simp
  have r0 : W.cell? ⟨w.heap.size, 0, none⟩ = some (.int .i64 0) := by rw [← hW]; simp [go_sem]
  have r1 : W.cell? ⟨w.heap.size, 1, none⟩ = some (.slice none 0 0) := by rw [← hW]; simp [go_sem]
  have q0 : W.frozen? ⟨w.heap.size, 0, none⟩ = false := by rw [← hW]; simp [go_sem]
  have q1 : W.frozen? ⟨w.heap.size, 1, none⟩ = false := by rw [← hW]; simp [go_sem]
  clear hW c0
  go_wp2_with (refine wpList_mkI _ rfl _ _ 26 2 rfl Try.underlying26 infoInt W.heap.size N rfl rfl (by omega) (by decide) (by simp) ?_; intro w1 hA hg1 hs1)
  have hb1 := below_of_grown hg1
  have hB1 := bthen hbW hb1
  replace r0 := (cellB hb1 (by omega)).trans r0
  replace r1 := (cellB hb1 (by omega)).trans r1
  replace q0 := (frozenB hb1 (by omega)).trans q0
  replace q1 := (frozenB hb1 (by omega)).trans q1
  have HA := Lib.hid (minus_zero (N := N) ▸ hA)
  obtain ⟨fb, hfb⟩ : ∃ fb, W.heap.size = fb := ⟨_, rfl⟩
  rw [hfb] at HA hs1 ⊢
  clear hA hg1
  go_loopw [11] (fun i wr => ∃ j : Nat, j ≤ N ∧ i = .int .i64 j ∧ IR 2 fb wr fb N N (minus j N) ∧ TchP (fun k => k = fb) w1 wr) (fun i _ => N - (intOf i).toNat)
  case atStart => exact ⟨0, Nat.zero_le _, rfl, HA.out, TchP.refl _ _⟩
  case round =>
    obtain ⟨j, hj, rfl, hif, htc⟩ := hrel
    have HIF := Lib.hid hif
    have hzr := htc.size
    by_cases hjl : j < N
    · obtain ⟨fu, f0⟩ := hif.cell hjl
      have f1 := hif.free j
      have HSF := Lib.hid (hif.set j (a := -1) (I64.small (by omega) (by omega)))
      have HMS := Lib.hid (minus_set hjl)
      have htc2 : TchP (fun k => k = fb) w1 (wr.setCell ⟨fb, j, none⟩ (.int .i64 (-1))) := htc.then (TchP.set (O := fun k => k = fb) rfl) (fun q _ h => h)
      clear hif HA
      go_wp2_with fail
      go_roundw
      case rel => exact ⟨j + 1, by omega, by go_num, by rw [← HMS.out]; exact HSF.out, htc2⟩
      case measure => simp [intOf]; omega
    · obtain rfl : N = j := by omega
      obtain ⟨wd, rfl⟩ : ∃ wd : World, wd = wr := ⟨_, rfl⟩
      rw [minus_full] at hif
      have HI0 := Lib.hid hif
      have hbd : Below W.heap.size W wd := hb1.trans (htc.below (by omega) (fun k hk h => by omega))
      have hBd := bthen hbW hbd
      have c0 := (cellB hBd htq).trans p0
      replace r0 := (htc.cell (i := 0) (by omega) (by omega)).trans r0
      replace r1 := (htc.cell (i := 1) (by omega) (by omega)).trans r1
      replace q0 := (htc.frozen (i := 0) (by omega) (by omega)).trans q0
      replace q1 := (htc.frozen (i := 1) (by omega) (by omega)).trans q1
      have hfl := hif.lt
      have hl1 : w.heap.size + 1 ≤ wd.heap.size := by omega
      have hfw : w.heap.size + 1 ≤ fb := by omega
      clear hif HA HIF htc hzr hb1 hB1 hs1 hbd
      go_wp2_with fail
      go_loopw [12] (fun i wr => ∃ (k : Nat) (f : List Int), k ≤ ls.length ∧ i = .int .i64 k ∧ telK t.1 ls vs (List.replicate N (-1)) k = some f ∧ IR 2 fb wr fb N N f ∧ TchP (fun q => q = fb) wd wr) (fun i _ => ls.length - (intOf i).toNat)
      case atStart => exact ⟨0, _, Nat.zero_le _, rfl, rfl, HI0.out, TchP.refl _ _⟩
      case round =>
        obtain ⟨k, f, hk, rfl, htk, hIf, ht⟩ := hrel
        have HTK := Lib.hid htk
        have HIF := Lib.hid hIf
        have HT := Lib.hid ht
        obtain ⟨hfl2, hfb2⟩ := telK_ok htk (fun a ha => by rw [List.eq_of_mem_replicate ha]; omega) HVS.out hs4.1
        have HFB := Lib.hid hfb2
        have hfN : f.length = N := hIf.1
        have hzr := ht.size
        have hBr : Below w.heap.size w wr := hBd.trans (ht.below (by omega) (fun k hk h => by omega))
        obtain ⟨wv, rfl⟩ : ∃ wv : World, wv = wr := ⟨_, rfl⟩
        have x0 := (ht.cell (i := 0) (by omega) (by omega)).trans r0
        have x1 := (ht.cell (i := 1) (by omega) (by omega)).trans r1
        have y0 := (ht.frozen (i := 0) (by omega) (by omega)).trans q0
        have y1 := (ht.frozen (i := 1) (by omega) (by omega)).trans q1
        have ct := (cellB hBr htq).trans p0
        have htv : tq < wv.heap.size := by omega
        clear htk hIf ht hfb2 hfl2
        by_cases hkl : k < ls.length
        · have hkv : k < vs.length := by rw [← HLEN.out]; exact hkl
          obtain ⟨_, _, hx, -, -, hxe⟩ := slice_exP ((rd_rdP HL.out).below hBr)
          simp only [List.cons.injEq, Value.slice.injEq, and_true] at hx
          obtain ⟨rfl, -, rfl⟩ := hx
          obtain ⟨lb, lo, rfl, hlb, -, hce⟩ := hxe (by omega)
          obtain ⟨cs, hcs, hcell⟩ := hce k hkl
          obtain ⟨ka, kc, rfl, -, -, -⟩ := slice_exP hcs
          have d0 : wv.cell? ⟨lb, lo + k, none⟩ = some (.slice ka ls[k].length kc) := by
            have := hcell 0 (by simp)
            simpa [Ty.slice] using this
          obtain ⟨_, _, hx, -, -, hxe'⟩ := slice_exP ((rd_rdP HV.out).below hBr)
          simp only [List.cons.injEq, Value.slice.injEq, and_true] at hx
          obtain ⟨rfl, -, rfl⟩ := hx
          obtain ⟨vb, vo, rfl, hvb, hvg, hce'⟩ := hxe' (by omega)
          obtain ⟨cs', ⟨fp', ⟨rfl, hIv, -⟩, -⟩, hcell'⟩ := hce' k hkv
          have d1 : wv.cell? ⟨vb, vo + k, none⟩ = some (.int .i64 vs[k]) := by
            have := hcell' 0 (by simp)
            simpa [Ty.int] using this
          obtain ⟨i1, i2, i3⟩ := HIX.out ls[k] (List.getElem_mem hkl)
          have HRD := Lib.hid hcs.rd
          have hi0 := (idx_bd hs4.1 i2 ls[k].length (Nat.le_refl _)).1
          rw [List.take_length] at hi0
          have HI2 := Lib.hid i2
          have HYES := Lib.hid (fun h => telK_yes (s := t.1) HTK.out hkl hkv h)
          have HNO := Lib.hid (fun h => telK_no (s := t.1) HTK.out hkl hkv h)
          have hvk := HVS.out vs[k] (List.getElem_mem hkv)
          rw [HLEN.out] at *
          clear hxe hce hcell hxe' hce' hcell' hcs i2
          obtain ⟨q, hq⟩ : ∃ q : Nat, idxL t.1 0 ls[k] = q := ⟨_, (Int.toNat_of_nonneg hi0).symm⟩
          have cC : ∀ n, Calls Try.prog 74 #[.int .i64 t.1, .slice ka ls[k].length kc] (wv.drewN n) fun e w'' => e = .returned (.int .i64 q) ∧ ∃ m, w'' = wv.drewN m := fun n => by
            have := pure_drawn (l01Code_any (wv.drewN n) t.1 (HRD.out.below (Quiet.drewN wv n).below) (by omega) (by omega) (by omega) HI2.out)
            rw [hq] at this
            exact this
          rw [hq] at i3 HYES HNO
          have hqN : q < N := by omega
          have hqf : q < f.length := by omega
          have dq : wv.cell? ⟨fb, q, none⟩ = some (.int .i64 f[q]) := by
            rw [World.ownsRow.cellAt HIF.out.2.2.2 q (by omega), List.getElem?_map, List.getElem?_eq_getElem hqf]
            rfl
          have fq := HIF.out.free q
          have hgd : f.getD q 0 = f[q] := by rw [List.getD_eq_getElem?_getD, List.getElem?_eq_getElem hqf]; rfl
          rw [Int.toNat_natCast, hgd] at HYES HNO
          have hgl := HIF.out.lt
          generalize hfq : f[q] = y at *
          generalize hvq : vs[k] = z at *
          clear hq hgd hfq hvq hi0
          go_wp2_with fail
          go_quiet (exact cC _)
          clear cC
          generalize hX : wv.drewN _ = wx
          have hbx : Below wv.heap.size wv wx := hX ▸ (Quiet.drewN wv _).below
          have hzx := hbx.size
          clear hX
          replace d0 := (cellB hbx (by omega)).trans d0
          replace d1 := (cellB hbx (by omega)).trans d1
          replace dq := (cellB hbx (by omega)).trans dq
          replace ct := (cellB hbx (by omega)).trans ct
          replace x0 := (cellB hbx (by omega)).trans x0
          replace x1 := (cellB hbx (by omega)).trans x1
          replace fq := (frozenB hbx (by omega)).trans fq
          replace y0 := (frozenB hbx (by omega)).trans y0
          replace y1 := (frozenB hbx (by omega)).trans y1
          have hBx := bthen hBr hbx
          have HIX2 : Hid (IR 2 fb wx fb N N f) := HIF.out.same (hbx.block fb hgl)
          have HTX : Hid (TchP (fun q => q = fb) wd wx) := HT.out.then (TchP.of_below hbx (fun q => q = fb)) (fun q _ h => h)
          have hgx : fb < wx.heap.size := by omega
          have hvx : vb < wx.heap.size := by omega
          clear HIF HT hlb hvb hgl htv
          go_wp2_with fail
          cases hd : decide (0 ≤ y)
          · have HE := Lib.hid (HYES.out (by rw [hd]; rfl))
            go_quiet (fail)
            generalize hX : wx.drewN _ = wy
            have hby : Below wx.heap.size wx wy := hX ▸ (Quiet.drewN wx _).below
            clear hX
            replace d1 := (cellB hby (by omega)).trans d1
            replace x0 := (cellB hby (by omega)).trans x0
            replace x1 := (cellB hby (by omega)).trans x1
            replace fq := (frozenB hby (by omega)).trans fq
            replace y0 := (frozenB hby (by omega)).trans y0
            replace y1 := (frozenB hby (by omega)).trans y1
            replace dq := (cellB hby hgx).trans dq
            have HIY : Hid (IR 2 fb wy fb N N f) := HIX2.out.same (hby.block fb hgx)
            have HTY : Hid (TchP (fun q => q = fb) wd wy) := HTX.out.then (TchP.of_below hby (fun q => q = fb)) (fun q _ h => h)
            have hgy : fb < wy.heap.size := Nat.lt_of_lt_of_le hgx hby.size
            go_wp2_with fail
            go_roundw
            case rel => exact ⟨k + 1, f.set q z, by omega, by go_num, HE.out, HIY.out.set q hIv, HTY.out.then (TchP.set (O := fun q => q = fb) rfl) (fun q _ h => h)⟩
            case measure => simp [intOf]; omega
          · cases hn : (y != z)
            · have HE := Lib.hid (HYES.out (by rw [hd, hn]; rfl))
              go_quiet (fail)
              generalize hX : wx.drewN _ = wy
              have hby : Below wx.heap.size wx wy := hX ▸ (Quiet.drewN wx _).below
              clear hX
              replace d1 := (cellB hby (by omega)).trans d1
              replace x0 := (cellB hby (by omega)).trans x0
              replace x1 := (cellB hby (by omega)).trans x1
              replace fq := (frozenB hby (by omega)).trans fq
              replace y0 := (frozenB hby (by omega)).trans y0
              replace y1 := (frozenB hby (by omega)).trans y1
              replace dq := (cellB hby hgx).trans dq
              have HIY : Hid (IR 2 fb wy fb N N f) := HIX2.out.same (hby.block fb hgx)
              have HTY : Hid (TchP (fun q => q = fb) wd wy) := HTX.out.then (TchP.of_below hby (fun q => q = fb)) (fun q _ h => h)
              have hgy : fb < wy.heap.size := Nat.lt_of_lt_of_le hgx hby.size
              go_wp2_with fail
              go_roundw
              case rel => exact ⟨k + 1, f.set q z, by omega, by go_num, HE.out, HIY.out.set q hIv, HTY.out.then (TchP.set (O := fun q => q = fb) rfl) (fun q _ h => h)⟩
              case measure => simp [intOf]; omega
            · have HE := Lib.hid (HNO.out (by rw [hd, hn]; rfl))
              have hno : wF t ar ls vs = none := HWF.out.symm.trans (telK_none HE.out (by omega))
              have HR := Lib.hid (lw_none hno)
              clear hno
              go_quiet (fail)
              generalize hX : wx.drewN _ = wy
              have hby : Below wx.heap.size wx wy := hX ▸ (Quiet.drewN wx _).below
              clear hX
              replace x0 := (cellB hby (by omega)).trans x0
              replace x1 := (cellB hby (by omega)).trans x1
              replace y0 := (frozenB hby (by omega)).trans y0
              replace y1 := (frozenB hby (by omega)).trans y1
              have hBy := bthen hBx hby
              have hly : w.heap.size < wy.heap.size := by have := hby.size; omega
              have HZ0 := Lib.hid (fun (x y : Value) => res2_0 (x := x) (y := y) x0)
              have HZ1 := Lib.hid (fun (x y : Value) => res2_1 (x := x) (y := y) x1)
              go_wp2_with fail
              refine bodyPost_ret (v := .tuple #[.agg #[.int .i64 0, .slice none 0 0], .int .i64 4]) (by simp [results, Try.results46, go_sem, HZ0.out, HZ1.out]) rfl ⟨[.int .i64 0, .slice none 0 0], by rw [HR.out.2], ?_, res2_b hBy (by omega)⟩
              rw [HR.out.1]
              exact fr_op0
        · obtain rfl : k = ls.length := by omega
          have hnl : ¬ (ls.length < ls.length) := by omega
          have HW : Hid (wF t ar ls vs = some f) := HWF.out.symm.trans HTK.out
          have hgl := HIF.out.lt
          clear hBd c0 r0 r1 q0 q1 HI0 HT HIX ct htv hnl HWF HTK
          go_wp2_with fail
          refine (l04Begin_any _ (HPTN.out.below hBr) HTT.out har).mono ?_
          rintro e w4 ⟨hb4, hcase⟩
          have hB4 := bthen hBr hb4
          have hz4 := hb4.size
          replace x0 := (cellB hb4 (by omega)).trans x0
          replace x1 := (cellB hb4 (by omega)).trans x1
          replace y0 := (frozenB hb4 (by omega)).trans y0
          replace y1 := (frozenB hb4 (by omega)).trans y1
          have HIF4 : Hid (IR 2 fb w4 fb N N f) := HIF.out.same (hb4.block fb hgl)
          have hl4 : w.heap.size + 1 ≤ w4.heap.size := by omega
          clear HIF
          rcases hcase with ⟨hlm, rfl⟩ | ⟨hlm, br, gt, rfl, hbr, hgt, hne, hf4, hRu, hMc⟩
          · have HR := Lib.hid (lw_lim HW.out hlm)
            have HZ0 := Lib.hid (fun (x y : Value) => res2_0 (x := x) (y := y) x0)
            have HZ1 := Lib.hid (fun (x y : Value) => res2_1 (x := x) (y := y) x1)
            clear hlm
            go_wp2_with fail
            refine bodyPost_ret (v := .tuple #[.agg #[.int .i64 0, .slice none 0 0], .int .i64 3]) (by simp [results, Try.results46, go_sem, HZ0.out, HZ1.out]) rfl ⟨[.int .i64 0, .slice none 0 0], by rw [HR.out.2], ?_, res2_b hB4 (by omega)⟩
            rw [HR.out.1]
            exact fr_op0
          · have HR := Lib.hid (lw_fo HW.out hlm)
            have HLK := Lib.hid (tpl_looks HTT.out har hlm)
            rw [HNE.out] at hRu hMc HLK
            obtain ⟨v4, c4⟩ : ∃ v4, w4.cell? ⟨br, 4, none⟩ = some v4 := by
              obtain ⟨_, _, _, _, _, _, _, _, _, _, _, _, _, c4, -⟩ := hRu
              exact ⟨_, c4⟩
            have hfe : ∀ k : Nat, k = fb → k ≠ br ∧ k ≠ gt := fun k hk => by omega
            have hRF : intsT.RdP (fun k => k ≠ br ∧ k ≠ gt) w4 [.slice (some ⟨fb, 0, none⟩) N N] f := by
              obtain ⟨fp, h2, -, h3, -⟩ := HIF4.out.fr (by unfold capMax; omega)
              exact ⟨fp, h2, fun k hk => hfe k (IR.fp HIF4.out h2 k hk)⟩
            have HRU := Lib.hid (hRu.setF (fun h => h.1 rfl) hRF)
            have HMC : Hid (Mc 2 wv.heap.size (w4.setCell ⟨br, 4, none⟩ (.slice (some ⟨fb, 0, none⟩) N N)) br gt N (tabV N [] (-1)) 0 false) := by
              rw [← tabV_start (by omega)]
              exact hMc.setF hne
            have HS : Hid (t.1 = (t.1.toNat : Int)) := by unfold Hid; omega
            have hbrl := hRu.1
            have hgtl := hMc.2.2.1.lt
            have HFXL : Hid (f.length = N) := hfN
            have HFS : Hid (∀ i, f.getD i 0 < (t.1.toNat : Int)) := fun i => by
              rw [List.getD_eq_getElem?_getD]
              cases h3 : f[i]? with
              | none => simp; omega
              | some b => have := (HFB.out b (List.mem_of_getElem? h3)).2; simp; omega
            have HP : Hid (∀ yc, upF t.1.toNat (goesF t (duesF (looksA t ar.toNat) N)) f yc N 0 [] (-1) (0, 0, []) = polyF t ar f yc) := fun yc => by
              have h := up_all (s := t.1.toNat) (okT := goesF t (duesF (looksA t ar.toNat) N)) (fx := f) (yc := yc) (N := N) (r := (0, 0, [])) (by omega)
              rw [h]
              unfold polyF okF
              rw [HNE.out]
            have HNEE := Lib.hid hne
            clear hRu hMc hRF hlm
            go_wp2_with fail
            have hB5 : Below w.heap.size w (w4.setCell ⟨br, 4, none⟩ (.slice (some ⟨fb, 0, none⟩) N N)) := hB4.trans ((TchP.set (O := fun k => k = br) rfl).below (by omega) (fun k hk h => by omega))
            have s0 := (World.cell?_setCell_other w4 ⟨br, 4, none⟩ ⟨w.heap.size, 0, none⟩ (.slice (some ⟨fb, 0, none⟩) N N) (by simp)).trans x0
            have s1 := (World.cell?_setCell_other w4 ⟨br, 4, none⟩ ⟨w.heap.size, 1, none⟩ (.slice (some ⟨fb, 0, none⟩) N N) (by simp)).trans x1
            have t0 := (World.frozen?_setCell w4 ⟨br, 4, none⟩ ⟨w.heap.size, 0, none⟩ (.slice (some ⟨fb, 0, none⟩) N N)).trans y0
            have t1 := (World.frozen?_setCell w4 ⟨br, 4, none⟩ ⟨w.heap.size, 1, none⟩ (.slice (some ⟨fb, 0, none⟩) N N)).trans y1
            have hz5 : (w4.setCell ⟨br, 4, none⟩ (.slice (some ⟨fb, 0, none⟩) N N)).heap.size = w4.heap.size := by simp [World.setCell]
            generalize w4.setCell ⟨br, 4, none⟩ (.slice (some ⟨fb, 0, none⟩) N N) = w5 at *
            clear x0 x1 y0 y1 c4 hf4
            refine (next_any w5 HRU.out HMC.out (fun k hk => hk) HNEE.out HTT.out HS.out (by omega) HLK.out.2.1 HLK.out.1 HLK.out.2.2 HFXL.out HFS.out preOk_nil (.inl rfl) (by show 0 < N; omega) (by omega) (fun _ => rfl) (fun h => by cases h)).mono ?_
            rintro e w6 ⟨more, bad, rfl, hRu6, htc6, hcase⟩
            have hz6 := htc6.size
            have hB6 : Below w.heap.size w w6 := hB5.trans (htc6.below (by omega) (fun q hq h => by omega))
            replace s0 := (htc6.cell (i := 0) (by omega) (by omega)).trans s0
            replace s1 := (htc6.cell (i := 1) (by omega) (by omega)).trans s1
            replace t0 := (htc6.frozen (i := 0) (by omega) (by omega)).trans t0
            replace t1 := (htc6.frozen (i := 1) (by omega) (by omega)).trans t1
            have hl6 : w.heap.size < w6.heap.size := by omega
            have HZ0 := Lib.hid (fun (x y : Value) => res2_0 (x := x) (y := y) s0)
            have HZ1 := Lib.hid (fun (x y : Value) => res2_1 (x := x) (y := y) s1)
            have hbr6 : br < w6.heap.size := by omega
            obtain ⟨_, _, _, _, _, _, _, _, _, _, b1, -⟩ := hRu6
            clear htc6
            rcases hcase with ⟨rfl, rfl, st', hu⟩ | ⟨rfl, rfl, hu⟩ | ⟨rfl, rfl, pre', v, st', hpl', hpo', hco', hMc', hst1, hst2, hu⟩
            · have hE := (HP.out (fun _ => -1)).symm.trans (hu (fun _ => -1) [])
              have HF := Lib.hid (fo_0 (ar := ar) (R := polyF t ar f fun _ => -1) (by rw [hE]))
              clear hu hE
              go_wp2_with fail
              refine bodyPost_ret (v := .tuple #[.agg #[.int .i64 0, .slice none 0 0], .int .i64 6]) (by simp [results, Try.results46, go_sem, HZ0.out, HZ1.out]) rfl ⟨[.int .i64 0, .slice none 0 0], by rw [HR.out.2, HF.out.2], ?_, res2_b hB6 (by omega)⟩
              rw [HR.out.1, HF.out.1]
              exact fr_op0
            · have hE := (HP.out (fun _ => -1)).symm.trans (hu (fun _ => -1) [])
              have HF := Lib.hid (fo_7 (ar := ar) (R := polyF t ar f fun _ => -1) (by rw [hE]))
              clear hu hE
              go_wp2_with fail
              refine bodyPost_ret (v := .tuple #[.agg #[.int .i64 0, .slice none 0 0], .int .i64 7]) (by simp [results, Try.results46, go_sem, HZ0.out, HZ1.out]) rfl ⟨[.int .i64 0, .slice none 0 0], by rw [HR.out.2, HF.out.2], ?_, res2_b hB6 (by omega)⟩
              rw [HR.out.1, HF.out.1]
              exact fr_op0
            · have hE := (HP.out (fun _ => -1)).symm.trans ((hu (fun _ => -1) []).trans (cont_no (by decide)))
              have HF := Lib.hid (fo_m (ar := ar) (R := polyF t ar f fun _ => -1) (st := st') (x := pre' ++ [(v : Int)]) (by rw [hE]; rfl))
              obtain ⟨-, b5, hIT, -, -, -, -⟩ := hMc'
              have HRT := Lib.hid (hIT.fr (by unfold capMax; omega)).rd
              have htl : (pre' ++ [(v : Int)]).length ≤ 1000000 := by rw [List.length_append, List.length_singleton]; omega
              clear hu hE hIT hpo' hco'
              go_wp2_with fail
              refine (op_any w6 hbr6 b1 b5 HRT.out htl).mono ?_
              rintro e w7 ⟨u, rfl, hf7, hb7⟩
              obtain ⟨ua, un, uc, rfl⟩ := ex_slice hf7
              have HF7 := Lib.hid hf7
              have hB7 := bthen hB6 hb7
              have hz7 := hb7.size
              replace s0 := (cellB hb7 (by omega)).trans s0
              replace s1 := (cellB hb7 (by omega)).trans s1
              replace t0 := (frozenB hb7 (by omega)).trans t0
              replace t1 := (frozenB hb7 (by omega)).trans t1
              have hl7 : w.heap.size < w7.heap.size := by omega
              replace HZ0 := Lib.hid (fun (x y : Value) => res2_0 (x := x) (y := y) s0)
              replace HZ1 := Lib.hid (fun (x y : Value) => res2_1 (x := x) (y := y) s1)
              clear hf7 b1 b5
              go_wp2_with fail
              refine bodyPost_ret (v := .tuple #[.agg #[.int .i64 ar, .slice ua un uc], .int .i64 0]) (by simp [results, Try.results46, go_sem, HZ0.out, HZ1.out]) rfl ⟨[.int .i64 ar, .slice ua un uc], by rw [HR.out.2, HF.out.2], ?_, res2_b hB7 (by omega)⟩
              rw [HR.out.1, HF.out.1]
              exact (fr_cons (I64.small (by omega) (by omega)) ((HF7.out.set (a := ⟨w.heap.size, 0, none⟩) (show w.heap.size < w6.heap.size by omega)).set (a := ⟨w.heap.size, 1, none⟩) (show w.heap.size < w6.heap.size by omega))).mono (by omega)
end Go.Proofs.Ytccobadobklbpaa
namespace Go.Proofs.Ytccobadobklbpaa
open Go.RowKit Go.Sort
/-- the first k lists and values may be told -/
def wUp (t : Tpl) (ar : Int) (ls : List (List Int)) (vs : List Int) (k : Nat) : Prop := ∀ j (h : j < ls.length) (h' : j < vs.length), j < k → tb (rowOk t.1 ar ls[j]) = true ∧ inB vs[j] 0 (t.1 - 1) = true
section
variable {t : Tpl} {ar : Int} {ls : List (List Int)} {vs : List Int}
theorem wUp_succ {k : Nat} (h : wUp t ar ls vs k) (hk : k < ls.length) (hv : k < vs.length) (h1 : tb (rowOk t.1 ar ls[k]) = true) (h2 : inB vs[k] 0 (t.1 - 1) = true) : wUp t ar ls vs (k + 1) := fun j hj hj' hl => by
  rcases Nat.lt_succ_iff_lt_or_eq.1 hl with hl | rfl
  · exact h j hj hj' hl
  · exact ⟨h1, h2⟩
theorem wOk_len (h : ls.length ≠ vs.length) : wOk t ar ls vs = false := wOk_no1 (tb_false fun h1 => h (by have := h1.1; omega))
theorem wOk_true (hl : ls.length = vs.length) (h : wUp t ar ls vs ls.length) : wOk t ar ls vs = true := by
  unfold wOk
  rw [Bool.and_eq_true, List.all_eq_true]
  refine ⟨tb_iff.2 ⟨by omega, fun a ha => ?_⟩, fun l hl2 => ?_⟩
  · obtain ⟨j, hj, rfl⟩ := List.getElem_of_mem ha
    exact inB_true.1 (h j (by omega) hj (by omega)).2
  · obtain ⟨j, hj, rfl⟩ := List.getElem_of_mem hl2
    exact (h j hj (by omega) hj).1
theorem wOk_no (_hl : ls.length = vs.length) {k : Nat} (hk : k < ls.length) (hv : k < vs.length) (h : tb (rowOk t.1 ar ls[k]) = false ∨ inB vs[k] 0 (t.1 - 1) = false) : wOk t ar ls vs = false := by
  cases hw : wOk t ar ls vs
  · rfl
  · obtain ⟨-, h2, h3⟩ := wOk_in hw
    rcases h with h | h
    · have h9 : tb (rowOk t.1 ar ls[k]) = true := tb_iff.2 (h2 _ (List.getElem_mem hk))
      rw [h9] at h; cases h
    · rw [inB_true.2 (h3 _ (List.getElem_mem hv))] at h; cases h
end
set_option maxHeartbeats 3200000 in
set_option maxRecDepth 100000 in
theorem specPolymorphismWith_any (w : World) {cs : Array Value} {t : Tpl} {v v' : Value} {ls : List (List Int)} {vs : List Int} (h : tplT.Rd w cs.toList t) (hl : rowsT.Rd w [v] ls) (hv : intsT.Rd w [v'] vs) {ar : Int} :
    Calls Try.prog 10 #[.agg cs, .int .i64 ar, v, v'] w (RetAC opT w (pwV t ar ls vs) (pwC t ar ls vs)) := by
  have p0 : tplT.Pt (w.alloc (.cells cs 35)) (.pointer (some ⟨w.heap.size, 0, none⟩)) t := pt_box h
  have hL : ls.length ≤ 140737488351232 := by
    obtain ⟨_, _, -, -, hc, -⟩ := slices_ex hl
    exact hc
  have HL := Lib.hid hl
  have HV := Lib.hid hv
  obtain ⟨v1, hv1, -, -⟩ := pair_ex h
  obtain rfl := agg_of hv1
  obtain ⟨la, lc, rfl⟩ := rd_slice hl
  obtain ⟨va, vc, rfl⟩ := rd_slice hv
  clear h hv1 hl hv
  go_enter Try.func10, Try.ntmps10
  go_wp2_with fail
  replace p0 : ∀ o, tplT.Pt (World.alloc (w.alloc (.cells #[.int .i64 t.1, v1] 35)) o) (.pointer (some ⟨w.heap.size, 0, none⟩)) t := fun o => p0.below bA
  generalize hW : World.alloc (World.alloc w _) _ = W
  have HP : Hid (tplT.Pt W (.pointer (some ⟨w.heap.size, 0, none⟩)) t) := hW ▸ p0 _
  have hbW : Below w.heap.size w W := hW ▸ bAA
  have hsW : w.heap.size + 2 ≤ W.heap.size := by rw [← hW]; simp
  have t0 : W.cell? ⟨w.heap.size, 0, none⟩ = some (.int .i64 t.1) := by rw [← hW]; simp [go_sem]
  have r0 : W.cell? ⟨w.heap.size + 1, 0, none⟩ = some (.int .i64 0) := by rw [← hW]; simp [go_sem]
  have r1 : W.cell? ⟨w.heap.size + 1, 1, none⟩ = some (.slice none 0 0) := by rw [← hW]; simp [go_sem]
  have q0 : W.frozen? ⟨w.heap.size + 1, 0, none⟩ = false := by rw [← hW]; simp [go_sem]
  have q1 : W.frozen? ⟨w.heap.size + 1, 1, none⟩ = false := by rw [← hW]; simp [go_sem]
  clear hW p0
  refine (l04Asked_any _ HP.out ar).mono ?_
  rintro e w1 ⟨rfl, hq1⟩
  have hb1 := hq1.below
  have hB1 := bthen hbW hb1
  have hz1 := hb1.size
  replace t0 := (cellB hb1 (by omega)).trans t0
  replace r0 := (cellB hb1 (by omega)).trans r0
  replace r1 := (cellB hb1 (by omega)).trans r1
  replace q0 := (frozenB hb1 (by omega)).trans q0
  replace q1 := (frozenB hb1 (by omega)).trans q1
  have hl1 : w.heap.size + 2 ≤ w1.heap.size := by omega
  replace HP := Lib.hid (HP.out.below hb1)
  clear hq1
  have HZ0 := Lib.hid (fun (x y : Value) => res2_0 (x := x) (y := y) r0)
  have HZ1 := Lib.hid (fun (x y : Value) => res2_1 (x := x) (y := y) r1)
  cases ha : (askC t ar != 0)
  · have ha0 : askC t ar = 0 := by simpa using ha
    have HAOK := Lib.hid (ask_ok ha0)
    have HA0 := Lib.hid ha0
    have har := (ask_ok ha0).2
    have hs4 := (ask_ok ha0).1.1
    unfold sizeOk at hs4
    rw [ha0]
    clear ha ha0
    cases hle : ((ls.length : Int) != (vs.length : Int))
    · have hlen : ls.length = vs.length := by have : (ls.length : Int) = vs.length := by simpa using hle
                                              omega
      have HLEN := Lib.hid hlen
      clear hlen
      clear HZ0 HZ1
      go_wp2_with fail
      go_loopw [11] (fun i wr => ∃ k : Nat, k ≤ ls.length ∧ i = .int .i64 k ∧ wUp t ar ls vs k ∧ Quiet w1 wr) (fun i _ => ls.length - (intOf i).toNat)
      case atStart => exact ⟨0, Nat.zero_le _, rfl, fun j _ _ h => by omega, (by first | exact Quiet.refl _ | exact Quiet.drewN _ _ | exact (Quiet.drewN _ _).then (Quiet.drewN _ _) | exact ((Quiet.drewN _ _).then (Quiet.drewN _ _)).then (Quiet.drewN _ _))⟩
      case round =>
        obtain ⟨k, hk, rfl, hup, hqw⟩ := hrel
        have hbr := hqw.below
        have hBr := bthen hB1 hbr
        have hzr := hbr.size
        have HUP := Lib.hid hup
        obtain ⟨wv, rfl⟩ : ∃ wv : World, wv = wr := ⟨_, rfl⟩
        have x0 := (cellB hbr (by omega)).trans r0
        have x1 := (cellB hbr (by omega)).trans r1
        have y0 := (frozenB hbr (by omega)).trans q0
        have y1 := (frozenB hbr (by omega)).trans q1
        have c0 := (cellB hbr (by omega)).trans t0
        have HQW := Lib.hid hqw
        clear hup hqw
        by_cases hkl : k < ls.length
        · have hkv : k < vs.length := by rw [← HLEN.out]; exact hkl
          obtain ⟨_, _, hx, -, -, hxe⟩ := slice_exP ((rd_rdP HL.out).below hBr)
          simp only [List.cons.injEq, Value.slice.injEq, and_true] at hx
          obtain ⟨rfl, -, rfl⟩ := hx
          obtain ⟨lb, lo, rfl, hlb, -, hce⟩ := hxe (by omega)
          obtain ⟨cs, hcs, hcell⟩ := hce k hkl
          obtain ⟨ka, kc, rfl, -, -, -⟩ := slice_exP hcs
          have d0 : wv.cell? ⟨lb, lo + k, none⟩ = some (.slice ka ls[k].length kc) := by
            have := hcell 0 (by simp)
            simpa [Ty.slice] using this
          obtain ⟨_, _, hx, -, -, hxe'⟩ := slice_exP ((rd_rdP HV.out).below hBr)
          simp only [List.cons.injEq, Value.slice.injEq, and_true] at hx
          obtain ⟨rfl, -, rfl⟩ := hx
          obtain ⟨vb, vo, rfl, hvb, hvg, hce'⟩ := hxe' (by omega)
          obtain ⟨cs', ⟨fp', ⟨rfl, hIv, -⟩, -⟩, hcell'⟩ := hce' k hkv
          have d1 : wv.cell? ⟨vb, vo + k, none⟩ = some (.int .i64 vs[k]) := by
            have := hcell' 0 (by simp)
            simpa [Ty.int] using this
          have HRD := Lib.hid hcs.rd
          have HSU := Lib.hid (wUp_succ HUP.out hkl hkv)
          have HNO := Lib.hid (fun h => wOk_no (t := t) (ar := ar) HLEN.out hkl hkv h)
          rw [HLEN.out] at *
          clear hxe hce hcell hxe' hce' hcell' hcs
          have cT : ∀ n, Calls Try.prog 44 #[.int .i64 t.1, .int .i64 ar, .slice ka ls[k].length kc] (wv.drewN n) fun e w'' => e = .returned (.bool (tb (rowOk t.1 ar ls[k]))) ∧ ∃ m, w'' = wv.drewN m := fun n => pure_drawn (l01Tuple_any _ _ _ (HRD.out.below (Quiet.drewN wv n).below) (by omega) (by omega))
          have cI : ∀ n, Calls Try.prog 45 #[.int .i64 vs[k], .int .i64 0, .int .i64 (t.1 - 1)] (wv.drewN n) fun e w'' => e = .returned (.bool (inB vs[k] 0 (t.1 - 1))) ∧ ∃ m, w'' = wv.drewN m := fun n => pure_drawn (l00In_any _ _ _ _)
          have hwr : IntKind.i64.wrap (t.1 - 1) = t.1 - 1 := wrap_small (by omega) (by omega)
          generalize h1 : tb (rowOk t.1 ar ls[k]) = B1 at *
          generalize h2 : inB vs[k] 0 (t.1 - 1) = B2 at *
          generalize hvk : vs[k] = z at *
          clear h1 h2 hvk
          cases B1
          · have HR := Lib.hid (pw_bad HA0.out (HNO.out (.inl rfl)))
            go_wp2_with fail
            go_quiet (first | exact cT _ | exact cI _)
            clear cT cI
            generalize hX : wv.drewN _ = wx
            have hbx : Below wv.heap.size wv wx := hX ▸ (Quiet.drewN wv _).below
            have hzx := hbx.size
            clear hX
            replace x0 := (cellB hbx (by omega)).trans x0
            replace x1 := (cellB hbx (by omega)).trans x1
            replace y0 := (frozenB hbx (by omega)).trans y0
            replace y1 := (frozenB hbx (by omega)).trans y1
            have hBx := bthen hBr hbx
            have HZ0 := Lib.hid (fun (x y : Value) => res2_0 (x := x) (y := y) x0)
            have HZ1 := Lib.hid (fun (x y : Value) => res2_1 (x := x) (y := y) x1)
            go_wp2_with fail
            refine bodyPost_ret (v := .tuple #[.agg #[.int .i64 0, .slice none 0 0], .int .i64 2]) (by simp [results, Try.results10, go_sem, HZ0.out, HZ1.out]) rfl ⟨[.int .i64 0, .slice none 0 0], by rw [HR.out.2], ?_, res2_b hBx (by omega)⟩
            rw [HR.out.1]
            exact fr_op0
          · cases B2
            · have HR := Lib.hid (pw_bad HA0.out (HNO.out (.inr rfl)))
              go_wp2_with fail
              go_quiet (first | exact cT _ | exact cI _)
              clear cT cI
              generalize hX : wv.drewN _ = wx
              have hbx : Below wv.heap.size wv wx := hX ▸ (Quiet.drewN wv _).below
              have hzx := hbx.size
              clear hX
              replace x0 := (cellB hbx (by omega)).trans x0
              replace x1 := (cellB hbx (by omega)).trans x1
              replace y0 := (frozenB hbx (by omega)).trans y0
              replace y1 := (frozenB hbx (by omega)).trans y1
              have hBx := bthen hBr hbx
              have HZ0 := Lib.hid (fun (x y : Value) => res2_0 (x := x) (y := y) x0)
              have HZ1 := Lib.hid (fun (x y : Value) => res2_1 (x := x) (y := y) x1)
              go_wp2_with fail
              refine bodyPost_ret (v := .tuple #[.agg #[.int .i64 0, .slice none 0 0], .int .i64 2]) (by simp [results, Try.results10, go_sem, HZ0.out, HZ1.out]) rfl ⟨[.int .i64 0, .slice none 0 0], by rw [HR.out.2], ?_, res2_b hBx (by omega)⟩
              rw [HR.out.1]
              exact fr_op0
            · have HE := Lib.hid (HSU.out rfl rfl)
              go_wp2_with fail
              go_quiet (first | exact cT _ | exact cI _)
              clear cT cI
              go_wp2_with fail
              go_roundw
              case rel => exact ⟨k + 1, by omega, by go_num, HE.out, HQW.out.then (by first | exact Quiet.refl _ | exact Quiet.drewN _ _ | exact (Quiet.drewN _ _).then (Quiet.drewN _ _) | exact ((Quiet.drewN _ _).then (Quiet.drewN _ _)).then (Quiet.drewN _ _))⟩
              case measure => simp [intOf]; omega
        · obtain rfl : k = ls.length := by omega
          have hnl : ¬ (ls.length < ls.length) := by omega
          have HOK := Lib.hid (wOk_true HLEN.out HUP.out)
          have HIN := Lib.hid (wOk_in HOK.out)
          have HPL := Lib.hid (pw_lw HA0.out HOK.out)
          clear r0 r1 q0 q1 t0 hle
          go_wp2_with fail
          refine (l04With_any _ (HP.out.below hbr) (HL.out.below hBr) (HV.out.below hBr) HAOK.out.1 har HIN.out.2.1 HIN.out.1 HIN.out.2.2 hL).mono ?_
          rintro e w7 ⟨cs7, rfl, hf7, hb7⟩
          rw [← HPL.out.1] at hf7
          rw [← HPL.out.2]
          generalize hV : pwV t ar ls vs = V at hf7
          generalize hC : pwC t ar ls vs = C
          have HCC := Lib.hid hC
          have HVV := Lib.hid hV
          obtain ⟨ad7, cap7, rfl⟩ := fr_pair hf7
          have HF7 := Lib.hid hf7
          have hB7 := bthen hBr hb7
          have hz7 := hb7.size
          replace x0 := (cellB hb7 (by omega)).trans x0
          replace x1 := (cellB hb7 (by omega)).trans x1
          replace y0 := (frozenB hb7 (by omega)).trans y0
          replace y1 := (frozenB hb7 (by omega)).trans y1
          have hl7 : w.heap.size + 2 ≤ w7.heap.size := by omega
          have HZ0 := Lib.hid (fun (x y : Value) => res2_0 (x := x) (y := y) x0)
          have HZ1 := Lib.hid (fun (x y : Value) => res2_1 (x := x) (y := y) x1)
          clear hf7 HPL hC hV
          go_wp2_with fail
          refine bodyPost_ret (v := .tuple #[.agg #[.int .i64 V.1, .slice ad7 V.2.length cap7], .int .i64 C]) (by simp [results, Try.results10, go_sem, HZ0.out, HZ1.out]) rfl ⟨[.int .i64 V.1, .slice ad7 V.2.length cap7], by rw [HCC.out], ?_, res2_b hB7 (by omega)⟩
          rw [HVV.out]
          exact ((HF7.out.set (a := ⟨w.heap.size + 1, 0, none⟩) (show w.heap.size + 1 < wv.heap.size by omega)).set (a := ⟨w.heap.size + 1, 1, none⟩) (show w.heap.size + 1 < wv.heap.size by omega)).mono (by omega)
    · have HR := Lib.hid (pw_bad (ar := ar) (vs := vs) HA0.out (wOk_len (fun h => by rw [h] at hle; simp at hle)))
      go_wp2_with fail
      refine bodyPost_ret (v := .tuple #[.agg #[.int .i64 0, .slice none 0 0], .int .i64 2]) (by simp [results, Try.results10, go_sem, HZ0.out, HZ1.out]) rfl ⟨[.int .i64 0, .slice none 0 0], by rw [HR.out.2], ?_, res2_b hB1 (by omega)⟩
      rw [HR.out.1]
      exact fr_op0
  · have HR := Lib.hid (pw_ask (t := t) (ar := ar) (ls := ls) (vs := vs) (by simpa using ha))
    generalize askC t ar = C at *
    go_wp2_with fail
    refine bodyPost_ret (v := .tuple #[.agg #[.int .i64 0, .slice none 0 0], .int .i64 C]) (by simp [results, Try.results10, go_sem, HZ0.out, HZ1.out]) rfl ⟨[.int .i64 0, .slice none 0 0], by rw [HR.out.2], ?_, res2_b hB1 (by omega)⟩
    rw [HR.out.1]
    exact fr_op0
end Go.Proofs.Ytccobadobklbpaa
namespace Go.Proofs.Ytccobadobklbpaa
open Go.RowKit Go.Sort
theorem getLastD_or {α : Type} (l : List α) (d : α) : l.getLastD d = d ∨ l.getLastD d ∈ l := by
  rcases List.eq_nil_or_concat l with rfl | ⟨l', a, rfl⟩
  · exact .inl rfl
  · right; rw [List.concat_eq_append, List.getLastD_concat]; simp
theorem fo_len {t : Tpl} {ar : Int} {f : List Int} : (foV ar (polyF t ar f fun _ => -1)).2.length ≤ tabL t ar := by
  unfold foV
  split
  · rcases getLastD_or (polyF t ar f fun _ => -1).2.2 [] with h | h
    · show ((polyF t ar f fun _ => -1).2.2.getLastD []).length ≤ _
      rw [h]; exact Nat.zero_le _
    · show ((polyF t ar f fun _ => -1).2.2.getLastD []).length ≤ _
      rcases srch_lens _ _ _ h with h2 | h2
      · cases h2
      · rw [h2]; simp
  · exact Nat.zero_le _
theorem pw_len {t : Tpl} {ar : Int} {ls : List (List Int)} {vs : List Int} : (pwV t ar ls vs).2.length ≤ 64 := by
  by_cases h1 : askC t ar = 0
  · cases h0 : wOk t ar ls vs
    · rw [(pw_bad h1 h0).1]; exact Nat.zero_le _
    · rw [(pw_lw h1 h0).1]
      cases hw : wF t ar ls vs with
      | none => rw [(lw_none hw).1]; exact Nat.zero_le _
      | some f =>
        cases h2 : limF t ar.toNat
        · rw [(lw_fo hw h2).1]
          obtain ⟨hT, har⟩ := ask_ok h1
          have hNb := tabN_bd (tabN_of hT.1 (ar := ar.toNat) (by omega) (tabL_of hT))
          exact Nat.le_trans fo_len hNb.2
        · rw [(lw_lim hw h2).1]; exact Nat.zero_le _
  · rw [(pw_ask h1).1]; exact Nat.zero_le _
theorem pw_cnt {t : Tpl} {ar : Int} {ls : List (List Int)} {vs : List Int} : cntOp (pwV t ar ls vs) ≤ 1000000 := by
  have := pw_len (t := t) (ar := ar) (ls := ls) (vs := vs)
  unfold cntOp cntI
  omega
end Go.Proofs.Ytccobadobklbpaa
namespace Go.Proofs.Ytccobadobklbpaa
open Go.RowKit Go.Sort
/-- the tuples for which it is so, of the first k ones -/
def relL (s : Int) (ar : Nat) (p : List Int → Bool) (k : Nat) : List (List Int) := ((List.range k).map fun i : Nat => digL s i ar).filter p
theorem relL_zero {s : Int} {ar : Nat} {p : List Int → Bool} : relL s ar p 0 = [] := by simp [relL]
theorem relL_yes {s : Int} {ar : Nat} {p : List Int → Bool} {k : Nat} (h : p (digL s k ar) = true) : relL s ar p k ++ [digL s k ar] = relL s ar p (k + 1) := by simp [relL, List.range_succ, h]
theorem relL_no {s : Int} {ar : Nat} {p : List Int → Bool} {k : Nat} (h : p (digL s k ar) = false) : relL s ar p k = relL s ar p (k + 1) := by simp [relL, List.range_succ, h]
theorem relL_len {s : Int} {ar : Nat} {p : List Int → Bool} {k : Nat} : (relL s ar p k).length ≤ k := by
  unfold relL
  exact Nat.le_trans (List.length_filter_le _ _) (by simp)
set_option maxHeartbeats 3200000 in
set_option maxRecDepth 100000 in
theorem relOf_any (w : World) (s : Int) (ar : Nat) (hs : 1 ≤ s ∧ s ≤ 4) (har : ar ≤ 4) (g : Nat) (caps : Array Value) (eg : ∀ args w, (callFunc g args).run Try.prog w = .ok (.enter g args) w) (p : List Int → Bool) (N : Nat) (hN : s ^ ar = N)
    (hto : Hid (∀ W u (k : Nat), Below w.heap.size w W → k < N → intsT.Rd W [u] (digL s k ar) → Calls Try.prog g (#[u] ++ caps) W fun e w' => e = .returned (.bool (p (digL s k ar))) ∧ Below W.heap.size W w')) :
    Calls Try.prog 133 #[.int .i64 s, .int .i64 ar, .func (.func g) #[] caps] w (RetA relT w ((ar : Int), relL s ar p N)) := by
  have hNle : N ≤ 1000000 := by
    have h1 : s ^ ar ≤ 1000000 := by
      refine Int.le_trans (pow_mono' (by omega) (show s ≤ 4 by omega) ar) ?_
      rcases (show ar = 0 ∨ ar = 1 ∨ ar = 2 ∨ ar = 3 ∨ ar = 4 by omega) with e | e | e | e | e <;> rw [e] <;> decide
    omega
  have HN : Hid (s ^ ((ar : Int)).toNat = N) := by unfold Hid; rw [Int.toNat_natCast]; exact hN
  clear hN
  go_enter Try.func133, Try.ntmps133
  go_wp2_with fail
  generalize hW : World.alloc _ _ = W
  have hbW : Below w.heap.size w W := hW ▸ bAA
  have hsW : W.heap.size = w.heap.size + 2 := by rw [← hW]; simp
  have r0 : W.cell? ⟨w.heap.size, 0, none⟩ = some (.int .i64 0) := by rw [← hW]; simp [go_sem]
  have r1 : W.cell? ⟨w.heap.size, 1, none⟩ = some (.slice none 0 0) := by rw [← hW]; simp [go_sem]
  have m0 : W.frozen? ⟨w.heap.size, 0, none⟩ = false := by rw [← hW]; simp [go_sem]
  have m1 : W.frozen? ⟨w.heap.size, 1, none⟩ = false := by rw [← hW]; simp [go_sem]
  have y0 : W.cell? ⟨w.heap.size + 1, 0, none⟩ = some (.int .i64 (ar : Int)) := by rw [← hW]; simp [go_sem]
  have y1 : W.cell? ⟨w.heap.size + 1, 1, none⟩ = some (.slice none 0 0) := by rw [← hW]; simp [go_sem]
  have n1 : W.frozen? ⟨w.heap.size + 1, 1, none⟩ = false := by rw [← hW]; simp [go_sem]
  clear hW
  refine (power_any _ s (ar : Int) (by omega) (by omega) (by omega)).mono ?_
  rintro e _ ⟨rfl, rfl⟩
  rw [HN.out]
  go_wp2_with fail
  go_loopw [15] (fun i wr => ∃ (k : Nat) (v : Value), k ≤ N ∧ i = .int .i64 k ∧ Bl intsT 26 (w.heap.size + 2) wr.heap.size wr v (relL s ar p k) ∧ wr.cell? ⟨w.heap.size + 1, 1, none⟩ = some v ∧ wr.cell? ⟨w.heap.size + 1, 0, none⟩ = some (.int .i64 (ar : Int)) ∧ wr.frozen? ⟨w.heap.size + 1, 1, none⟩ = false ∧ Below (w.heap.size + 1) W wr ∧ w.heap.size + 2 ≤ wr.heap.size) (fun i _ => N - (intOf i).toNat)
  case atStart => exact ⟨0, _, Nat.zero_le _, rfl, by rw [relL_zero]; simpa using Bl.nil, y1, y0, n1, Below.refl _ _, by omega⟩
  case round =>
    obtain ⟨k, v, hk, rfl, hBv, z1, z0, zn, hbe, hse⟩ := hrel
    have hlr := relL_len (s := s) (ar := ar) (p := p) (k := k)
    obtain ⟨av0, nv0, cv0, rfl⟩ := ex_slice (hBv.fr (by unfold capMax; omega))
    have HBv := Lib.hid hBv
    have hbw : Below w.heap.size w wr := hbW.trans (hbe.mono (by omega))
    clear hBv y0 y1 n1
    by_cases hkl : k < N
    · go_wp2_with fail
      refine (listOf_any _ s (k : Int) ar (by omega) (by omega) (by omega) (by omega) (by omega)).mono ?_
      rintro e w2 ⟨u, rfl, hf, hb2⟩
      obtain ⟨a2, n2, c2, rfl⟩ := ex_slice hf
      have HF := Lib.hid hf
      have hz2 := hb2.size
      replace z0 := (cellB hb2 (by omega)).trans z0
      replace z1 := (cellB hb2 (by omega)).trans z1
      replace zn := (frozenB hb2 (by omega)).trans zn
      clear hf
      go_wp2_with fail
      refine (hto.out _ _ k (bthen hbw hb2) hkl HF.out.rd).mono ?_
      rintro e w3 ⟨rfl, hb3⟩
      have hz3 := hb3.size
      replace z0 := (cellB hb3 (by omega)).trans z0
      replace z1 := (cellB hb3 (by omega)).trans z1
      replace zn := (frozenB hb3 (by omega)).trans zn
      have hb23 : Below wr.heap.size wr w3 := bthen hb2 hb3
      cases hp : p (digL s k ar)
      · have HNO := Lib.hid (relL_no hp)
        clear hp
        go_wp2_with fail
        go_roundw
        case rel => exact ⟨k + 1, _, by omega, by go_num, by rw [← HNO.out]; exact (HBv.out.below hb23 (Nat.le_refl _)).mono (by omega), z1, z0, zn, hbe.trans (hb23.mono (by omega)), by omega⟩
        case measure => simp [intOf]; omega
      · have HYES := Lib.hid (relL_yes hp)
        have HF3 := Lib.hid (HF.out.below hb3)
        clear hp
        go_wp2_with (refine wpList_push (E := intsT) _ rfl _ _ 25 26 rfl elInt64SS rfl (HBv.out.below (hb23.alloc hb23.size _) (Nat.le_refl _)) rfl news1 (HF3.out.below bA) (by omega) (by decide) hse (by first | (simp; done) | (simp; omega)) ?_; intro v5 w5 hB5 hg5 _; obtain ⟨a5, n5, c5, rfl⟩ := ex_slice (hB5.fr (by rw [List.length_append]; unfold capMax; simp only [List.length_singleton]; omega)); have hb5 : Below (w.heap.size + 2) w3 w5 := ((Below.refl _ w3).alloc (by omega) _).grown hg5 (by first | (simp; done) | (simp; omega)) (fun q hq => HBv.out.own hq); have i1 := (cellB hb5 (by omega)).trans z1; have i0 := (cellB hb5 (by omega)).trans z0; have i2 := (frozenB hb5 (by omega)).trans zn)
        have hz5 := hb5.size
        rw [HYES.out] at hB5
        have HB5 := Lib.hid hB5
        clear hB5 hg5
        go_wp2_with fail
        go_roundw
        case rel => exact ⟨k + 1, _, by omega, by go_num, by rw [size_set]; exact HB5.out.sameB (fun q hq1 hq2 => Below.heap_setCell _ _ _ _ (by simp; omega)), World.cell?_setCell_same _ _ _ i1, (World.cell?_setCell_other _ _ _ _ (by simp)).trans i0, (World.frozen?_setCell _ _ _ _).trans i2, (hbe.trans ((hb23.mono (by omega)).trans (hb5.mono (by omega)))).setCell (by simp) _, by rw [size_set]; omega⟩
        case measure => simp [intOf]; omega
    · obtain rfl : k = N := by omega
      have HFO := Lib.hid (HBv.out.fr (by unfold capMax; omega))
      replace r0 := (cellB hbe (by omega)).trans r0
      replace r1 := (cellB hbe (by omega)).trans r1
      replace m0 := (frozenB hbe (by omega)).trans m0
      replace m1 := (frozenB hbe (by omega)).trans m1
      obtain ⟨q0, q1⟩ := set2_cells (x := .int .i64 (ar : Int)) (y := .slice av0 nv0 cv0) r0 r1
      have hl1 : w.heap.size + 1 < wr.heap.size := by omega
      go_wp2_with fail
      refine bodyPost_ret (v := .agg #[.int .i64 (ar : Int), .slice av0 nv0 cv0]) (by simp [results, Try.results133, go_sem, q0, q1]) rfl ⟨[.int .i64 (ar : Int), .slice av0 nv0 cv0], rfl, ?_, ?_⟩
      · exact (fr_cons (I64.small (by omega) (by omega)) (fr_set2 HFO.out (by omega))).mono (by omega)
      · exact (hbw.setCell (by simp) _).setCell (by simp) _
end Go.Proofs.Ytccobadobklbpaa
namespace Go.Proofs.Ytccobadobklbpaa
open Go.RowKit Go.Sort
/-- the lists of the values of tuples at all places -/
def colsL (u : List (List Int)) (m : Nat) : List (List Int) := (List.range m).map fun p => colL u p
theorem colsL_succ {u : List (List Int)} {m : Nat} : colsL u m ++ [colL u m] = colsL u (m + 1) := by simp [colsL, List.range_succ]
theorem colsL_len {u : List (List Int)} {m : Nat} : (colsL u m).length = m := by simp [colsL]
theorem colL_step {u : List (List Int)} {p k : Nat} (h : k < u.length) (hp : p < (u[k]).length) : (colL u p).take k ++ [(u[k])[p]] = (colL u p).take (k + 1) := by
  have hk : k < (colL u p).length := by rw [colL_len]; exact h
  rw [List.take_succ_eq_append_getElem hk, colL_get h hp hk]
set_option maxHeartbeats 1600000 in
set_option maxRecDepth 100000 in
theorem columns_any (w : World) {v : Value} {u : List (List Int)} (h : rowsT.Rd w [v] u) {m : Nat} (h0 : 0 < u.length) (hL : u.length ≤ 1000) (hm : ∀ t ∈ u, t.length = m) (hm1 : m ≤ 1000) :
    Calls Try.prog 76 #[v] w (RetS rowsT w (colsL u m)) := by
  obtain ⟨la, lc, hv, -, -, hcell⟩ := slices_ex h
  obtain rfl : v = _ := by simpa using hv
  obtain ⟨b, o, rfl, hb, hce⟩ := hcell h0
  obtain ⟨u0, hu0, hc0⟩ := hce 0 h0
  obtain ⟨a0, k0, rfl⟩ := rd_slice hu0
  have hm0 : (u[0]).length = m := hm _ (List.getElem_mem h0)
  rw [hm0, Nat.add_zero] at hc0
  have HM := Lib.hid hm
  have HC := Lib.hid hce
  have e0 : ∀ x, (w.alloc x).cell? ⟨b, o, none⟩ = some (.slice a0 m k0) := fun x => (cellB bA hb).trans hc0
  clear h hv hcell hce hu0 hm0 hm
  go_enter Try.func76, Try.ntmps76
  go_wp2_with fail
  clear e0
  go_loopw [13, 3] (fun i o wr => ∃ p : Nat, p ≤ m ∧ i = .int .i64 p ∧ Bl intsT 26 w.heap.size wr.heap.size wr o (colsL u p) ∧ Below w.heap.size w wr) (fun i _ _ => m - (intOf i).toNat)
  case atStart => exact ⟨0, Nat.zero_le _, rfl, by simpa [colsL] using Bl.lit0 (E := intsT) (e := 26) (w := w) (Nat.le_refl _), bA⟩
  case round =>
    obtain ⟨p, hp, rfl, hBl, hbel⟩ := hrel
    have HB := Lib.hid hBl
    obtain ⟨wv, rfl⟩ : ∃ wv : World, wv = wr := ⟨_, rfl⟩
    have hze := hbel.size
    clear hBl
    by_cases hpl : p < m
    · go_wp2_with fail
      go_loopw [19, 5] (fun i c wr => ∃ k : Nat, k ≤ u.length ∧ i = .int .i64 k ∧ Bl Ty.int 2 wv.heap.size wr.heap.size wr c ((colL u p).take k) ∧ Below wv.heap.size wv wr) (fun i _ _ => u.length - (intOf i).toNat)
      case atStart => exact ⟨0, Nat.zero_le _, rfl, by simpa using Bl.lit0 (E := Ty.int) (e := 2) (w := wv) (Nat.le_refl _), bA⟩
      case round =>
        obtain ⟨k, hk, rfl, hBc, hbi⟩ := hrel
        have HBC := Lib.hid hBc
        have hzi := hbi.size
        have hBi := bthen hbel hbi
        clear hBc
        by_cases hkl : k < u.length
        · obtain ⟨uk, huk, hck⟩ := HC.out k hkl
          obtain ⟨ak, ck, hv2, -, -, hcl⟩ := ints_ex huk
          obtain rfl : uk = _ := by simpa using hv2
          have hmk : (u[k]).length = m := HM.out _ (List.getElem_mem hkl)
          obtain ⟨bk, ok, rfl, hbk, hcl⟩ := hcl (by omega)
          obtain ⟨hI, hcp⟩ := hcl p (by omega)
          have d0 := (cellB hBi hb).trans hck
          have d1 := (cellB hBi hbk).trans hcp
          have HST := Lib.hid (colL_step hkl (show p < (u[k]).length by omega))
          generalize hz : (u[k])[p] = z at *
          have hlk : ((colL u p).take k).length ≤ 1000 := by rw [List.length_take, colL_len]; omega
          rw [hmk] at d0
          clear hck hcp hcl huk hv2 hmk hz
          go_wp2_with (refine wpList_push (E := Ty.int) _ rfl _ _ 26 2 rfl elInt rfl (HBC.out.below bA (Nat.le_refl _)) rfl news1 (fr_int hI) (by omega) (by decide) hbi.size (by simp) ?_; intro v1 w1 hB1 hg1 _)
          have hb1 : Below wv.heap.size wv w1 := (hbi.alloc hbi.size _).grown hg1 (by have := hbi.size; simp; omega) (fun k hk => HBC.out.own hk)
          rw [HST.out] at hB1
          have HB1 := Lib.hid hB1
          clear hB1 hg1 d0 d1
          go_wp2_with fail
          go_roundw
          case rel => exact ⟨k + 1, by omega, by go_num, HB1.out, hb1⟩
          case measure => simp [intOf]; omega
        · obtain rfl : k = u.length := by omega
          have hfl : (colL u p).take u.length = colL u p := List.take_of_length_le (by rw [colL_len]; exact Nat.le_refl _)
          have HF := Lib.hid (hfl ▸ HBC.out.fr (by rw [List.length_take, colL_len]; unfold capMax; omega))
          obtain ⟨ac, nc, cc, rfl⟩ := ex_slice HF.out
          have hcl : (colsL u p).length ≤ 1000 := by rw [colsL_len]; omega
          clear hfl HBC
          go_wp2_with (refine wpList_push (E := intsT) _ rfl _ _ 25 26 rfl elInt64SS rfl (HB.out.below (hbi.alloc hbi.size _) (Nat.le_refl _)) rfl news1 (HF.out.below bA) (by omega) (by decide) hbel.size (by first | (simp; done) | (simp; omega)) ?_; intro v1 w1 hB1 hg1 _)
          have hb1 : Below w.heap.size w w1 := (hBi.alloc (by omega) _).grown hg1 (by simp; omega) (fun q hq => HB.out.own hq)
          rw [colsL_succ] at hB1
          have HB1 := Lib.hid hB1
          clear hB1 hg1
          go_wp2_with fail
          go_roundw
          case rel => exact ⟨p + 1, by omega, by go_num, HB1.out, hb1⟩
          case measure => simp [intOf]; omega
    · obtain rfl : p = m := by omega
      go_wp2_with fail
      go_ret
      exact ⟨_, rfl, HB.out.fr (by rw [colsL_len]; unfold capMax; omega), hbel⟩
set_option maxHeartbeats 1600000 in
set_option maxRecDepth 100000 in
theorem l04Lists_any (w : World) {v : Value} {u : List (List Int)} (h : rowsT.Rd w [v] u) {m : Nat} (h0 : 0 < u.length) (hL : u.length ≤ 1000) (hm : ∀ t ∈ u, t.length = m) (hm1 : m ≤ 1000) :
    Calls Try.prog 68 #[v] w (RetS rowsT w (colsL u m)) := by
  obtain ⟨la, lc, hv, -, -, hcell⟩ := slices_ex h
  obtain rfl : v = _ := by simpa using hv
  obtain ⟨b, o, rfl, hb, hce⟩ := hcell h0
  obtain ⟨u0, hu0, hc0⟩ := hce 0 h0
  obtain ⟨a0, k0, rfl⟩ := rd_slice hu0
  have hm0 : (u[0]).length = m := hm _ (List.getElem_mem h0)
  rw [hm0, Nat.add_zero] at hc0
  have HM := Lib.hid hm
  have HC := Lib.hid hce
  clear h hv hcell hce hu0 hm0 hm
  go_enter Try.func68, Try.ntmps68
  go_wp2_with fail
  go_loopw [4, 3] (fun i o wr => ∃ p : Nat, p ≤ m ∧ i = .int .i64 p ∧ Bl intsT 26 w.heap.size wr.heap.size wr o (colsL u p) ∧ Below w.heap.size w wr) (fun i _ _ => m - (intOf i).toNat)
  case atStart => exact ⟨0, Nat.zero_le _, rfl, by simpa [colsL] using Bl.lit0 (E := intsT) (e := 26) (w := w) (Nat.le_refl _), bA⟩
  case round =>
    obtain ⟨p, hp, rfl, hBl, hbel⟩ := hrel
    have HB := Lib.hid hBl
    obtain ⟨wv, rfl⟩ : ∃ wv : World, wv = wr := ⟨_, rfl⟩
    have hze := hbel.size
    have e0 := (cellB hbel hb).trans hc0
    clear hBl
    by_cases hpl : p < m
    · go_wp2_with fail
      clear e0
      go_loopw [6, 5] (fun i c wr => ∃ k : Nat, k ≤ u.length ∧ i = .int .i64 k ∧ Bl Ty.int 2 wv.heap.size wr.heap.size wr c ((colL u p).take k) ∧ Below wv.heap.size wv wr) (fun i _ _ => u.length - (intOf i).toNat)
      case atStart => exact ⟨0, Nat.zero_le _, rfl, by simpa using Bl.lit0 (E := Ty.int) (e := 2) (w := wv) (Nat.le_refl _), bA⟩
      case round =>
        obtain ⟨k, hk, rfl, hBc, hbi⟩ := hrel
        have HBC := Lib.hid hBc
        have hzi := hbi.size
        have hBi := bthen hbel hbi
        clear hBc
        by_cases hkl : k < u.length
        · obtain ⟨uk, huk, hck⟩ := HC.out k hkl
          obtain ⟨ak, ck, hv2, -, -, hcl⟩ := ints_ex huk
          obtain rfl : uk = _ := by simpa using hv2
          have hmk : (u[k]).length = m := HM.out _ (List.getElem_mem hkl)
          obtain ⟨bk, ok, rfl, hbk, hcl⟩ := hcl (by omega)
          obtain ⟨hI, hcp⟩ := hcl p (by omega)
          have d0 := (cellB hBi hb).trans hck
          have d1 := (cellB hBi hbk).trans hcp
          have HST := Lib.hid (colL_step hkl (show p < (u[k]).length by omega))
          generalize hz : (u[k])[p] = z at *
          have hlk : ((colL u p).take k).length ≤ 1000 := by rw [List.length_take, colL_len]; omega
          rw [hmk] at d0
          clear hck hcp hcl huk hv2 hmk hz
          go_wp2_with (refine wpList_push (E := Ty.int) _ rfl _ _ 26 2 rfl elInt rfl (HBC.out.below bA (Nat.le_refl _)) rfl news1 (fr_int hI) (by omega) (by decide) hbi.size (by simp) ?_; intro v1 w1 hB1 hg1 _)
          have hb1 : Below wv.heap.size wv w1 := (hbi.alloc hbi.size _).grown hg1 (by have := hbi.size; simp; omega) (fun k hk => HBC.out.own hk)
          rw [HST.out] at hB1
          have HB1 := Lib.hid hB1
          clear hB1 hg1 d0 d1
          go_wp2_with fail
          go_roundw
          case rel => exact ⟨k + 1, by omega, by go_num, HB1.out, hb1⟩
          case measure => simp [intOf]; omega
        · obtain rfl : k = u.length := by omega
          have hfl : (colL u p).take u.length = colL u p := List.take_of_length_le (by rw [colL_len]; exact Nat.le_refl _)
          have HF := Lib.hid (hfl ▸ HBC.out.fr (by rw [List.length_take, colL_len]; unfold capMax; omega))
          obtain ⟨ac, nc, cc, rfl⟩ := ex_slice HF.out
          have hcl : (colsL u p).length ≤ 1000 := by rw [colsL_len]; omega
          clear hfl HBC
          go_wp2_with (refine wpList_push (E := intsT) _ rfl _ _ 25 26 rfl elInt64SS rfl (HB.out.below (hbi.alloc hbi.size _) (Nat.le_refl _)) rfl news1 (HF.out.below bA) (by omega) (by decide) hbel.size (by first | (simp; done) | (simp; omega)) ?_; intro v1 w1 hB1 hg1 _)
          have hb1 : Below w.heap.size w w1 := (hBi.alloc (by omega) _).grown hg1 (by simp; omega) (fun q hq => HB.out.own hq)
          rw [colsL_succ] at hB1
          have HB1 := Lib.hid hB1
          clear hB1 hg1
          go_wp2_with fail
          go_roundw
          case rel => exact ⟨p + 1, by omega, by go_num, HB1.out, hb1⟩
          case measure => simp [intOf]; omega
    · obtain rfl : p = m := by omega
      go_wp2_with fail
      go_ret
      exact ⟨_, rfl, HB.out.fr (by rw [colsL_len]; unfold capMax; omega), hbel⟩
end Go.Proofs.Ytccobadobklbpaa
namespace Go.Proofs.Ytccobadobklbpaa
open Go.RowKit Go.Sort
/-- how long the first tuple is -/
def huM (u : List (List Int)) : Nat := (u.headD []).length
noncomputable def huC (t : Tpl) (u : List (List Int)) : Int := match tb (tplOk t), inB (u.length : Int) 1 3, inB (huM u : Int) 1 4, u.all fun l => tb (rowOk t.1 (huM u) l) with
  | false, _, _, _ => 1
  | true, true, true, true => 0
  | _, _, _, _ => 2
section
variable {t : Tpl} {u : List (List Int)}
theorem huM_at (h : 0 < u.length) : huM u = (u[0]).length := by
  cases u with
  | nil => simp at h
  | cons a r => rfl
theorem hu_1 (h : tb (tplOk t) = false) : huC t u = 1 := by simp [huC, h]
theorem hu_2 (h : tb (tplOk t) = true) (h1 : inB (u.length : Int) 1 3 = false) : huC t u = 2 := by simp [huC, h, h1]
theorem hu_3 (h : tb (tplOk t) = true) (h1 : inB (huM u : Int) 1 4 = false) : huC t u = 2 := by simp [huC, h, h1]
theorem hu_4 (h : tb (tplOk t) = true) (h1 : (u.all fun l => tb (rowOk t.1 (huM u) l)) = false) : huC t u = 2 := by
  unfold huC
  rw [h, h1]
  cases inB (u.length : Int) 1 3 <;> cases inB (huM u : Int) 1 4 <;> rfl
theorem hu_0 (h : tb (tplOk t) = true) (h1 : inB (u.length : Int) 1 3 = true) (h2 : inB (huM u : Int) 1 4 = true) (h3 : (u.all fun l => tb (rowOk t.1 (huM u) l)) = true) : huC t u = 0 := by simp only [huC, h, h1, h2, h3]
theorem hu_ok (h : huC t u = 0) : tplOk t ∧ (1 ≤ u.length ∧ u.length ≤ 3) ∧ (1 ≤ huM u ∧ huM u ≤ 4) ∧ (∀ l ∈ u, l.length = huM u) ∧ ∀ l ∈ u, ∀ a ∈ l, 0 ≤ a ∧ a ≤ t.1 - 1 := by
  cases h1 : tb (tplOk t)
  · rw [hu_1 h1] at h; cases h
  cases h2 : inB (u.length : Int) 1 3
  · rw [hu_2 h1 h2] at h; cases h
  cases h3 : inB (huM u : Int) 1 4
  · rw [hu_3 h1 h3] at h; cases h
  cases h4 : u.all fun l => tb (rowOk t.1 (huM u) l)
  · rw [hu_4 h1 h4] at h; cases h
  have e2 := inB_true.1 h2
  have e3 := inB_true.1 h3
  rw [List.all_eq_true] at h4
  refine ⟨tb_iff.1 h1, by omega, by omega, fun l hl => ?_, fun l hl => (tb_iff.1 (h4 l hl)).2⟩
  have := (tb_iff.1 (h4 l hl)).1
  omega
theorem all_any {α : Type} {p : α → Bool} {xs : List α} : anyB (fun x => !p x) xs = !xs.all p := by
  unfold anyB
  rw [← Bool.not_not (b := xs.any _), List.not_any_eq_all_not]
  simp
end
set_option maxHeartbeats 800000 in
theorem hullFault1_any (w : World) {bt bu b o n k0 : Nat} {a0 : Option Addr} {c : Nat} {m : Nat} {s : Int} {u : Value} {x : List Int} (h : intsT.Rd w [u] x) (hs : 0 ≤ s ∧ s ≤ 1000) (hn : 0 < n) (t0 : w.cell? ⟨bt, 0, none⟩ = some (.int .i64 s)) (u0 : w.cell? ⟨bu, 0, none⟩ = some (.slice (some ⟨b, o, none⟩) n c)) (c0 : w.cell? ⟨b, o, none⟩ = some (.slice a0 m k0)) :
    Calls Try.prog 108 #[u, .pointer (some ⟨bt, 0, none⟩), .pointer (some ⟨bu, 0, none⟩)] w fun e w' => e = .returned (.bool (!(tb (rowOk s m x)))) ∧ Below w.heap.size w w' := by
  have HX := Lib.hid h
  obtain ⟨ad, cap, rfl⟩ := rd_slice h
  clear h
  go_enter Try.func108, Try.ntmps108
  go_wp2_with fail
  have k0 := cell_regrown t0
  have k1 := cell_regrown u0
  have k2 := cell_regrown c0
  have cV : ∀ d os, Calls Try.prog 49 #[.int .i64 s, .slice ad x.length cap, .int .i64 (m : Int)] (grow (redrawn w d) os) fun e w'' => e = .returned (.bool (tb (rowOk s m x))) ∧ ∃ p : Regrown, w'' = grow (redrawn w p.d) p.os := fun d os =>
    Calls.regrown_of (areValues_any _ (HX.out.below (below_regrown _ d os)) _ _ hs.1 (by omega))
  refine wp_region_quiet_below (by kernel_rfl) (by kernel_rfl) ?_
  repeat (go_big_quiet_step (exact cV _ _))
  refine wpQuiet_nil ?_
  rintro w2 ⟨p, rfl⟩
  have hb2 := below_regrown w p.d p.os
  go_wp2_with fail
  go_ret
  exact ⟨rfl, hb2⟩
set_option maxHeartbeats 1600000 in
set_option maxRecDepth 100000 in
theorem hullFault_any (w : World) {cs : Array Value} {t : Tpl} {v : Value} {u : List (List Int)} (h : tplT.Rd w cs.toList t) (hu : rowsT.Rd w [v] u) :
    Calls Try.prog 60 #[.agg cs, v] w fun e w' => e = .returned (.int .i64 (huC t u)) ∧ Below w.heap.size w w' := by
  have HT := Lib.hid h
  have HU := Lib.hid hu
  obtain ⟨v1, hv1, -, -⟩ := pair_ex h
  obtain rfl := agg_of hv1
  obtain ⟨la, lc, hv, -, -, hcell⟩ := slices_ex hu
  obtain rfl : v = _ := by simpa using hv
  have HC := Lib.hid hcell
  clear h hv1 hu hv hcell
  go_enter Try.func60, Try.ntmps60
  go_wp2_with fail
  generalize hW : World.alloc (World.alloc w _) _ = W
  have hbW : Below w.heap.size w W := hW ▸ bAA
  have hsW : w.heap.size + 2 ≤ W.heap.size := by rw [← hW]; simp
  have t0 : W.cell? ⟨w.heap.size, 0, none⟩ = some (.int .i64 t.1) := by rw [← hW]; simp [go_sem]
  have t1 : W.cell? ⟨w.heap.size, 1, none⟩ = some v1 := by rw [← hW]; simp [go_sem]
  have u0 : W.cell? ⟨w.heap.size + 1, 0, none⟩ = some (.slice la u.length lc) := by rw [← hW]; simp [go_sem]
  clear hW
  refine (ValidTemplate_any _ (HT.out.below hbW)).mono ?_
  rintro e w1 ⟨rfl, hb1⟩
  have hB1 := bthen hbW hb1
  have hz1 := hb1.size
  replace t0 := (cellB hb1 (by omega)).trans t0
  replace t1 := (cellB hb1 (by omega)).trans t1
  replace u0 := (cellB hb1 (by omega)).trans u0
  cases h1 : tb (tplOk t)
  · have HA := Lib.hid (hu_1 (u := u) h1)
    clear h1
    go_wp2_with fail
    go_ret
    exact ⟨ret_int HA.out.symm, hB1⟩
  have hs4 := (tb_iff.1 h1).1
  unfold sizeOk at hs4
  have H1 := Lib.hid h1
  clear h1
  go_wp2_with fail
  refine (isOpArity_any (u.length : Int) _).mono ?_
  rintro e _ ⟨rfl, rfl⟩
  cases h2 : inB (u.length : Int) 1 3
  · have HA := Lib.hid (hu_2 H1.out h2)
    clear h2
    go_wp2_with fail
    go_ret
    exact ⟨ret_int HA.out.symm, hB1⟩
  have h23 := inB_true.1 h2
  have h0 : 0 < u.length := by omega
  obtain ⟨b, o, rfl, hb, hce⟩ := HC.out h0
  obtain ⟨ux, hux, hc0⟩ := hce 0 h0
  obtain ⟨a0, k0, rfl⟩ := rd_slice hux
  rw [← huM_at h0, Nat.add_zero] at hc0
  have c0 := (cellB hB1 hb).trans hc0
  have H2 := Lib.hid h2
  clear h2 hce hux hc0 HC
  go_wp2_with fail
  refine (isArity_any (huM u : Int) _).mono ?_
  rintro e _ ⟨rfl, rfl⟩
  cases h3 : inB (huM u : Int) 1 4
  · have HA := Lib.hid (hu_3 H1.out h3)
    clear h3
    go_wp2_with fail
    go_ret
    exact ⟨ret_int HA.out.symm, hB1⟩
  have H3 := Lib.hid h3
  clear h3
  have HPF : Hid (∀ W', Below w1.heap.size w1 W' → ∀ k (h : k < u.length) (x : Value), intsT.Rd W' [x] u[k] → Calls Try.prog 108 (#[x] ++ #[.pointer (some ⟨w.heap.size, 0, none⟩), .pointer (some ⟨w.heap.size + 1, 0, none⟩)]) W' fun e W'' => e = .returned (.bool ((fun l => !(tb (rowOk t.1 (huM u) l))) u[k])) ∧ Below W'.heap.size W' W'') := by
    intro W' hW' k hk x hx
    have hz := hW'.size
    exact hullFault1_any W' hx (by omega) h0 ((cellB hW' (by omega)).trans t0) ((cellB hW' (by omega)).trans u0) ((cellB hW' (by omega)).trans c0)
  go_wp2_with fail
  refine (ContainsFuncInts_any _ (HU.out.below hB1) (fun l => !(tb (rowOk t.1 (huM u) l))) 108 _ (enters Try.func108 (by kernel_rfl) rfl) HPF.out).mono ?_
  rintro e w3 ⟨rfl, hb3⟩
  have hB3 := bthen hB1 hb3
  rw [all_any]
  cases h4 : u.all fun l => tb (rowOk t.1 (huM u) l)
  · have HA := Lib.hid (hu_4 H1.out h4)
    clear h4
    go_wp2_with fail
    go_ret
    exact ⟨ret_int HA.out.symm, hB3⟩
  · have HA := Lib.hid (hu_0 H1.out H2.out H3.out h4)
    clear h4
    go_wp2_with fail
    go_ret
    exact ⟨ret_int HA.out.symm, hB3⟩
set_option maxHeartbeats 1600000 in
set_option maxRecDepth 100000 in
theorem l04Tuples_any (w : World) {vt v : Value} {t : Tpl} {u : List (List Int)} (h : tplT.Pt w vt t) (hu : rowsT.Rd w [v] u) :
    Calls Try.prog 58 #[vt, v] w fun e w' => e = .returned (.int .i64 (huC t u)) ∧ Quiet w w' := by
  have HT := Lib.hid h
  have HU := Lib.hid hu
  obtain ⟨tq, tf, ra, rc, rfl, htq, -, p0, p1, -⟩ := pt_pair h
  obtain ⟨la, lc, hv, -, -, hcell⟩ := slices_ex hu
  obtain rfl : v = _ := by simpa using hv
  have HC := Lib.hid hcell
  clear h hu hv hcell
  go_enter Try.func58, Try.ntmps58
  go_wp2_with fail
  refine (l01Template_quiet _ HT.out).mono ?_
  rintro e w1 ⟨rfl, hq1⟩
  have hB1 := hq1.below
  have hz1 := hB1.size
  cases h1 : tb (tplOk t)
  · have HA := Lib.hid (hu_1 (u := u) h1)
    clear h1
    go_wp2_with fail
    go_ret
    exact ⟨ret_int HA.out.symm, hq1⟩
  have hs4 := (tb_iff.1 h1).1
  unfold sizeOk at hs4
  have H1 := Lib.hid h1
  clear h1
  go_wp2_with fail
  refine (l02Arity_any (u.length : Int) _).mono ?_
  rintro e _ ⟨rfl, rfl⟩
  cases h2 : inB (u.length : Int) 1 3
  · have HA := Lib.hid (hu_2 H1.out h2)
    clear h2
    go_wp2_with fail
    go_ret
    exact ⟨ret_int HA.out.symm, hq1⟩
  have h23 := inB_true.1 h2
  have h0 : 0 < u.length := by omega
  obtain ⟨b, o, rfl, hb, hce⟩ := HC.out h0
  obtain ⟨ux, hux, hc0⟩ := hce 0 h0
  obtain ⟨a0, k0, rfl⟩ := rd_slice hux
  rw [← huM_at h0, Nat.add_zero] at hc0
  have c0 := (cellB hB1 hb).trans hc0
  have H2 := Lib.hid h2
  have HCE := Lib.hid hce
  clear h2 hce hux HC
  go_wp2_with fail
  refine (l01Arity_any (huM u : Int) _).mono ?_
  rintro e _ ⟨rfl, rfl⟩
  cases h3 : inB (huM u : Int) 1 4
  · have HA := Lib.hid (hu_3 H1.out h3)
    clear h3
    go_wp2_with fail
    go_ret
    exact ⟨ret_int HA.out.symm, hq1⟩
  have H3 := Lib.hid h3
  clear h3
  go_wp2_with fail
  clear c0
  go_loopw [5] (fun i wr => ∃ k : Nat, k ≤ u.length ∧ i = .int .i64 k ∧ (∀ l ∈ u.take k, tb (rowOk t.1 (huM u) l) = true) ∧ Quiet w1 wr) (fun i _ => u.length - (intOf i).toNat)
  case atStart => exact ⟨0, Nat.zero_le _, rfl, fun l hl => by simp at hl, (by first | exact Quiet.refl _ | exact Quiet.drewN _ _ | exact (Quiet.drewN _ _).then (Quiet.drewN _ _) | exact ((Quiet.drewN _ _).then (Quiet.drewN _ _)).then (Quiet.drewN _ _))⟩
  case round =>
    obtain ⟨k, hk, rfl, hup, hqw⟩ := hrel
    have hBr := bthen hB1 hqw.below
    have HUP := Lib.hid hup
    have HQW := Lib.hid hqw
    have c0 := (cellB hBr hb).trans hc0
    have d0 := (cellB hBr htq).trans p0
    clear hup hqw
    by_cases hkl : k < u.length
    · obtain ⟨ux, hux, hck⟩ := HCE.out k hkl
      obtain ⟨ak, ck, rfl⟩ := rd_slice hux
      have dk := (cellB hBr hb).trans hck
      have HX := Lib.hid (hux.below hBr)
      have cT : ∀ n, Calls Try.prog 44 #[.int .i64 t.1, .int .i64 (huM u : Int), .slice ak (u[k]).length ck] (wr.drewN n) fun e w'' => e = .returned (.bool (tb (rowOk t.1 (huM u) u[k]))) ∧ ∃ m, w'' = wr.drewN m := fun n => pure_drawn (l01Tuple_any _ _ _ (HX.out.below (Quiet.drewN wr n).below) (by omega) (by omega))
      clear hux hck
      cases h4 : tb (rowOk t.1 (huM u) u[k])
      · have HA : Hid (huC t u = 2) := hu_4 H1.out (List.all_eq_false.2 ⟨_, List.getElem_mem hkl, by rw [h4]; simp⟩)
        rw [h4] at cT
        clear h4
        go_wp2_with fail
        go_quiet (exact cT _)
        clear cT
        go_wp2_with fail
        go_ret
        exact ⟨ret_int HA.out.symm, hq1.then (HQW.out.then (by first | exact Quiet.refl _ | exact Quiet.drewN _ _ | exact (Quiet.drewN _ _).then (Quiet.drewN _ _) | exact ((Quiet.drewN _ _).then (Quiet.drewN _ _)).then (Quiet.drewN _ _)))⟩
      · have HE : Hid (∀ l ∈ u.take (k + 1), tb (rowOk t.1 (huM u) l) = true) := fun l hl => by
          rw [List.take_succ_eq_append_getElem hkl, List.mem_append] at hl
          rcases hl with hl | hl
          · exact HUP.out l hl
          · simp only [List.mem_singleton] at hl; rw [hl]; exact h4
        rw [h4] at cT
        clear h4
        go_wp2_with fail
        go_quiet (exact cT _)
        clear cT
        go_wp2_with fail
        go_roundw
        case rel => exact ⟨k + 1, by omega, by go_num, HE.out, HQW.out.then (by first | exact Quiet.refl _ | exact Quiet.drewN _ _ | exact (Quiet.drewN _ _).then (Quiet.drewN _ _) | exact ((Quiet.drewN _ _).then (Quiet.drewN _ _)).then (Quiet.drewN _ _))⟩
        case measure => simp [intOf]; omega
    · obtain rfl : k = u.length := by omega
      have HA : Hid (huC t u = 0) := hu_0 H1.out H2.out H3.out (List.all_eq_true.2 fun l hl => HUP.out l (by rw [List.take_length]; exact hl))
      go_wp2_with fail
      go_ret
      exact ⟨ret_int HA.out.symm, hq1.then HQW.out⟩
end Go.Proofs.Ytccobadobklbpaa
namespace Go.Proofs.Ytccobadobklbpaa
open Go.RowKit Go.Sort
theorem range_pick {n : Nat} {fps : Nat → List Nat} {js : List Nat} (hnd : ((List.range n).flatMap fps).Nodup) (hj : js.Nodup) (hl : ∀ j ∈ js, j < n) : ((List.range js.length).flatMap fun i => fps (js.getD i 0)).Nodup := by
  unfold List.Nodup at hnd hj ⊢
  rw [List.pairwise_flatMap] at hnd ⊢
  obtain ⟨h1, h2⟩ := hnd
  rw [List.pairwise_iff_getElem] at h2 hj
  have key : ∀ a b, a < n → b < n → a < b → ∀ x ∈ fps a, ∀ y ∈ fps b, x ≠ y := fun a b ha hb hab => by
    have := h2 a b (by simpa using ha) (by simpa using hb) hab
    simpa using this
  refine ⟨fun i hi => ?_, ?_⟩
  · have hi' : i < js.length := by simpa using hi
    have := hl _ (List.getElem_mem hi')
    exact h1 _ (by simpa [List.getD_eq_getElem?_getD, hi'] using this)
  · rw [List.pairwise_iff_getElem]
    intro a b ha hb hab
    have ha' : a < js.length := by simpa using ha
    have hb' : b < js.length := by simpa using hb
    have hne := hj a b ha' hb' hab
    have la := hl _ (List.getElem_mem ha')
    have lb := hl _ (List.getElem_mem hb')
    simp only [List.getElem_range, List.getD_eq_getElem?_getD, List.getElem?_eq_getElem ha', List.getElem?_eq_getElem hb', Option.getD_some]
    intro x hx y hy
    rcases Nat.lt_or_gt_of_ne hne with h | h
    · exact key _ _ la lb h x hx y hy
    · exact fun e => key _ _ lb la h y hy x hx e.symm
theorem fr_rdP {α : Type} {E : Ty α} {base : Nat} {w : World} {cs : List Value} {x : α} (h : E.Fr base w cs x) : E.RdP (fun k => base ≤ k) w cs x := let ⟨fp, h1, _, h3, _⟩ := h; ⟨fp, h1, h3⟩
theorem fr_pick {base : Nat} {w : World} {u : Value} {xs : List (List Int)} (h : rowsT.Fr base w [u] xs) :
    ∃ VS : List Value, VS.length = xs.length ∧ (∀ i (h : i < VS.length) (h' : i < xs.length), (∃ a c, VS[i] = .slice a (xs[i]).length c) ∧ intsT.RdP (fun k => base ≤ k) w [VS[i]] xs[i]) ∧
      (∃ ad cap, u = .slice ad xs.length cap ∧ (0 < xs.length → ∃ b o, ad = some ⟨b, o, none⟩ ∧ b < w.heap.size ∧ base ≤ b ∧ ∀ i (h : i < VS.length), w.cell? ⟨b, o + i, none⟩ = some VS[i])) ∧
      ∀ w' v (js : List Nat), js.Nodup → (∀ j ∈ js, j < xs.length) → (∀ k, base ≤ k → k < w.heap.size → w'.heap[k]? = w.heap[k]?) → (Ty.slice Ty.val).Fr w.heap.size w' [v] (js.map fun j => VS.getD j undef) → base ≤ w.heap.size → rowsT.Fr base w' [v] (js.map fun j => xs.getD j []) := by
  obtain ⟨fp, hrd, hnd, hbs, hun⟩ := h
  have hlt := Ty.lt _ hrd
  obtain ⟨ad, cap, hu, h1, h2, h3⟩ := hrd
  obtain rfl : u = _ := by simpa using hu
  rcases h3 with ⟨h0, rfl⟩ | ⟨h0, b, o, fps, rfl, hb, rfl, h4⟩
  · refine ⟨[], by simp [h0], fun i h => by simp at h, ⟨ad, cap, rfl, fun h => by omega⟩, fun w' v js _ hjl _ hf _ => ?_⟩
    obtain rfl : js = [] := List.eq_nil_iff_forall_not_mem.2 fun j hj => by have := hjl j hj; omega
    obtain ⟨a', c', rfl⟩ := fr_slice hf
    exact fr_nil
  · have key : ∀ i, ∃ v, ∀ (h : i < xs.length), intsT.rd w [v] xs[i] (fps i) ∧ (∃ a c, v = .slice a (xs[i]).length c) ∧ w.cell? ⟨b, o + i, none⟩ = some v := fun i => by
      by_cases hi : i < xs.length
      · obtain ⟨cs, hr, hc⟩ := h4 i hi
        obtain ⟨a', c', rfl, _⟩ := id hr
        exact ⟨_, fun _ => ⟨hr, ⟨_, _, rfl⟩, by simpa [Ty.slice] using hc 0 (by simp)⟩⟩
      · exact ⟨undef, fun h => absurd h hi⟩
    obtain ⟨F, hF⟩ := Classical.axiomOfChoice key
    have hVl : ((List.range xs.length).map F).length = xs.length := by simp
    have hVg : ∀ i (h : i < ((List.range xs.length).map F).length), ((List.range xs.length).map F)[i] = F i := fun i h => by simp
    have hVd : ∀ i, i < xs.length → ((List.range xs.length).map F).getD i undef = F i := fun i h => by simp [List.getD_eq_getElem?_getD, h]
    refine ⟨(List.range xs.length).map F, hVl, fun i h h' => ?_, ⟨_, cap, rfl, fun _ => ⟨b, o, rfl, hb, hbs b (List.mem_cons_self ..), fun i h => ?_⟩⟩, fun w' v js hjn hjl hbe hf hbw => ?_⟩
    · obtain ⟨g1, g2, -⟩ := hF i h'
      rw [hVg i h]
      exact ⟨g2, _, g1, fun q hq => hbs q (List.mem_cons_of_mem _ (List.mem_flatMap.2 ⟨i, by simpa using h', hq⟩))⟩
    · have h' : i < xs.length := by simpa using h
      obtain ⟨-, -, g3⟩ := hF i h'
      rw [hVg i h]
      exact g3
    · obtain ⟨fpv, ⟨ad', cap', hv, k1, k2, k3⟩, hnd', hbs', hun'⟩ := hf
      obtain rfl : v = _ := by simpa using hv
      rw [List.length_map] at k1 k2 k3
      rcases k3 with ⟨k0, _⟩ | ⟨k0, g, o', fps', rfl, hg, rfl, k4⟩
      · obtain rfl := List.eq_nil_of_length_eq_zero k0
        exact fr_nil
      · have hge : w.heap.size ≤ g := hbs' g (List.mem_cons_self ..)
        have hj : ∀ i (h : i < js.length), js.getD i 0 < xs.length := fun i h => by
          have := hjl _ (List.getElem_mem h)
          simpa [List.getD_eq_getElem?_getD, h] using this
        have hsub : ∀ k ∈ (List.range js.length).flatMap (fun i => fps (js.getD i 0)), k ∈ (List.range xs.length).flatMap fps := fun k hk => by
          obtain ⟨i, hi, hk⟩ := List.mem_flatMap.1 hk
          exact List.mem_flatMap.2 ⟨_, by simpa using hj i (by simpa using hi), hk⟩
        have hS : Same (b :: (List.range xs.length).flatMap fps) w w' := fun k hk => hbe k (hbs k hk) (hlt k hk)
        have hS2 : ∀ i, i < xs.length → Same (fps i) w w' := fun i hi k hk => hS k (List.mem_cons_of_mem _ (List.mem_flatMap.2 ⟨i, by simpa using hi, hk⟩))
        refine ⟨g :: (List.range js.length).flatMap (fun i => fps (js.getD i 0)), ⟨some ⟨g, o', none⟩, cap', by simp, by rw [List.length_map]; exact k1, by rw [List.length_map]; exact k2, .inr ⟨by rw [List.length_map]; exact k0, g, o', fun i => fps (js.getD i 0), rfl, hg, by rw [List.length_map], fun i hi => ?_⟩⟩, ?_, ?_, ?_⟩
        · have hi' : i < js.length := by simpa using hi
          obtain ⟨cs, ⟨rfl, _, _⟩, h6⟩ := k4 i (by rw [List.length_map]; exact hi')
          have hji := hj i hi'
          obtain ⟨g1, g2, -⟩ := hF _ hji
          have e1 : (js.map fun j => ((List.range xs.length).map F).getD j undef)[i]'(by simpa using hi') = F (js.getD i 0) := by
            rw [List.getElem_map]
            have : js[i] = js.getD i 0 := by simp [List.getD_eq_getElem?_getD, hi']
            rw [this]
            exact hVd _ hji
          have e2 : (js.map fun j => xs.getD j [])[i] = xs[js.getD i 0] := by
            rw [List.getElem_map]
            have : js[i] = js.getD i 0 := by simp [List.getD_eq_getElem?_getD, hi']
            rw [this, List.getD_eq_getElem?_getD, List.getElem?_eq_getElem hji]
            rfl
          rw [e1] at h6
          refine ⟨_, ?_, h6⟩
          rw [e2]
          exact Ty.same _ g1 (hS2 _ hji)
        · refine List.nodup_cons.2 ⟨fun hm => ?_, range_pick (List.nodup_cons.1 hnd).2 hjn hjl⟩
          have := hlt g (List.mem_cons_of_mem _ (hsub g hm))
          omega
        · intro k hk
          rcases List.mem_cons.1 hk with rfl | hk
          · omega
          · exact hbs k (List.mem_cons_of_mem _ (hsub k hk))
        · intro k hk q
          rcases List.mem_cons.1 hk with rfl | hk
          · exact hun' k (List.mem_cons_self ..) q
          · exact (hun.same hS) k (List.mem_cons_of_mem _ (hsub k hk)) q
end Go.Proofs.Ytccobadobklbpaa
namespace Go.Proofs.Ytccobadobklbpaa
open Go.RowKit Go.Sort
noncomputable def hulP (t : Tpl) (u : List (List Int)) : List Int → Bool := fun v => phC t u.length (colsL u (huM u)) v == 0
noncomputable def hulX (t : Tpl) (u : List (List Int)) : List Int → Bool := fun v => phC t u.length (colsL u (huM u)) v == 7
def hulD (t : Tpl) (u : List (List Int)) (i : Nat) : List Int := digL t.1 i (huM u)
def hulN (t : Tpl) (u : List (List Int)) : Nat := (t.1 ^ huM u).toNat
/-- the first k lists: those that are in the hull; whether the budget ran out -/
noncomputable def hulJ (t : Tpl) (u : List (List Int)) (k : Nat) : List Nat := (List.range k).filter fun j => hulP t u (hulD t u j)
noncomputable def hulB (t : Tpl) (u : List (List Int)) (k : Nat) : Bool := (List.range k).any fun j => hulX t u (hulD t u j)
noncomputable def hulR (t : Tpl) (u : List (List Int)) (k : Nat) : List (List Int) := (hulJ t u k).map (hulD t u)
noncomputable def hulO (t : Tpl) (u : List (List Int)) (k : Nat) : List (Int × List Int) := (hulJ t u k).map fun j => phV t u.length (colsL u (huM u)) (hulD t u j)
noncomputable def hlC (t : Tpl) (u : List (List Int)) : Int := match limF t u.length, hulB t u (hulN t u) with
  | true, _ => 3
  | false, true => 7
  | false, false => 0
noncomputable def hlV (t : Tpl) (u : List (List Int)) : Int × List (List Int) := match limF t u.length, hulB t u (hulN t u) with
  | false, false => ((huM u : Int), hulR t u (hulN t u))
  | _, _ => (0, [])
noncomputable def hlO (t : Tpl) (u : List (List Int)) : List (Int × List Int) := match limF t u.length, hulB t u (hulN t u) with
  | false, false => hulO t u (hulN t u)
  | _, _ => []
section
variable {t : Tpl} {u : List (List Int)} {k : Nat}
theorem hl_lim (h : limF t u.length = true) : hlC t u = 3 ∧ hlV t u = (0, []) ∧ hlO t u = [] := by simp [hlC, hlV, hlO, h]
theorem hl_bad (h : limF t u.length = false) (h1 : hulB t u (hulN t u) = true) : hlC t u = 7 ∧ hlV t u = (0, []) ∧ hlO t u = [] := by simp [hlC, hlV, hlO, h, h1]
theorem hl_ok (h : limF t u.length = false) (h1 : hulB t u (hulN t u) = false) : hlC t u = 0 ∧ hlV t u = ((huM u : Int), hulR t u (hulN t u)) ∧ hlO t u = hulO t u (hulN t u) := by simp [hlC, hlV, hlO, h, h1]
theorem hulJ_yes (h : hulP t u (hulD t u k) = true) : hulJ t u k ++ [k] = hulJ t u (k + 1) := by simp [hulJ, List.range_succ, h]
theorem hulJ_no (h : hulP t u (hulD t u k) = false) : hulJ t u k = hulJ t u (k + 1) := by simp [hulJ, List.range_succ, h]
theorem hulB_no (h0 : hulB t u k = false) (h : hulX t u (hulD t u k) = false) : hulB t u (k + 1) = false := by
  unfold hulB at h0 ⊢
  rw [List.range_succ, List.any_append, h0]
  simp [h]
theorem hulB_yes {n : Nat} (h : hulX t u (hulD t u k) = true) (hk : k < n) : hulB t u n = true := by
  unfold hulB
  rw [List.any_eq_true]
  exact ⟨k, by simpa using hk, h⟩
theorem hulJ_nodup : (hulJ t u k).Nodup := by
  unfold hulJ
  exact List.Pairwise.filter _ List.nodup_range
theorem hulJ_lt {j : Nat} (h : j ∈ hulJ t u k) : j < k := by
  have := (List.mem_filter.1 h).1
  simpa using this
theorem hulJ_len : (hulJ t u k).length ≤ k := by
  unfold hulJ
  exact Nat.le_trans (List.length_filter_le _ _) (by simp)
theorem hulR_len : (hulR t u k).length ≤ k := by unfold hulR; rw [List.length_map]; exact hulJ_len
theorem hulO_len : (hulO t u k).length ≤ k := by unfold hulO; rw [List.length_map]; exact hulJ_len
theorem hulR_yes (h : hulP t u (hulD t u k) = true) : hulR t u k ++ [hulD t u k] = hulR t u (k + 1) := by unfold hulR; rw [← hulJ_yes h, List.map_append]; rfl
theorem hulR_no (h : hulP t u (hulD t u k) = false) : hulR t u k = hulR t u (k + 1) := by unfold hulR; rw [← hulJ_no h]
theorem hulO_yes (h : hulP t u (hulD t u k) = true) : hulO t u k ++ [phV t u.length (colsL u (huM u)) (hulD t u k)] = hulO t u (k + 1) := by unfold hulO; rw [← hulJ_yes h, List.map_append]; rfl
theorem hulO_no (h : hulP t u (hulD t u k) = false) : hulO t u k = hulO t u (k + 1) := by unfold hulO; rw [← hulJ_no h]
theorem hulR_zero : hulR t u 0 = [] := by simp [hulR, hulJ]
theorem hulO_zero : hulO t u 0 = [] := by simp [hulO, hulJ]
theorem hulJ_zero : hulJ t u 0 = [] := by simp [hulJ]
theorem hulN_of (hT : tplOk t) : t.1 ^ huM u = (hulN t u : Int) := by
  have := pow_nn (s := t.1) (by have := hT.1; unfold sizeOk at this; omega) (huM u)
  unfold hulN
  omega
theorem hulN_bd (hT : tplOk t) (h : 1 ≤ huM u ∧ huM u ≤ 4) : 1 ≤ hulN t u ∧ hulN t u ≤ 256 := by
  have h1 := hulN_of (u := u) hT
  have hs := hT.1
  unfold sizeOk at hs
  have h2 : 1 ≤ t.1 ^ huM u := by
    have : 0 < t.1 ^ huM u := Int.pow_pos (by omega)
    omega
  have h3 : t.1 ^ huM u ≤ 256 := by
    refine Int.le_trans (pow_mono' (by omega) (show t.1 ≤ 4 by omega) (huM u)) ?_
    rcases (show huM u = 1 ∨ huM u = 2 ∨ huM u = 3 ∨ huM u = 4 by omega) with e | e | e | e <;> rw [e] <;> decide
  omega
theorem hulD_len {j : Nat} : (hulD t u j).length = huM u := digL_len
theorem hulD_in {j : Nat} (hs : 1 ≤ t.1) : ∀ a ∈ hulD t u j, 0 ≤ a ∧ a ≤ t.1 - 1 := fun a ha => by
  have := dig_mem hs ha
  omega
theorem cols_in {s : Int} {m : Nat} (hm : ∀ l ∈ u, l.length = m) (hin : ∀ l ∈ u, ∀ a ∈ l, 0 ≤ a ∧ a ≤ s - 1) : ∀ l ∈ colsL u m, (l.length : Int) = u.length ∧ ∀ a ∈ l, 0 ≤ a ∧ a ≤ s - 1 := fun l hl => by
  obtain ⟨p, hp, rfl⟩ := List.mem_map.1 hl
  have hp' : p < m := by simpa using hp
  refine ⟨by rw [colL_len], fun a ha => ?_⟩
  obtain ⟨x, hx, rfl⟩ := List.mem_map.1 ha
  have hxl : p < x.length := by rw [hm x hx]; exact hp'
  rw [List.getD_eq_getElem?_getD, List.getElem?_eq_getElem hxl]
  exact hin x hx _ (List.getElem_mem hxl)
/-- the first list tells 0 everywhere: no value comes twice with different values -/
theorem dig_zero {s : Int} {n : Nat} : digL s 0 n = List.replicate n 0 := by
  refine List.ext_getElem (by simp [digL_len]) fun i h h' => ?_
  simp [digL, dig]
theorem telK_zero {s : Int} {ls : List (List Int)} {f : List Int} (hf : ∀ a ∈ f, a = -1 ∨ a = 0) : ∀ k, ∃ g, telK s ls (List.replicate ls.length 0) f k = some g ∧ ∀ a ∈ g, a = -1 ∨ a = 0
  | 0 => ⟨f, rfl, hf⟩
  | k + 1 => by
    obtain ⟨g, h1, h2⟩ := telK_zero (s := s) (ls := ls) hf k
    have h0 : (List.replicate ls.length (0 : Int)).getD k 0 = 0 := by
      rw [List.getD_eq_getElem?_getD, List.getElem?_replicate]
      split <;> rfl
    have h3 : telK s ls (List.replicate ls.length 0) f (k + 1) = tellAt s (ls.getD k []) 0 g := by
      show (telK s ls (List.replicate ls.length 0) f k).bind _ = _
      rw [h1, h0]
      rfl
    have h4 : (decide (0 ≤ g.getD (idxL s 0 (ls.getD k [])).toNat 0) && (g.getD (idxL s 0 (ls.getD k [])).toNat 0 != 0)) = false := by
      rw [List.getD_eq_getElem?_getD]
      cases h5 : g[(idxL s 0 (ls.getD k [])).toNat]? with
      | none => rfl
      | some b =>
        rcases h2 b (List.mem_of_getElem? h5) with e | e <;> subst e <;> rfl
    refine ⟨g.set (idxL s 0 (ls.getD k [])).toNat 0, by rw [h3]; simp only [tellAt, h4], fun a ha => ?_⟩
    rcases List.mem_or_eq_of_mem_set ha with ha | rfl
    · exact h2 a ha
    · exact .inr rfl
theorem lw_zero (h : limF t u.length = true) : lwC t u.length (colsL u (huM u)) (hulD t u 0) = 3 := by
  obtain ⟨g, h1, -⟩ := telK_zero (s := t.1) (ls := colsL u (huM u)) (f := List.replicate (tabL t u.length) (-1)) (fun a ha => .inl (List.eq_of_mem_replicate ha)) (colsL u (huM u)).length
  have h2 : wF t u.length (colsL u (huM u)) (hulD t u 0) = some g := by
    unfold wF hulD
    rw [show ((0 : Nat) : Int) = 0 from rfl, dig_zero]
    rw [colsL_len] at h1 ⊢
    exact h1
  exact (lw_lim h2 (by rw [Int.toNat_natCast]; exact h)).2
end
theorem fullRel1_any (w : World) (u : Value) : Calls Try.prog 134 #[u] w fun e w' => e = .returned (.bool true) ∧ Below w.heap.size w w' := by
  go_enter Try.func134, Try.ntmps134
  go_wp2_with fail
  go_ret
  exact ⟨rfl, Below.refl _ _⟩
set_option maxHeartbeats 800000 in
theorem fullRel_any (w : World) (s : Int) (ar : Nat) (hs : 1 ≤ s ∧ s ≤ 4) (har : ar ≤ 4) (N : Nat) (hN : s ^ ar = N) :
    Calls Try.prog 109 #[.int .i64 s, .int .i64 ar] w (RetA relT w ((ar : Int), relL s ar (fun _ => true) N)) := by
  go_enter Try.func109, Try.ntmps109
  go_wp2_with fail
  generalize hW : World.alloc w _ = W
  have hbW : Below w.heap.size w W := hW ▸ bA
  have hsW : w.heap.size + 1 ≤ W.heap.size := by rw [← hW]; simp
  have r0 : W.cell? ⟨w.heap.size, 0, none⟩ = some (.int .i64 0) := by rw [← hW]; simp [go_sem]
  have r1 : W.cell? ⟨w.heap.size, 1, none⟩ = some (.slice none 0 0) := by rw [← hW]; simp [go_sem]
  have q0 : W.frozen? ⟨w.heap.size, 0, none⟩ = false := by rw [← hW]; simp [go_sem]
  have q1 : W.frozen? ⟨w.heap.size, 1, none⟩ = false := by rw [← hW]; simp [go_sem]
  clear hW
  refine (relOf_any W s ar hs har 134 #[] (enters Try.func134 (by kernel_rfl) rfl) (fun _ => true) N hN (fun W' u k _ _ _ => fullRel1_any W' u)).mono ?_
  rintro e w1 ⟨cs, rfl, hf, hb1⟩
  obtain ⟨ad, cap, rfl⟩ := fr_pair hf
  have HF := Lib.hid hf
  have hB1 := bthen hbW hb1
  have hz1 := hb1.size
  replace r0 := (cellB hb1 (by omega)).trans r0
  replace r1 := (cellB hb1 (by omega)).trans r1
  replace q0 := (frozenB hb1 (by omega)).trans q0
  replace q1 := (frozenB hb1 (by omega)).trans q1
  have hl1 : w.heap.size < w1.heap.size := by omega
  have HZ0 := Lib.hid (fun (x y : Value) => res2_0 (x := x) (y := y) r0)
  have HZ1 := Lib.hid (fun (x y : Value) => res2_1 (x := x) (y := y) r1)
  clear hf
  go_wp2_with fail
  refine bodyPost_ret (v := .agg #[.int .i64 (ar : Int), .slice ad (relL s ar (fun _ => true) N).length cap]) (by simp [results, Try.results109, go_sem, HZ0.out, HZ1.out]) rfl ⟨[.int .i64 (ar : Int), .slice ad (relL s ar (fun _ => true) N).length cap], rfl, ?_, res2_b hB1 (by omega)⟩
  exact ((HF.out.set (a := ⟨w.heap.size, 0, none⟩) (show w.heap.size < W.heap.size by omega)).set (a := ⟨w.heap.size, 1, none⟩) (show w.heap.size < W.heap.size by omega)).mono (by omega)
end Go.Proofs.Ytccobadobklbpaa
