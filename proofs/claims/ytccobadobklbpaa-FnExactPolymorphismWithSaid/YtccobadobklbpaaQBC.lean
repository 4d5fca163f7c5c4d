/-
Contracts: a polymorphism with given values, the reference's.
Contracts: a polymorphism with given values, the reference's, whole.
Plain: how great an operation with given values is.
The marks of the laws: mark writes numbers from k on into all memory of a datum, held finds them there.
-/
import Derived.Test.YtccobadobklbpaaQBB
import Derived.Test.YtccobadobklbpaaQAC
import Derived.Test.YtccobadobklbpaaQAD
namespace Go.Proofs.Ytccobadobklbpaa
open Go.RowKit Go.Sort
noncomputable def lwV (t : Tpl) (ar : Int) (ls : List (List Int)) (vs : List Int) : Int × List Int := match wF t ar ls vs, limF t ar.toNat with
  | none, _ => (0, [])
  | some _, true => (0, [])
  | some f, false => foV ar (polyF t ar f fun _ => -1)
noncomputable def lwC (t : Tpl) (ar : Int) (ls : List (List Int)) (vs : List Int) : Int := match wF t ar ls vs, limF t ar.toNat with
  | none, _ => 4
  | some _, true => 3
  | some f, false => foC (polyF t ar f fun _ => -1)
section
variable {t : Tpl} {ar : Int} {ls : List (List Int)} {vs f : List Int}
theorem lw_none (h : wF t ar ls vs = none) : lwV t ar ls vs = (0, []) ∧ lwC t ar ls vs = 4 := by simp [lwV, lwC, h]
theorem lw_lim (h : wF t ar ls vs = some f) (h1 : limF t ar.toNat = true) : lwV t ar ls vs = (0, []) ∧ lwC t ar ls vs = 3 := by simp [lwV, lwC, h, h1]
theorem lw_fo (h : wF t ar ls vs = some f) (h1 : limF t ar.toNat = false) : lwV t ar ls vs = foV ar (polyF t ar f fun _ => -1) ∧ lwC t ar ls vs = foC (polyF t ar f fun _ => -1) := by simp [lwV, lwC, h, h1]
theorem lw_ph (h1 : limF t ar.toNat = false) : lwV t ar ls vs = phV t ar ls vs ∧ lwC t ar ls vs = phC t ar ls vs := by
  unfold phV phC
  cases h : wF t ar ls vs with
  | none => exact lw_none h
  | some f => exact lw_fo h h1
theorem pw_lw (h : askC t ar = 0) (h1 : wOk t ar ls vs = true) : pwV t ar ls vs = lwV t ar ls vs ∧ pwC t ar ls vs = lwC t ar ls vs := by
  cases h3 : limF t ar.toNat
  · rw [(lw_ph h3).1, (lw_ph h3).2]
    exact pw_ph h h1 h3
  · cases h2 : wF t ar ls vs with
    | none => rw [(lw_none h2).1, (lw_none h2).2]; exact pw_st h h1 h2
    | some f => rw [(lw_lim h2 h3).1, (lw_lim h2 h3).2]; exact pw_lim h h1 h2 h3
end
theorem telK_len {s : Int} {ls : List (List Int)} {vs f g : List Int} : ∀ {k : Nat}, telK s ls vs f k = some g → g.length = f.length := by
  intro k
  induction k generalizing g with
  | zero => intro h; cases h; rfl
  | succ k ih =>
    intro h
    cases h0 : telK s ls vs f k with
    | none => rw [telK_none h0 (Nat.le_succ k)] at h; cases h
    | some q =>
      have h' : tellAt s (ls.getD k []) (vs.getD k 0) q = some g := by
        have h9 : (telK s ls vs f k).bind (tellAt s (ls.getD k []) (vs.getD k 0)) = some g := h
        rw [h0] at h9
        exact h9
      unfold tellAt at h'
      split at h'
      · cases h'
      · cases h'; rw [List.length_set]; exact ih h0
theorem fo_0 {ar : Int} {R : FR} (h : R.1 = 0) : foV ar R = (0, []) ∧ foC R = 6 := by simp [foV, foC, h]
theorem fo_7 {ar : Int} {R : FR} (h : R.1 = 7) : foV ar R = (0, []) ∧ foC R = 7 := by simp [foV, foC, h]
theorem fo_m {ar : Int} {R : FR} {st : Nat} {x : List Int} (h : R = (-1, st, [x])) : foV ar R = (ar, x) ∧ foC R = 0 := by simp [foV, foC, h]
set_option maxHeartbeats 6400000 in
set_option maxRecDepth 100000 in
theorem l04With_any (w : World) {vt v v' : Value} {t : Tpl} {ls : List (List Int)} {vs : List Int} (hPt : tplT.Pt w vt t) (hl : rowsT.Rd w [v] ls) (hv : intsT.Rd w [v'] vs) {ar : Int} (hT : tplOk t) (har : 1 ≤ ar ∧ ar ≤ 3) (hin : ∀ l ∈ ls, (l.length : Int) = ar ∧ ∀ a ∈ l, 0 ≤ a ∧ a ≤ t.1 - 1) (hlen : ls.length = vs.length) (hvs : ∀ a ∈ vs, 0 ≤ a ∧ a ≤ t.1 - 1) (hL : ls.length ≤ 140737488351232) :
    Calls Try.prog 46 #[vt, .int .i64 ar, v, v'] w (RetAC opT w (lwV t ar ls vs) (lwC t ar ls vs)) := by
  have HPT := Lib.hid hPt
  have HL := Lib.hid hl
  have HV := Lib.hid hv
  have HIN := Lib.hid hin
  have HVS := Lib.hid hvs
  have HLEN := Lib.hid hlen
  have HTT := Lib.hid hT
  have hs4 := hT.1
  unfold sizeOk at hs4
  obtain ⟨tq, tf, ra, rc, rfl, htq, -, p0, p1, -⟩ := pt_pair hPt
  obtain ⟨la, lc, rfl⟩ := rd_slice hl
  obtain ⟨va, vc, rfl⟩ := rd_slice hv
  have hN := tabL_of (ar := ar) hT
  have HNN := Lib.hid hN
  have hNb := tabN_bd (tabN_of hT.1 (ar := ar.toNat) (by omega) hN)
  have c0 : ∀ o, (w.alloc o).cell? ⟨tq, tf, none⟩ = some (.int .i64 t.1) := fun o => (cellB bA htq).trans p0
  have hix : ∀ l ∈ ls, l.length ≤ 3 ∧ (∀ a ∈ l, 0 ≤ a ∧ a ≤ t.1 - 1) ∧ idxL t.1 0 l < (tabL t ar : Int) := fun l hl => by
    obtain ⟨h1, h2⟩ := HIN.out l hl
    refine ⟨by omega, h2, ?_⟩
    have h3 := (idx_bd (by omega) h2 l.length (Nat.le_refl _)).2
    rw [List.take_length] at h3
    have h4 := HNN.out
    have h5 : ar.toNat = l.length := by omega
    rw [h5] at h4
    omega
  have HIX := Lib.hid hix
  have HWF : Hid (telK t.1 ls vs (List.replicate (tabL t ar) (-1)) ls.length = wF t ar ls vs) := rfl
  have HPTN : Hid (tplT.Pt w (.pointer (some ⟨tq, tf, none⟩)) t) := HPT.out
  clear hPt hl hv hin hvs hlen hT hN hix HPT
  go_enter Try.func46, Try.ntmps46
  go_wp2_with fail
  refine (l01Power_any _ t.1 ar (by omega) (by omega) (by omega)).mono ?_
  rintro e _ ⟨rfl, rfl⟩
  rw [HNN.out]
  obtain ⟨N, hNe⟩ : ∃ N, tabL t ar = N := ⟨_, rfl⟩
  rw [hNe] at HIX HWF hNb ⊢
  have HNE := Lib.hid hNe
  clear hNe HNN
  generalize hW : World.alloc w _ = W
  have hbW : Below w.heap.size w W := hW ▸ bA
  have hsW : w.heap.size + 1 ≤ W.heap.size := by rw [← hW]; simp
  have r0 : W.cell? ⟨w.heap.size, 0, none⟩ = some (.int .i64 0) := by rw [← hW]; simp [go_sem]
  have r1 : W.cell? ⟨w.heap.size, 1, none⟩ = some (.slice none 0 0) := by rw [← hW]; simp [go_sem]
  have q0 : W.frozen? ⟨w.heap.size, 0, none⟩ = false := by rw [← hW]; simp [go_sem]
  have q1 : W.frozen? ⟨w.heap.size, 1, none⟩ = false := by rw [← hW]; simp [go_sem]
  clear hW c0
  go_wp2_with (refine wpList_mkI _ rfl _ _ 26 2 rfl Try.underlying26 infoInt W.heap.size N rfl rfl (by omega) (by decide) (by simp) ?_; intro w1 hA hg1 hs1)
  have hb1 := below_of_grown hg1
  have hB1 := bthen hbW hb1
  replace r0 := (cellB hb1 (by omega)).trans r0
  replace r1 := (cellB hb1 (by omega)).trans r1
  replace q0 := (frozenB hb1 (by omega)).trans q0
  replace q1 := (frozenB hb1 (by omega)).trans q1
  have HA := Lib.hid (minus_zero (N := N) ▸ hA)
  obtain ⟨fb, hfb⟩ : ∃ fb, W.heap.size = fb := ⟨_, rfl⟩
  rw [hfb] at HA hs1 ⊢
  clear hA hg1
  go_loopw [11] (fun i wr => ∃ j : Nat, j ≤ N ∧ i = .int .i64 j ∧ IR 2 fb wr fb N N (minus j N) ∧ TchP (fun k => k = fb) w1 wr) (fun i _ => N - (intOf i).toNat)
  case atStart => exact ⟨0, Nat.zero_le _, rfl, HA.out, TchP.refl _ _⟩
  case round =>
    obtain ⟨j, hj, rfl, hif, htc⟩ := hrel
    have HIF := Lib.hid hif
    have hzr := htc.size
    by_cases hjl : j < N
    · obtain ⟨fu, f0⟩ := hif.cell hjl
      have f1 := hif.free j
      have HSF := Lib.hid (hif.set j (a := -1) (I64.small (by omega) (by omega)))
      have HMS := Lib.hid (minus_set hjl)
      have htc2 : TchP (fun k => k = fb) w1 (wr.setCell ⟨fb, j, none⟩ (.int .i64 (-1))) := htc.then (TchP.set (O := fun k => k = fb) rfl) (fun q _ h => h)
      clear hif HA
      go_wp2_with fail
      go_roundw
      case rel => exact ⟨j + 1, by omega, by go_num, by rw [← HMS.out]; exact HSF.out, htc2⟩
      case measure => simp [intOf]; omega
    · obtain rfl : N = j := by omega
      obtain ⟨wd, rfl⟩ : ∃ wd : World, wd = wr := ⟨_, rfl⟩
      rw [minus_full] at hif
      have HI0 := Lib.hid hif
      have hbd : Below W.heap.size W wd := hb1.trans (htc.below (by omega) (fun k hk h => by omega))
      have hBd := bthen hbW hbd
      have c0 := (cellB hBd htq).trans p0
      replace r0 := (htc.cell (i := 0) (by omega) (by omega)).trans r0
      replace r1 := (htc.cell (i := 1) (by omega) (by omega)).trans r1
      replace q0 := (htc.frozen (i := 0) (by omega) (by omega)).trans q0
      replace q1 := (htc.frozen (i := 1) (by omega) (by omega)).trans q1
      have hfl := hif.lt
      have hl1 : w.heap.size + 1 ≤ wd.heap.size := by omega
      have hfw : w.heap.size + 1 ≤ fb := by omega
      clear hif HA HIF htc hzr hb1 hB1 hs1 hbd
      go_wp2_with fail
      go_loopw [12] (fun i wr => ∃ (k : Nat) (f : List Int), k ≤ ls.length ∧ i = .int .i64 k ∧ telK t.1 ls vs (List.replicate N (-1)) k = some f ∧ IR 2 fb wr fb N N f ∧ TchP (fun q => q = fb) wd wr) (fun i _ => ls.length - (intOf i).toNat)
      case atStart => exact ⟨0, _, Nat.zero_le _, rfl, rfl, HI0.out, TchP.refl _ _⟩
      case round =>
        obtain ⟨k, f, hk, rfl, htk, hIf, ht⟩ := hrel
        have HTK := Lib.hid htk
        have HIF := Lib.hid hIf
        have HT := Lib.hid ht
        obtain ⟨hfl2, hfb2⟩ := telK_ok htk (fun a ha => by rw [List.eq_of_mem_replicate ha]; omega) HVS.out hs4.1
        have HFB := Lib.hid hfb2
        have hfN : f.length = N := hIf.1
        have hzr := ht.size
        have hBr : Below w.heap.size w wr := hBd.trans (ht.below (by omega) (fun k hk h => by omega))
        obtain ⟨wv, rfl⟩ : ∃ wv : World, wv = wr := ⟨_, rfl⟩
        have x0 := (ht.cell (i := 0) (by omega) (by omega)).trans r0
        have x1 := (ht.cell (i := 1) (by omega) (by omega)).trans r1
        have y0 := (ht.frozen (i := 0) (by omega) (by omega)).trans q0
        have y1 := (ht.frozen (i := 1) (by omega) (by omega)).trans q1
        have ct := (cellB hBr htq).trans p0
        have htv : tq < wv.heap.size := by omega
        clear htk hIf ht hfb2 hfl2
        by_cases hkl : k < ls.length
        · have hkv : k < vs.length := by rw [← HLEN.out]; exact hkl
          obtain ⟨_, _, hx, -, -, hxe⟩ := slice_exP ((rd_rdP HL.out).below hBr)
          simp only [List.cons.injEq, Value.slice.injEq, and_true] at hx
          obtain ⟨rfl, -, rfl⟩ := hx
          obtain ⟨lb, lo, rfl, hlb, -, hce⟩ := hxe (by omega)
          obtain ⟨cs, hcs, hcell⟩ := hce k hkl
          obtain ⟨ka, kc, rfl, -, -, -⟩ := slice_exP hcs
          have d0 : wv.cell? ⟨lb, lo + k, none⟩ = some (.slice ka ls[k].length kc) := by
            have := hcell 0 (by simp)
            simpa [Ty.slice] using this
          obtain ⟨_, _, hx, -, -, hxe'⟩ := slice_exP ((rd_rdP HV.out).below hBr)
          simp only [List.cons.injEq, Value.slice.injEq, and_true] at hx
          obtain ⟨rfl, -, rfl⟩ := hx
          obtain ⟨vb, vo, rfl, hvb, hvg, hce'⟩ := hxe' (by omega)
          obtain ⟨cs', ⟨fp', ⟨rfl, hIv, -⟩, -⟩, hcell'⟩ := hce' k hkv
          have d1 : wv.cell? ⟨vb, vo + k, none⟩ = some (.int .i64 vs[k]) := by
            have := hcell' 0 (by simp)
            simpa [Ty.int] using this
          obtain ⟨i1, i2, i3⟩ := HIX.out ls[k] (List.getElem_mem hkl)
          have HRD := Lib.hid hcs.rd
          have hi0 := (idx_bd hs4.1 i2 ls[k].length (Nat.le_refl _)).1
          rw [List.take_length] at hi0
          have HI2 := Lib.hid i2
          have HYES := Lib.hid (fun h => telK_yes (s := t.1) HTK.out hkl hkv h)
          have HNO := Lib.hid (fun h => telK_no (s := t.1) HTK.out hkl hkv h)
          have hvk := HVS.out vs[k] (List.getElem_mem hkv)
          rw [HLEN.out] at *
          clear hxe hce hcell hxe' hce' hcell' hcs i2
          obtain ⟨q, hq⟩ : ∃ q : Nat, idxL t.1 0 ls[k] = q := ⟨_, (Int.toNat_of_nonneg hi0).symm⟩
          have cC : ∀ n, Calls Try.prog 74 #[.int .i64 t.1, .slice ka ls[k].length kc] (wv.drewN n) fun e w'' => e = .returned (.int .i64 q) ∧ ∃ m, w'' = wv.drewN m := fun n => by
            have := pure_drawn (l01Code_any (wv.drewN n) t.1 (HRD.out.below (Quiet.drewN wv n).below) (by omega) (by omega) (by omega) HI2.out)
            rw [hq] at this
            exact this
          rw [hq] at i3 HYES HNO
          have hqN : q < N := by omega
          have hqf : q < f.length := by omega
          have dq : wv.cell? ⟨fb, q, none⟩ = some (.int .i64 f[q]) := by
            rw [World.ownsRow.cellAt HIF.out.2.2.2 q (by omega), List.getElem?_map, List.getElem?_eq_getElem hqf]
            rfl
          have fq := HIF.out.free q
          have hgd : f.getD q 0 = f[q] := by rw [List.getD_eq_getElem?_getD, List.getElem?_eq_getElem hqf]; rfl
          rw [Int.toNat_natCast, hgd] at HYES HNO
          have hgl := HIF.out.lt
          generalize hfq : f[q] = y at *
          generalize hvq : vs[k] = z at *
          clear hq hgd hfq hvq hi0
          go_wp2_with fail
          go_quiet (exact cC _)
          clear cC
          generalize hX : wv.drewN _ = wx
          have hbx : Below wv.heap.size wv wx := hX ▸ (Quiet.drewN wv _).below
          have hzx := hbx.size
          clear hX
          replace d0 := (cellB hbx (by omega)).trans d0
          replace d1 := (cellB hbx (by omega)).trans d1
          replace dq := (cellB hbx (by omega)).trans dq
          replace ct := (cellB hbx (by omega)).trans ct
          replace x0 := (cellB hbx (by omega)).trans x0
          replace x1 := (cellB hbx (by omega)).trans x1
          replace fq := (frozenB hbx (by omega)).trans fq
          replace y0 := (frozenB hbx (by omega)).trans y0
          replace y1 := (frozenB hbx (by omega)).trans y1
          have hBx := bthen hBr hbx
          have HIX2 : Hid (IR 2 fb wx fb N N f) := HIF.out.same (hbx.block fb hgl)
          have HTX : Hid (TchP (fun q => q = fb) wd wx) := HT.out.then (TchP.of_below hbx (fun q => q = fb)) (fun q _ h => h)
          have hgx : fb < wx.heap.size := by omega
          have hvx : vb < wx.heap.size := by omega
          clear HIF HT hlb hvb hgl htv
          go_wp2_with fail
          cases hd : decide (0 ≤ y)
          · have HE := Lib.hid (HYES.out (by rw [hd]; rfl))
            go_quiet (fail)
            generalize hX : wx.drewN _ = wy
            have hby : Below wx.heap.size wx wy := hX ▸ (Quiet.drewN wx _).below
            clear hX
            replace d1 := (cellB hby (by omega)).trans d1
            replace x0 := (cellB hby (by omega)).trans x0
            replace x1 := (cellB hby (by omega)).trans x1
            replace fq := (frozenB hby (by omega)).trans fq
            replace y0 := (frozenB hby (by omega)).trans y0
            replace y1 := (frozenB hby (by omega)).trans y1
            replace dq := (cellB hby hgx).trans dq
            have HIY : Hid (IR 2 fb wy fb N N f) := HIX2.out.same (hby.block fb hgx)
            have HTY : Hid (TchP (fun q => q = fb) wd wy) := HTX.out.then (TchP.of_below hby (fun q => q = fb)) (fun q _ h => h)
            have hgy : fb < wy.heap.size := Nat.lt_of_lt_of_le hgx hby.size
            go_wp2_with fail
            go_roundw
            case rel => exact ⟨k + 1, f.set q z, by omega, by go_num, HE.out, HIY.out.set q hIv, HTY.out.then (TchP.set (O := fun q => q = fb) rfl) (fun q _ h => h)⟩
            case measure => simp [intOf]; omega
          · cases hn : (y != z)
            · have HE := Lib.hid (HYES.out (by rw [hd, hn]; rfl))
              go_quiet (fail)
              generalize hX : wx.drewN _ = wy
              have hby : Below wx.heap.size wx wy := hX ▸ (Quiet.drewN wx _).below
              clear hX
              replace d1 := (cellB hby (by omega)).trans d1
              replace x0 := (cellB hby (by omega)).trans x0
              replace x1 := (cellB hby (by omega)).trans x1
              replace fq := (frozenB hby (by omega)).trans fq
              replace y0 := (frozenB hby (by omega)).trans y0
              replace y1 := (frozenB hby (by omega)).trans y1
              replace dq := (cellB hby hgx).trans dq
              have HIY : Hid (IR 2 fb wy fb N N f) := HIX2.out.same (hby.block fb hgx)
              have HTY : Hid (TchP (fun q => q = fb) wd wy) := HTX.out.then (TchP.of_below hby (fun q => q = fb)) (fun q _ h => h)
              have hgy : fb < wy.heap.size := Nat.lt_of_lt_of_le hgx hby.size
              go_wp2_with fail
              go_roundw
              case rel => exact ⟨k + 1, f.set q z, by omega, by go_num, HE.out, HIY.out.set q hIv, HTY.out.then (TchP.set (O := fun q => q = fb) rfl) (fun q _ h => h)⟩
              case measure => simp [intOf]; omega
            · have HE := Lib.hid (HNO.out (by rw [hd, hn]; rfl))
              have hno : wF t ar ls vs = none := HWF.out.symm.trans (telK_none HE.out (by omega))
              have HR := Lib.hid (lw_none hno)
              clear hno
              go_quiet (fail)
              generalize hX : wx.drewN _ = wy
              have hby : Below wx.heap.size wx wy := hX ▸ (Quiet.drewN wx _).below
              clear hX
              replace x0 := (cellB hby (by omega)).trans x0
              replace x1 := (cellB hby (by omega)).trans x1
              replace y0 := (frozenB hby (by omega)).trans y0
              replace y1 := (frozenB hby (by omega)).trans y1
              have hBy := bthen hBx hby
              have hly : w.heap.size < wy.heap.size := by have := hby.size; omega
              have HZ0 := Lib.hid (fun (x y : Value) => res2_0 (x := x) (y := y) x0)
              have HZ1 := Lib.hid (fun (x y : Value) => res2_1 (x := x) (y := y) x1)
              go_wp2_with fail
              refine bodyPost_ret (v := .tuple #[.agg #[.int .i64 0, .slice none 0 0], .int .i64 4]) (by simp [results, Try.results46, go_sem, HZ0.out, HZ1.out]) rfl ⟨[.int .i64 0, .slice none 0 0], by rw [HR.out.2], ?_, res2_b hBy (by omega)⟩
              rw [HR.out.1]
              exact fr_op0
        · obtain rfl : k = ls.length := by omega
          have hnl : ¬ (ls.length < ls.length) := by omega
          have HW : Hid (wF t ar ls vs = some f) := HWF.out.symm.trans HTK.out
          have hgl := HIF.out.lt
          clear hBd c0 r0 r1 q0 q1 HI0 HT HIX ct htv hnl HWF HTK
          go_wp2_with fail
          refine (l04Begin_any _ (HPTN.out.below hBr) HTT.out har).mono ?_
          rintro e w4 ⟨hb4, hcase⟩
          have hB4 := bthen hBr hb4
          have hz4 := hb4.size
          replace x0 := (cellB hb4 (by omega)).trans x0
          replace x1 := (cellB hb4 (by omega)).trans x1
          replace y0 := (frozenB hb4 (by omega)).trans y0
          replace y1 := (frozenB hb4 (by omega)).trans y1
          have HIF4 : Hid (IR 2 fb w4 fb N N f) := HIF.out.same (hb4.block fb hgl)
          have hl4 : w.heap.size + 1 ≤ w4.heap.size := by omega
          clear HIF
          rcases hcase with ⟨hlm, rfl⟩ | ⟨hlm, br, gt, rfl, hbr, hgt, hne, hf4, hRu, hMc⟩
          · have HR := Lib.hid (lw_lim HW.out hlm)
            have HZ0 := Lib.hid (fun (x y : Value) => res2_0 (x := x) (y := y) x0)
            have HZ1 := Lib.hid (fun (x y : Value) => res2_1 (x := x) (y := y) x1)
            clear hlm
            go_wp2_with fail
            refine bodyPost_ret (v := .tuple #[.agg #[.int .i64 0, .slice none 0 0], .int .i64 3]) (by simp [results, Try.results46, go_sem, HZ0.out, HZ1.out]) rfl ⟨[.int .i64 0, .slice none 0 0], by rw [HR.out.2], ?_, res2_b hB4 (by omega)⟩
            rw [HR.out.1]
            exact fr_op0
          · have HR := Lib.hid (lw_fo HW.out hlm)
            have HLK := Lib.hid (tpl_looks HTT.out har hlm)
            rw [HNE.out] at hRu hMc HLK
            obtain ⟨v4, c4⟩ : ∃ v4, w4.cell? ⟨br, 4, none⟩ = some v4 := by
              obtain ⟨_, _, _, _, _, _, _, _, _, _, _, _, _, c4, -⟩ := hRu
              exact ⟨_, c4⟩
            have hfe : ∀ k : Nat, k = fb → k ≠ br ∧ k ≠ gt := fun k hk => by omega
            have hRF : intsT.RdP (fun k => k ≠ br ∧ k ≠ gt) w4 [.slice (some ⟨fb, 0, none⟩) N N] f := by
              obtain ⟨fp, h2, -, h3, -⟩ := HIF4.out.fr (by unfold capMax; omega)
              exact ⟨fp, h2, fun k hk => hfe k (IR.fp HIF4.out h2 k hk)⟩
            have HRU := Lib.hid (hRu.setF (fun h => h.1 rfl) hRF)
            have HMC : Hid (Mc 2 wv.heap.size (w4.setCell ⟨br, 4, none⟩ (.slice (some ⟨fb, 0, none⟩) N N)) br gt N (tabV N [] (-1)) 0 false) := by
              rw [← tabV_start (by omega)]
              exact hMc.setF hne
            have HS : Hid (t.1 = (t.1.toNat : Int)) := by unfold Hid; omega
            have hbrl := hRu.1
            have hgtl := hMc.2.2.1.lt
            have HFXL : Hid (f.length = N) := hfN
            have HFS : Hid (∀ i, f.getD i 0 < (t.1.toNat : Int)) := fun i => by
              rw [List.getD_eq_getElem?_getD]
              cases h3 : f[i]? with
              | none => simp; omega
              | some b => have := (HFB.out b (List.mem_of_getElem? h3)).2; simp; omega
            have HP : Hid (∀ yc, upF t.1.toNat (goesF t (duesF (looksA t ar.toNat) N)) f yc N 0 [] (-1) (0, 0, []) = polyF t ar f yc) := fun yc => by
              have h := up_all (s := t.1.toNat) (okT := goesF t (duesF (looksA t ar.toNat) N)) (fx := f) (yc := yc) (N := N) (r := (0, 0, [])) (by omega)
              rw [h]
              unfold polyF okF
              rw [HNE.out]
            have HNEE := Lib.hid hne
            clear hRu hMc hRF hlm
            go_wp2_with fail
            have hB5 : Below w.heap.size w (w4.setCell ⟨br, 4, none⟩ (.slice (some ⟨fb, 0, none⟩) N N)) := hB4.trans ((TchP.set (O := fun k => k = br) rfl).below (by omega) (fun k hk h => by omega))
            have s0 := (World.cell?_setCell_other w4 ⟨br, 4, none⟩ ⟨w.heap.size, 0, none⟩ (.slice (some ⟨fb, 0, none⟩) N N) (by simp)).trans x0
            have s1 := (World.cell?_setCell_other w4 ⟨br, 4, none⟩ ⟨w.heap.size, 1, none⟩ (.slice (some ⟨fb, 0, none⟩) N N) (by simp)).trans x1
            have t0 := (World.frozen?_setCell w4 ⟨br, 4, none⟩ ⟨w.heap.size, 0, none⟩ (.slice (some ⟨fb, 0, none⟩) N N)).trans y0
            have t1 := (World.frozen?_setCell w4 ⟨br, 4, none⟩ ⟨w.heap.size, 1, none⟩ (.slice (some ⟨fb, 0, none⟩) N N)).trans y1
            have hz5 : (w4.setCell ⟨br, 4, none⟩ (.slice (some ⟨fb, 0, none⟩) N N)).heap.size = w4.heap.size := by simp [World.setCell]
            generalize w4.setCell ⟨br, 4, none⟩ (.slice (some ⟨fb, 0, none⟩) N N) = w5 at *
            clear x0 x1 y0 y1 c4 hf4
            refine (next_any w5 HRU.out HMC.out (fun k hk => hk) HNEE.out HTT.out HS.out (by omega) HLK.out.2.1 HLK.out.1 HLK.out.2.2 HFXL.out HFS.out preOk_nil (.inl rfl) (by show 0 < N; omega) (by omega) (fun _ => rfl) (fun h => by cases h)).mono ?_
            rintro e w6 ⟨more, bad, rfl, hRu6, htc6, hcase⟩
            have hz6 := htc6.size
            have hB6 : Below w.heap.size w w6 := hB5.trans (htc6.below (by omega) (fun q hq h => by omega))
            replace s0 := (htc6.cell (i := 0) (by omega) (by omega)).trans s0
            replace s1 := (htc6.cell (i := 1) (by omega) (by omega)).trans s1
            replace t0 := (htc6.frozen (i := 0) (by omega) (by omega)).trans t0
            replace t1 := (htc6.frozen (i := 1) (by omega) (by omega)).trans t1
            have hl6 : w.heap.size < w6.heap.size := by omega
            have HZ0 := Lib.hid (fun (x y : Value) => res2_0 (x := x) (y := y) s0)
            have HZ1 := Lib.hid (fun (x y : Value) => res2_1 (x := x) (y := y) s1)
            have hbr6 : br < w6.heap.size := by omega
            obtain ⟨_, _, _, _, _, _, _, _, _, _, b1, -⟩ := hRu6
            clear htc6
            rcases hcase with ⟨rfl, rfl, st', hu⟩ | ⟨rfl, rfl, hu⟩ | ⟨rfl, rfl, pre', v, st', hpl', hpo', hco', hMc', hst1, hst2, hu⟩
            · have hE := (HP.out (fun _ => -1)).symm.trans (hu (fun _ => -1) [])
              have HF := Lib.hid (fo_0 (ar := ar) (R := polyF t ar f fun _ => -1) (by rw [hE]))
              clear hu hE
              go_wp2_with fail
              refine bodyPost_ret (v := .tuple #[.agg #[.int .i64 0, .slice none 0 0], .int .i64 6]) (by simp [results, Try.results46, go_sem, HZ0.out, HZ1.out]) rfl ⟨[.int .i64 0, .slice none 0 0], by rw [HR.out.2, HF.out.2], ?_, res2_b hB6 (by omega)⟩
              rw [HR.out.1, HF.out.1]
              exact fr_op0
            · have hE := (HP.out (fun _ => -1)).symm.trans (hu (fun _ => -1) [])
              have HF := Lib.hid (fo_7 (ar := ar) (R := polyF t ar f fun _ => -1) (by rw [hE]))
              clear hu hE
              go_wp2_with fail
              refine bodyPost_ret (v := .tuple #[.agg #[.int .i64 0, .slice none 0 0], .int .i64 7]) (by simp [results, Try.results46, go_sem, HZ0.out, HZ1.out]) rfl ⟨[.int .i64 0, .slice none 0 0], by rw [HR.out.2, HF.out.2], ?_, res2_b hB6 (by omega)⟩
              rw [HR.out.1, HF.out.1]
              exact fr_op0
            · have hE := (HP.out (fun _ => -1)).symm.trans ((hu (fun _ => -1) []).trans (cont_no (by decide)))
              have HF := Lib.hid (fo_m (ar := ar) (R := polyF t ar f fun _ => -1) (st := st') (x := pre' ++ [(v : Int)]) (by rw [hE]; rfl))
              obtain ⟨-, b5, hIT, -, -, -, -⟩ := hMc'
              have HRT := Lib.hid (hIT.fr (by unfold capMax; omega)).rd
              have htl : (pre' ++ [(v : Int)]).length ≤ 1000000 := by rw [List.length_append, List.length_singleton]; omega
              clear hu hE hIT hpo' hco'
              go_wp2_with fail
              refine (op_any w6 hbr6 b1 b5 HRT.out htl).mono ?_
              rintro e w7 ⟨u, rfl, hf7, hb7⟩
              obtain ⟨ua, un, uc, rfl⟩ := ex_slice hf7
              have HF7 := Lib.hid hf7
              have hB7 := bthen hB6 hb7
              have hz7 := hb7.size
              replace s0 := (cellB hb7 (by omega)).trans s0
              replace s1 := (cellB hb7 (by omega)).trans s1
              replace t0 := (frozenB hb7 (by omega)).trans t0
              replace t1 := (frozenB hb7 (by omega)).trans t1
              have hl7 : w.heap.size < w7.heap.size := by omega
              replace HZ0 := Lib.hid (fun (x y : Value) => res2_0 (x := x) (y := y) s0)
              replace HZ1 := Lib.hid (fun (x y : Value) => res2_1 (x := x) (y := y) s1)
              clear hf7 b1 b5
              go_wp2_with fail
              refine bodyPost_ret (v := .tuple #[.agg #[.int .i64 ar, .slice ua un uc], .int .i64 0]) (by simp [results, Try.results46, go_sem, HZ0.out, HZ1.out]) rfl ⟨[.int .i64 ar, .slice ua un uc], by rw [HR.out.2, HF.out.2], ?_, res2_b hB7 (by omega)⟩
              rw [HR.out.1, HF.out.1]
              exact (fr_cons (I64.small (by omega) (by omega)) ((HF7.out.set (a := ⟨w.heap.size, 0, none⟩) (show w.heap.size < w6.heap.size by omega)).set (a := ⟨w.heap.size, 1, none⟩) (show w.heap.size < w6.heap.size by omega))).mono (by omega)
end Go.Proofs.Ytccobadobklbpaa
namespace Go.Proofs.Ytccobadobklbpaa
open Go.RowKit Go.Sort
/-- the first k lists and values may be told -/
def wUp (t : Tpl) (ar : Int) (ls : List (List Int)) (vs : List Int) (k : Nat) : Prop := ∀ j (h : j < ls.length) (h' : j < vs.length), j < k → tb (rowOk t.1 ar ls[j]) = true ∧ inB vs[j] 0 (t.1 - 1) = true
section
variable {t : Tpl} {ar : Int} {ls : List (List Int)} {vs : List Int}
theorem wUp_succ {k : Nat} (h : wUp t ar ls vs k) (hk : k < ls.length) (hv : k < vs.length) (h1 : tb (rowOk t.1 ar ls[k]) = true) (h2 : inB vs[k] 0 (t.1 - 1) = true) : wUp t ar ls vs (k + 1) := fun j hj hj' hl => by
  rcases Nat.lt_succ_iff_lt_or_eq.1 hl with hl | rfl
  · exact h j hj hj' hl
  · exact ⟨h1, h2⟩
theorem wOk_len (h : ls.length ≠ vs.length) : wOk t ar ls vs = false := wOk_no1 (tb_false fun h1 => h (by have := h1.1; omega))
theorem wOk_true (hl : ls.length = vs.length) (h : wUp t ar ls vs ls.length) : wOk t ar ls vs = true := by
  unfold wOk
  rw [Bool.and_eq_true, List.all_eq_true]
  refine ⟨tb_iff.2 ⟨by omega, fun a ha => ?_⟩, fun l hl2 => ?_⟩
  · obtain ⟨j, hj, rfl⟩ := List.getElem_of_mem ha
    exact inB_true.1 (h j (by omega) hj (by omega)).2
  · obtain ⟨j, hj, rfl⟩ := List.getElem_of_mem hl2
    exact (h j hj (by omega) hj).1
theorem wOk_no (_hl : ls.length = vs.length) {k : Nat} (hk : k < ls.length) (hv : k < vs.length) (h : tb (rowOk t.1 ar ls[k]) = false ∨ inB vs[k] 0 (t.1 - 1) = false) : wOk t ar ls vs = false := by
  cases hw : wOk t ar ls vs
  · rfl
  · obtain ⟨-, h2, h3⟩ := wOk_in hw
    rcases h with h | h
    · have h9 : tb (rowOk t.1 ar ls[k]) = true := tb_iff.2 (h2 _ (List.getElem_mem hk))
      rw [h9] at h; cases h
    · rw [inB_true.2 (h3 _ (List.getElem_mem hv))] at h; cases h
end
set_option maxHeartbeats 3200000 in
set_option maxRecDepth 100000 in
theorem specPolymorphismWith_any (w : World) {cs : Array Value} {t : Tpl} {v v' : Value} {ls : List (List Int)} {vs : List Int} (h : tplT.Rd w cs.toList t) (hl : rowsT.Rd w [v] ls) (hv : intsT.Rd w [v'] vs) {ar : Int} :
    Calls Try.prog 10 #[.agg cs, .int .i64 ar, v, v'] w (RetAC opT w (pwV t ar ls vs) (pwC t ar ls vs)) := by
  have p0 : tplT.Pt (w.alloc (.cells cs 35)) (.pointer (some ⟨w.heap.size, 0, none⟩)) t := pt_box h
  have hL : ls.length ≤ 140737488351232 := by
    obtain ⟨_, _, -, -, hc, -⟩ := slices_ex hl
    exact hc
  have HL := Lib.hid hl
  have HV := Lib.hid hv
  obtain ⟨v1, hv1, -, -⟩ := pair_ex h
  obtain rfl := agg_of hv1
  obtain ⟨la, lc, rfl⟩ := rd_slice hl
  obtain ⟨va, vc, rfl⟩ := rd_slice hv
  clear h hv1 hl hv
  go_enter Try.func10, Try.ntmps10
  go_wp2_with fail
  replace p0 : ∀ o, tplT.Pt (World.alloc (w.alloc (.cells #[.int .i64 t.1, v1] 35)) o) (.pointer (some ⟨w.heap.size, 0, none⟩)) t := fun o => p0.below bA
  generalize hW : World.alloc (World.alloc w _) _ = W
  have HP : Hid (tplT.Pt W (.pointer (some ⟨w.heap.size, 0, none⟩)) t) := hW ▸ p0 _
  have hbW : Below w.heap.size w W := hW ▸ bAA
  have hsW : w.heap.size + 2 ≤ W.heap.size := by rw [← hW]; simp
  have t0 : W.cell? ⟨w.heap.size, 0, none⟩ = some (.int .i64 t.1) := by rw [← hW]; simp [go_sem]
  have r0 : W.cell? ⟨w.heap.size + 1, 0, none⟩ = some (.int .i64 0) := by rw [← hW]; simp [go_sem]
  have r1 : W.cell? ⟨w.heap.size + 1, 1, none⟩ = some (.slice none 0 0) := by rw [← hW]; simp [go_sem]
  have q0 : W.frozen? ⟨w.heap.size + 1, 0, none⟩ = false := by rw [← hW]; simp [go_sem]
  have q1 : W.frozen? ⟨w.heap.size + 1, 1, none⟩ = false := by rw [← hW]; simp [go_sem]
  clear hW p0
  refine (l04Asked_any _ HP.out ar).mono ?_
  rintro e w1 ⟨rfl, hq1⟩
  have hb1 := hq1.below
  have hB1 := bthen hbW hb1
  have hz1 := hb1.size
  replace t0 := (cellB hb1 (by omega)).trans t0
  replace r0 := (cellB hb1 (by omega)).trans r0
  replace r1 := (cellB hb1 (by omega)).trans r1
  replace q0 := (frozenB hb1 (by omega)).trans q0
  replace q1 := (frozenB hb1 (by omega)).trans q1
  have hl1 : w.heap.size + 2 ≤ w1.heap.size := by omega
  replace HP := Lib.hid (HP.out.below hb1)
  clear hq1
  have HZ0 := Lib.hid (fun (x y : Value) => res2_0 (x := x) (y := y) r0)
  have HZ1 := Lib.hid (fun (x y : Value) => res2_1 (x := x) (y := y) r1)
  cases ha : (askC t ar != 0)
  · have ha0 : askC t ar = 0 := by simpa using ha
    have HAOK := Lib.hid (ask_ok ha0)
    have HA0 := Lib.hid ha0
    have har := (ask_ok ha0).2
    have hs4 := (ask_ok ha0).1.1
    unfold sizeOk at hs4
    rw [ha0]
    clear ha ha0
    cases hle : ((ls.length : Int) != (vs.length : Int))
    · have hlen : ls.length = vs.length := by have : (ls.length : Int) = vs.length := by simpa using hle
                                              omega
      have HLEN := Lib.hid hlen
      clear hlen
      clear HZ0 HZ1
      go_wp2_with fail
      go_loopw [11] (fun i wr => ∃ k : Nat, k ≤ ls.length ∧ i = .int .i64 k ∧ wUp t ar ls vs k ∧ Quiet w1 wr) (fun i _ => ls.length - (intOf i).toNat)
      case atStart => exact ⟨0, Nat.zero_le _, rfl, fun j _ _ h => by omega, (by first | exact Quiet.refl _ | exact Quiet.drewN _ _ | exact (Quiet.drewN _ _).then (Quiet.drewN _ _) | exact ((Quiet.drewN _ _).then (Quiet.drewN _ _)).then (Quiet.drewN _ _))⟩
      case round =>
        obtain ⟨k, hk, rfl, hup, hqw⟩ := hrel
        have hbr := hqw.below
        have hBr := bthen hB1 hbr
        have hzr := hbr.size
        have HUP := Lib.hid hup
        obtain ⟨wv, rfl⟩ : ∃ wv : World, wv = wr := ⟨_, rfl⟩
        have x0 := (cellB hbr (by omega)).trans r0
        have x1 := (cellB hbr (by omega)).trans r1
        have y0 := (frozenB hbr (by omega)).trans q0
        have y1 := (frozenB hbr (by omega)).trans q1
        have c0 := (cellB hbr (by omega)).trans t0
        have HQW := Lib.hid hqw
        clear hup hqw
        by_cases hkl : k < ls.length
        · have hkv : k < vs.length := by rw [← HLEN.out]; exact hkl
          obtain ⟨_, _, hx, -, -, hxe⟩ := slice_exP ((rd_rdP HL.out).below hBr)
          simp only [List.cons.injEq, Value.slice.injEq, and_true] at hx
          obtain ⟨rfl, -, rfl⟩ := hx
          obtain ⟨lb, lo, rfl, hlb, -, hce⟩ := hxe (by omega)
          obtain ⟨cs, hcs, hcell⟩ := hce k hkl
          obtain ⟨ka, kc, rfl, -, -, -⟩ := slice_exP hcs
          have d0 : wv.cell? ⟨lb, lo + k, none⟩ = some (.slice ka ls[k].length kc) := by
            have := hcell 0 (by simp)
            simpa [Ty.slice] using this
          obtain ⟨_, _, hx, -, -, hxe'⟩ := slice_exP ((rd_rdP HV.out).below hBr)
          simp only [List.cons.injEq, Value.slice.injEq, and_true] at hx
          obtain ⟨rfl, -, rfl⟩ := hx
          obtain ⟨vb, vo, rfl, hvb, hvg, hce'⟩ := hxe' (by omega)
          obtain ⟨cs', ⟨fp', ⟨rfl, hIv, -⟩, -⟩, hcell'⟩ := hce' k hkv
          have d1 : wv.cell? ⟨vb, vo + k, none⟩ = some (.int .i64 vs[k]) := by
            have := hcell' 0 (by simp)
            simpa [Ty.int] using this
          have HRD := Lib.hid hcs.rd
          have HSU := Lib.hid (wUp_succ HUP.out hkl hkv)
          have HNO := Lib.hid (fun h => wOk_no (t := t) (ar := ar) HLEN.out hkl hkv h)
          rw [HLEN.out] at *
          clear hxe hce hcell hxe' hce' hcell' hcs
          have cT : ∀ n, Calls Try.prog 44 #[.int .i64 t.1, .int .i64 ar, .slice ka ls[k].length kc] (wv.drewN n) fun e w'' => e = .returned (.bool (tb (rowOk t.1 ar ls[k]))) ∧ ∃ m, w'' = wv.drewN m := fun n => pure_drawn (l01Tuple_any _ _ _ (HRD.out.below (Quiet.drewN wv n).below) (by omega) (by omega))
          have cI : ∀ n, Calls Try.prog 45 #[.int .i64 vs[k], .int .i64 0, .int .i64 (t.1 - 1)] (wv.drewN n) fun e w'' => e = .returned (.bool (inB vs[k] 0 (t.1 - 1))) ∧ ∃ m, w'' = wv.drewN m := fun n => pure_drawn (l00In_any _ _ _ _)
          have hwr : IntKind.i64.wrap (t.1 - 1) = t.1 - 1 := wrap_small (by omega) (by omega)
          generalize h1 : tb (rowOk t.1 ar ls[k]) = B1 at *
          generalize h2 : inB vs[k] 0 (t.1 - 1) = B2 at *
          generalize hvk : vs[k] = z at *
          clear h1 h2 hvk
          cases B1
          · have HR := Lib.hid (pw_bad HA0.out (HNO.out (.inl rfl)))
            go_wp2_with fail
            go_quiet (first | exact cT _ | exact cI _)
            clear cT cI
            generalize hX : wv.drewN _ = wx
            have hbx : Below wv.heap.size wv wx := hX ▸ (Quiet.drewN wv _).below
            have hzx := hbx.size
            clear hX
            replace x0 := (cellB hbx (by omega)).trans x0
            replace x1 := (cellB hbx (by omega)).trans x1
            replace y0 := (frozenB hbx (by omega)).trans y0
            replace y1 := (frozenB hbx (by omega)).trans y1
            have hBx := bthen hBr hbx
            have HZ0 := Lib.hid (fun (x y : Value) => res2_0 (x := x) (y := y) x0)
            have HZ1 := Lib.hid (fun (x y : Value) => res2_1 (x := x) (y := y) x1)
            go_wp2_with fail
            refine bodyPost_ret (v := .tuple #[.agg #[.int .i64 0, .slice none 0 0], .int .i64 2]) (by simp [results, Try.results10, go_sem, HZ0.out, HZ1.out]) rfl ⟨[.int .i64 0, .slice none 0 0], by rw [HR.out.2], ?_, res2_b hBx (by omega)⟩
            rw [HR.out.1]
            exact fr_op0
          · cases B2
            · have HR := Lib.hid (pw_bad HA0.out (HNO.out (.inr rfl)))
              go_wp2_with fail
              go_quiet (first | exact cT _ | exact cI _)
              clear cT cI
              generalize hX : wv.drewN _ = wx
              have hbx : Below wv.heap.size wv wx := hX ▸ (Quiet.drewN wv _).below
              have hzx := hbx.size
              clear hX
              replace x0 := (cellB hbx (by omega)).trans x0
              replace x1 := (cellB hbx (by omega)).trans x1
              replace y0 := (frozenB hbx (by omega)).trans y0
              replace y1 := (frozenB hbx (by omega)).trans y1
              have hBx := bthen hBr hbx
              have HZ0 := Lib.hid (fun (x y : Value) => res2_0 (x := x) (y := y) x0)
              have HZ1 := Lib.hid (fun (x y : Value) => res2_1 (x := x) (y := y) x1)
              go_wp2_with fail
              refine bodyPost_ret (v := .tuple #[.agg #[.int .i64 0, .slice none 0 0], .int .i64 2]) (by simp [results, Try.results10, go_sem, HZ0.out, HZ1.out]) rfl ⟨[.int .i64 0, .slice none 0 0], by rw [HR.out.2], ?_, res2_b hBx (by omega)⟩
              rw [HR.out.1]
              exact fr_op0
            · have HE := Lib.hid (HSU.out rfl rfl)
              go_wp2_with fail
              go_quiet (first | exact cT _ | exact cI _)
              clear cT cI
              go_wp2_with fail
              go_roundw
              case rel => exact ⟨k + 1, by omega, by go_num, HE.out, HQW.out.then (by first | exact Quiet.refl _ | exact Quiet.drewN _ _ | exact (Quiet.drewN _ _).then (Quiet.drewN _ _) | exact ((Quiet.drewN _ _).then (Quiet.drewN _ _)).then (Quiet.drewN _ _))⟩
              case measure => simp [intOf]; omega
        · obtain rfl : k = ls.length := by omega
          have hnl : ¬ (ls.length < ls.length) := by omega
          have HOK := Lib.hid (wOk_true HLEN.out HUP.out)
          have HIN := Lib.hid (wOk_in HOK.out)
          have HPL := Lib.hid (pw_lw HA0.out HOK.out)
          clear r0 r1 q0 q1 t0 hle
          go_wp2_with fail
          refine (l04With_any _ (HP.out.below hbr) (HL.out.below hBr) (HV.out.below hBr) HAOK.out.1 har HIN.out.2.1 HIN.out.1 HIN.out.2.2 hL).mono ?_
          rintro e w7 ⟨cs7, rfl, hf7, hb7⟩
          rw [← HPL.out.1] at hf7
          rw [← HPL.out.2]
          generalize hV : pwV t ar ls vs = V at hf7
          generalize hC : pwC t ar ls vs = C
          have HCC := Lib.hid hC
          have HVV := Lib.hid hV
          obtain ⟨ad7, cap7, rfl⟩ := fr_pair hf7
          have HF7 := Lib.hid hf7
          have hB7 := bthen hBr hb7
          have hz7 := hb7.size
          replace x0 := (cellB hb7 (by omega)).trans x0
          replace x1 := (cellB hb7 (by omega)).trans x1
          replace y0 := (frozenB hb7 (by omega)).trans y0
          replace y1 := (frozenB hb7 (by omega)).trans y1
          have hl7 : w.heap.size + 2 ≤ w7.heap.size := by omega
          have HZ0 := Lib.hid (fun (x y : Value) => res2_0 (x := x) (y := y) x0)
          have HZ1 := Lib.hid (fun (x y : Value) => res2_1 (x := x) (y := y) x1)
          clear hf7 HPL hC hV
          go_wp2_with fail
          refine bodyPost_ret (v := .tuple #[.agg #[.int .i64 V.1, .slice ad7 V.2.length cap7], .int .i64 C]) (by simp [results, Try.results10, go_sem, HZ0.out, HZ1.out]) rfl ⟨[.int .i64 V.1, .slice ad7 V.2.length cap7], by rw [HCC.out], ?_, res2_b hB7 (by omega)⟩
          rw [HVV.out]
          exact ((HF7.out.set (a := ⟨w.heap.size + 1, 0, none⟩) (show w.heap.size + 1 < wv.heap.size by omega)).set (a := ⟨w.heap.size + 1, 1, none⟩) (show w.heap.size + 1 < wv.heap.size by omega)).mono (by omega)
    · have HR := Lib.hid (pw_bad (ar := ar) (vs := vs) HA0.out (wOk_len (fun h => by rw [h] at hle; simp at hle)))
      go_wp2_with fail
      refine bodyPost_ret (v := .tuple #[.agg #[.int .i64 0, .slice none 0 0], .int .i64 2]) (by simp [results, Try.results10, go_sem, HZ0.out, HZ1.out]) rfl ⟨[.int .i64 0, .slice none 0 0], by rw [HR.out.2], ?_, res2_b hB1 (by omega)⟩
      rw [HR.out.1]
      exact fr_op0
  · have HR := Lib.hid (pw_ask (t := t) (ar := ar) (ls := ls) (vs := vs) (by simpa using ha))
    generalize askC t ar = C at *
    go_wp2_with fail
    refine bodyPost_ret (v := .tuple #[.agg #[.int .i64 0, .slice none 0 0], .int .i64 C]) (by simp [results, Try.results10, go_sem, HZ0.out, HZ1.out]) rfl ⟨[.int .i64 0, .slice none 0 0], by rw [HR.out.2], ?_, res2_b hB1 (by omega)⟩
    rw [HR.out.1]
    exact fr_op0
end Go.Proofs.Ytccobadobklbpaa
namespace Go.Proofs.Ytccobadobklbpaa
open Go.RowKit Go.Sort
theorem getLastD_or {α : Type} (l : List α) (d : α) : l.getLastD d = d ∨ l.getLastD d ∈ l := by
  rcases List.eq_nil_or_concat l with rfl | ⟨l', a, rfl⟩
  · exact .inl rfl
  · right; rw [List.concat_eq_append, List.getLastD_concat]; simp
theorem fo_len {t : Tpl} {ar : Int} {f : List Int} : (foV ar (polyF t ar f fun _ => -1)).2.length ≤ tabL t ar := by
  unfold foV
  split
  · rcases getLastD_or (polyF t ar f fun _ => -1).2.2 [] with h | h
    · show ((polyF t ar f fun _ => -1).2.2.getLastD []).length ≤ _
      rw [h]; exact Nat.zero_le _
    · show ((polyF t ar f fun _ => -1).2.2.getLastD []).length ≤ _
      rcases srch_lens _ _ _ h with h2 | h2
      · cases h2
      · rw [h2]; simp
  · exact Nat.zero_le _
theorem pw_len {t : Tpl} {ar : Int} {ls : List (List Int)} {vs : List Int} : (pwV t ar ls vs).2.length ≤ 64 := by
  by_cases h1 : askC t ar = 0
  · cases h0 : wOk t ar ls vs
    · rw [(pw_bad h1 h0).1]; exact Nat.zero_le _
    · rw [(pw_lw h1 h0).1]
      cases hw : wF t ar ls vs with
      | none => rw [(lw_none hw).1]; exact Nat.zero_le _
      | some f =>
        cases h2 : limF t ar.toNat
        · rw [(lw_fo hw h2).1]
          obtain ⟨hT, har⟩ := ask_ok h1
          have hNb := tabN_bd (tabN_of hT.1 (ar := ar.toNat) (by omega) (tabL_of hT))
          exact Nat.le_trans fo_len hNb.2
        · rw [(lw_lim hw h2).1]; exact Nat.zero_le _
  · rw [(pw_ask h1).1]; exact Nat.zero_le _
theorem pw_cnt {t : Tpl} {ar : Int} {ls : List (List Int)} {vs : List Int} : cntOp (pwV t ar ls vs) ≤ 1000000 := by
  have := pw_len (t := t) (ar := ar) (ls := ls) (vs := vs)
  unfold cntOp cntI
  omega
end Go.Proofs.Ytccobadobklbpaa
namespace Go.Proofs.Ytccobadobklbpaa
open Go.RowKit Go.Sort

set_option maxHeartbeats 800000 in
theorem markInt64S_any (w : World) {v : Value} {xs : List Int} {fp : List Nat} (h : intsT.rd w [v] xs fp) (hn : fp.Nodup) (hu : Unf w fp) (k : Int) (h0 : 0 ≤ k) (h1 : k + cntI xs ≤ 4611686018427387904) :
    Calls Try.prog 21 #[v, .int .i64 k] w fun e w' => e = .returned (.int .i64 (k + cntI xs)) ∧ TchF fp w w' ∧ intsT.rd w' [v] (mkI k xs) fp ∧ Unf w' fp := by
  obtain ⟨ad, cap, rfl⟩ := rd_slice ⟨fp, h⟩
  unfold cntI at h1
  go_enter Try.func21, Try.ntmps21
  go_wp2_with fail
  go_loopw [1, 5] (fun l i wr => ∃ j : Nat, j ≤ xs.length ∧ i = .int .i64 j ∧ l = .int .i64 (k + j) ∧ TchF fp w wr ∧ intsT.rd wr [.slice ad xs.length cap] (mkAt (fun k _ => k) (fun _ => 1) k xs j) fp ∧ Unf wr fp) (fun _ i _ => xs.length - (intOf i).toNat)
  case atStart => exact ⟨0, Nat.zero_le _, rfl, by simp, TchF.refl _ _, by rw [mkAt_zero]; exact h, hu⟩
  case round =>
    obtain ⟨j, hj, rfl, rfl, ht, hr, hU⟩ := hrel
    by_cases hjl : j < xs.length
    · obtain ⟨b, o, cap', hv, hb, hc, hf, hw⟩ := ints_mark hr hn hU (i := j) (by rw [mkAt_len]; exact hjl)
      simp only [mkAt_len, Value.slice.injEq, true_and] at hv
      obtain ⟨rfl, rfl⟩ := hv
      have H := Lib.hid (hw (k + j) ⟨by omega, by omega⟩)
      have e := mkAt_set (f := fun k _ => k) (c := fun _ => 1) (k := k) hjl
      rw [sumL_one, take_len hj] at e
      have HR := Lib.hid hr
      have HU := Lib.hid hU
      have HE := Lib.hid e
      clear hr hU hw h hu e
      go_wp2_with fail
      go_roundw
      case rel => exact ⟨j + 1, by omega, by go_num, by go_num, ht.trans H.out.2.2, by rw [← HE.out]; exact H.out.1, H.out.2.1⟩
      case measure => simp [intOf]; omega
    · obtain rfl : j = xs.length := by omega
      rw [mkAt_full] at hr
      have HR := Lib.hid hr
      have HU := Lib.hid hU
      clear hr hU h hu
      go_wp2_with fail
      go_ret
      exact ⟨rfl, ht, HR.out, HU.out⟩
set_option maxHeartbeats 800000 in
theorem heldInt64S_any (w : World) {v : Value} {xs : List Int} (k : Int) (h : intsT.Rd w [v] (mkI k xs)) (h0 : 0 ≤ k) (h1 : k + cntI xs ≤ 4611686018427387904) :
    Calls Try.prog 35 #[v, .int .i64 k] w fun e w' => e = .returned (.int .i64 (k + cntI xs)) ∧ Below w.heap.size w w' := by
  obtain ⟨ad, cap, hv, -, -, hcell⟩ := ints_ex h
  have hlen : (mkI k xs).length = xs.length := mkL_len
  rw [hlen] at hv
  obtain rfl : v = _ := by simpa using hv
  unfold cntI at h1
  clear h hv
  go_enter Try.func35, Try.ntmps35
  go_wp2_with fail
  go_loopw [1, 5] (fun l i wr => ∃ j : Nat, j ≤ xs.length ∧ i = .int .i64 j ∧ l = .int .i64 (k + j) ∧ Below w.heap.size w wr) (fun _ i _ => xs.length - (intOf i).toNat)
  case atStart => exact ⟨0, Nat.zero_le _, rfl, by simp, Below.refl _ _⟩
  case round =>
    obtain ⟨j, hj, rfl, rfl, hbel⟩ := hrel
    by_cases hjl : j < xs.length
    · obtain ⟨b, o, rfl, hb, hce⟩ := hcell (by omega)
      obtain ⟨-, hc0⟩ := hce j (by omega)
      have e : (mkI k xs)[j]'(by omega) = k + j := by
        have := mkL_get (f := fun (k : Int) (_ : Int) => k) (c := fun _ => 1) (k := k) hjl (by rw [mkL_len]; exact hjl)
        rw [sumL_one, take_len hj] at this
        exact this
      rw [e] at hc0
      have d0 : wr.cell? ⟨b, o + j, none⟩ = some (.int .i64 (k + j)) := (hbel.cell hb).trans hc0
      clear hcell hce hc0 e hlen
      go_wp2_with fail
      go_roundw
      case rel => exact ⟨j + 1, by omega, by go_num, by go_num, hbel⟩
      case measure => simp [intOf]; omega
    · obtain rfl : j = xs.length := by omega
      clear hcell
      go_wp2_with fail
      go_ret
      exact ⟨rfl, hbel⟩
set_option maxHeartbeats 800000 in
theorem markInt64SS_any (w : World) {v : Value} {xs : List (List Int)} {fp : List Nat} (h : rowsT.rd w [v] xs fp) (hn : fp.Nodup) (hu : Unf w fp) (k : Int) (h0 : 0 ≤ k) (h1 : k + cntRows xs ≤ 4611686018427387904) :
    Calls Try.prog 20 #[v, .int .i64 k] w fun e w' => e = .returned (.int .i64 (k + cntRows xs)) ∧ TchF fp w w' ∧ rowsT.rd w' [v] (mkRows k xs) fp ∧ Unf w' fp := by
  obtain ⟨_, _, _, _, hL, _⟩ := Ty.slice_ex ⟨fp, h⟩
  obtain ⟨ad, cap, rfl⟩ := rd_slice ⟨fp, h⟩
  have HS : Hid (cntRows xs = sumL cntI xs) := rfl
  rw [HS.out] at h1
  go_enter Try.func20, Try.ntmps20
  go_wp2_with fail
  go_loopw [1, 5] (fun l i wr => ∃ j : Nat, j ≤ xs.length ∧ i = .int .i64 j ∧ l = .int .i64 (k + sumL cntI (xs.take j)) ∧ TchF fp w wr ∧ rowsT.rd wr [.slice ad xs.length cap] (mkAt mkI cntI k xs j) fp ∧ Unf wr fp) (fun _ i _ => xs.length - (intOf i).toNat)
  case atStart => exact ⟨0, Nat.zero_le _, rfl, by simp [sumL], TchF.refl _ _, by rw [mkAt_zero]; exact h, hu⟩
  case round =>
    obtain ⟨j, hj, rfl, rfl, ht, hr, hU⟩ := hrel
    have hs0 := sumL_nonneg cntI_nn (xs.take j)
    by_cases hjl : j < xs.length
    · obtain ⟨b, o, cap', u, f, hv, hb, hc, hd, hfn, hfu, hw⟩ := rows_mark hr hn hU (i := j) (by rw [mkAt_len]; exact hjl)
      simp only [mkAt_len, Value.slice.injEq, true_and] at hv
      obtain ⟨rfl, rfl⟩ := hv
      rw [mkAt_get hjl] at hd
      have hs1 := sumL_succ cntI hjl
      have hs2 := sumL_take_le cntI_nn xs (j + 1)
      have HE := Lib.hid (mkAt_set (f := mkI) (c := cntI) (k := k) hjl)
      have HD := Lib.hid hd
      have HW := Lib.hid hw
      have HFN := Lib.hid hfn
      have HFU := Lib.hid hfu
      clear hr hU hw h hu hd hfn hfu
      go_wp2_with fail
      refine (markInt64S_any _ HD.out HFN.out HFU.out _ (by omega) (by omega)).mono ?_
      rintro e w1 ⟨rfl, g1, g2, g3⟩
      obtain ⟨q1, q2, q3⟩ := HW.out _ _ g1 g2 g3
      rw [HE.out] at q1
      have HQ := Lib.hid q1
      have HQ2 := Lib.hid q2
      clear q1 q2 g1 g2 g3 hc
      go_wp2_with fail
      go_roundw
      case rel => exact ⟨j + 1, by omega, by go_num, by rw [hs1]; go_num, ht.trans q3, HQ.out, HQ2.out⟩
      case measure => simp [intOf]; omega
    · obtain rfl : j = xs.length := by omega
      rw [mkAt_full] at hr
      rw [List.take_length]
      have HR := Lib.hid hr
      have HU := Lib.hid hU
      clear hr hU h hu
      go_wp2_with fail
      go_ret
      exact ⟨by rw [HS.out]; rfl, ht, HR.out, HU.out⟩
set_option maxHeartbeats 800000 in
theorem heldInt64SS_any (w : World) {v : Value} {xs : List (List Int)} (k : Int) (h : rowsT.Rd w [v] (mkRows k xs)) (h0 : 0 ≤ k) (h1 : k + cntRows xs ≤ 4611686018427387904) :
    Calls Try.prog 62 #[v, .int .i64 k] w fun e w' => e = .returned (.int .i64 (k + cntRows xs)) ∧ Below w.heap.size w w' := by
  obtain ⟨ad, cap, hv, -, hL, hcell⟩ := slices_ex h
  have hlen : (mkRows k xs).length = xs.length := mkL_len
  rw [hlen] at hv hL
  obtain rfl : v = _ := by simpa using hv
  have HS : Hid (cntRows xs = sumL cntI xs) := rfl
  rw [HS.out] at h1
  clear h hv
  go_enter Try.func62, Try.ntmps62
  go_wp2_with fail
  go_loopw [1, 5] (fun l i wr => ∃ j : Nat, j ≤ xs.length ∧ i = .int .i64 j ∧ l = .int .i64 (k + sumL cntI (xs.take j)) ∧ Below w.heap.size w wr) (fun _ i _ => xs.length - (intOf i).toNat)
  case atStart => exact ⟨0, Nat.zero_le _, rfl, by simp [sumL], Below.refl _ _⟩
  case round =>
    obtain ⟨j, hj, rfl, rfl, hbel⟩ := hrel
    have hs0 := sumL_nonneg cntI_nn (xs.take j)
    by_cases hjl : j < xs.length
    · obtain ⟨b, o, rfl, hb, hce⟩ := hcell (by omega)
      obtain ⟨u, hd, hc0⟩ := hce j (by omega)
      have e : (mkRows k xs)[j]'(by omega) = mkI (k + sumL cntI (xs.take j)) xs[j] := mkL_get hjl (by rw [mkL_len]; exact hjl)
      rw [e] at hd
      have d0 : wr.cell? ⟨b, o + j, none⟩ = some u := (hbel.cell hb).trans hc0
      have HD := Lib.hid (hd.below hbel)
      have hs1 := sumL_succ cntI hjl
      have hs2 := sumL_take_le cntI_nn xs (j + 1)
      clear hcell hce hc0 e hlen hd
      go_wp2_with fail
      refine (heldInt64S_any _ _ HD.out (by omega) (by omega)).mono ?_
      rintro e w1 ⟨rfl, hb1⟩
      have hp : 0 ≤ k + sumL cntI (xs.take j) + cntI xs[j] := by have := cntI_nn xs[j]; omega
      go_wp2_with fail
      go_roundw
      case rel => exact ⟨j + 1, by omega, by go_num, by rw [hs1]; go_num, bthen hbel hb1⟩
      case measure => simp [intOf]; omega
    · obtain rfl : j = xs.length := by omega
      rw [List.take_length]
      clear hcell
      go_wp2_with fail
      go_ret
      exact ⟨by rw [HS.out]; rfl, hbel⟩
set_option maxHeartbeats 800000 in
theorem markAtomS_any (w : World) {v : Value} {xs : List (Int × List Int)} {fp : List Nat} (h : opsT.rd w [v] xs fp) (hn : fp.Nodup) (hu : Unf w fp) (k : Int) (h0 : 0 ≤ k) (h1 : k + cntOps xs ≤ 4611686018427387904) :
    Calls Try.prog 88 #[v, .int .i64 k] w fun e w' => e = .returned (.int .i64 (k + cntOps xs)) ∧ TchF fp w w' ∧ opsT.rd w' [v] (mkOps k xs) fp ∧ Unf w' fp := by
  obtain ⟨_, _, _, _, hL, _⟩ := Ty.slice_ex ⟨fp, h⟩
  obtain ⟨ad, cap, rfl⟩ := rd_slice ⟨fp, h⟩
  have HS : Hid (cntOps xs = sumL cntOp1 xs) := rfl
  rw [HS.out] at h1
  go_enter Try.func88, Try.ntmps88
  go_wp2_with fail
  go_loopw [1, 5] (fun l i wr => ∃ j : Nat, j ≤ xs.length ∧ i = .int .i64 j ∧ l = .int .i64 (k + sumL cntOp1 (xs.take j)) ∧ TchF fp w wr ∧ opsT.rd wr [.slice ad xs.length cap] (mkAt mkOp1 cntOp1 k xs j) fp ∧ Unf wr fp) (fun _ i _ => xs.length - (intOf i).toNat)
  case atStart => exact ⟨0, Nat.zero_le _, rfl, by simp [sumL], TchF.refl _ _, by rw [mkAt_zero]; exact h, hu⟩
  case round =>
    obtain ⟨j, hj, rfl, rfl, ht, hr, hU⟩ := hrel
    have hs0 := sumL_nonneg cntOp1_nn (xs.take j)
    by_cases hjl : j < xs.length
    · obtain ⟨b, o, cap', u, f, hv, hb, hc, hc1, hfz, hw⟩ := pairs_mark hr hn hU (i := j) (by rw [mkAt_len]; exact hjl)
      simp only [mkAt_len, Value.slice.injEq, true_and] at hv
      obtain ⟨rfl, rfl⟩ := hv
      have hs1 := sumL_succ cntOp1 hjl
      have hs2 := sumL_take_le cntOp1_nn xs (j + 1)
      have hi0 := cntI_nn xs[j].2
      have hi1 : cntOp1 xs[j] = 1 + cntI xs[j].2 := rfl
      obtain ⟨w1, hw1, c1, hd, hfn, hfu, -, hw'⟩ := hw (k + sumL cntOp1 (xs.take j)) ⟨by omega, by omega⟩
      rw [mkAt_get hjl] at hd
      have HE := Lib.hid (mkAt_set (f := mkOp1) (c := cntOp1) (k := k) hjl)
      have HD := Lib.hid hd
      have HW := Lib.hid hw'
      have HFN := Lib.hid hfn
      have HFU := Lib.hid hfu
      clear hr hU hw hw' h hu hd hfn hfu
      go_wp2_with fail
      rw [← hw1]
      go_wp2_with fail
      refine (markInt64S_any _ HD.out HFN.out HFU.out _ (by omega) (by omega)).mono ?_
      rintro e w2 ⟨rfl, g1, g2, g3⟩
      obtain ⟨q1, q2, q3⟩ := HW.out _ _ g1 g2 g3
      have he : (mkAt mkOp1 cntOp1 k xs j).set j (k + sumL cntOp1 (xs.take j), mkI (k + sumL cntOp1 (xs.take j) + 1) xs[j].2) = mkAt mkOp1 cntOp1 k xs (j + 1) := HE.out
      rw [he] at q1
      have HQ := Lib.hid q1
      have HQ2 := Lib.hid q2
      clear q1 q2 g1 g2 g3 hc hc1 c1 hfz he
      go_wp2_with fail
      go_roundw
      case rel => exact ⟨j + 1, by omega, by go_num, by rw [hs1, hi1]; go_num, ht.trans q3, HQ.out, HQ2.out⟩
      case measure => simp [intOf]; omega
    · obtain rfl : j = xs.length := by omega
      rw [mkAt_full] at hr
      rw [List.take_length]
      have HR := Lib.hid hr
      have HU := Lib.hid hU
      clear hr hU h hu
      go_wp2_with fail
      go_ret
      exact ⟨by rw [HS.out]; rfl, ht, HR.out, HU.out⟩
set_option maxHeartbeats 800000 in
theorem heldAtomS_any (w : World) {v : Value} {xs : List (Int × List Int)} (k : Int) (h : opsT.Rd w [v] (mkOps k xs)) (h0 : 0 ≤ k) (h1 : k + cntOps xs ≤ 4611686018427387904) :
    Calls Try.prog 89 #[v, .int .i64 k] w fun e w' => e = .returned (.int .i64 (k + cntOps xs)) ∧ Below w.heap.size w w' := by
  obtain ⟨ad, cap, hv, -, hL, hcell⟩ := pairs_ex h
  have hlen : (mkOps k xs).length = xs.length := mkL_len
  rw [hlen] at hv hL
  obtain rfl : v = _ := by simpa using hv
  have HS : Hid (cntOps xs = sumL cntOp1 xs) := rfl
  rw [HS.out] at h1
  clear h hv
  go_enter Try.func89, Try.ntmps89
  go_wp2_with fail
  go_loopw [1, 5] (fun l i wr => ∃ j : Nat, j ≤ xs.length ∧ i = .int .i64 j ∧ l = .int .i64 (k + sumL cntOp1 (xs.take j)) ∧ Below w.heap.size w wr) (fun _ i _ => xs.length - (intOf i).toNat)
  case atStart => exact ⟨0, Nat.zero_le _, rfl, by simp [sumL], Below.refl _ _⟩
  case round =>
    obtain ⟨j, hj, rfl, rfl, hbel⟩ := hrel
    have hs0 := sumL_nonneg cntOp1_nn (xs.take j)
    by_cases hjl : j < xs.length
    · obtain ⟨b, o, rfl, hb, hce⟩ := hcell (by omega)
      obtain ⟨u, hd, -, hc0, hc1⟩ := hce j (by omega)
      have e : (mkOps k xs)[j]'(by omega) = mkOp1 (k + sumL cntOp1 (xs.take j)) xs[j] := mkL_get hjl (by rw [mkL_len]; exact hjl)
      rw [e] at hd hc0
      have d0 : wr.cell? ⟨b, o + j * 2, none⟩ = some (.int .i64 (k + sumL cntOp1 (xs.take j))) := (hbel.cell hb).trans hc0
      have d1 : wr.cell? ⟨b, o + j * 2 + 1, none⟩ = some u := (hbel.cell hb).trans hc1
      have hd' : _ := hd.below hbel
      have HD := Lib.hid hd'
      have hs1 := sumL_succ cntOp1 hjl
      have hs2 := sumL_take_le cntOp1_nn xs (j + 1)
      have hi0 := cntI_nn xs[j].2
      have hi1 : cntOp1 xs[j] = 1 + cntI xs[j].2 := rfl
      clear hcell hce hc0 hc1 e hlen hd hd'
      go_wp2_with fail
      refine (heldInt64S_any _ _ HD.out (by omega) (by omega)).mono ?_
      rintro e w1 ⟨rfl, hb1⟩
      have hp : 0 ≤ k + sumL cntOp1 (xs.take j) + 1 + cntI xs[j].2 := by omega
      go_wp2_with fail
      go_roundw
      case rel => exact ⟨j + 1, by omega, by go_num, by rw [hs1, hi1]; go_num, bthen hbel hb1⟩
      case measure => simp [intOf]; omega
    · obtain rfl : j = xs.length := by omega
      rw [List.take_length]
      clear hcell
      go_wp2_with fail
      go_ret
      exact ⟨by rw [HS.out]; rfl, hbel⟩
set_option maxHeartbeats 800000 in
theorem markRelS_any (w : World) {v : Value} {xs : List (Int × List (List Int))} {fp : List Nat} (h : relsT.rd w [v] xs fp) (hn : fp.Nodup) (hu : Unf w fp) (k : Int) (h0 : 0 ≤ k) (h1 : k + cntRels xs ≤ 4611686018427387904) :
    Calls Try.prog 57 #[v, .int .i64 k] w fun e w' => e = .returned (.int .i64 (k + cntRels xs)) ∧ TchF fp w w' ∧ relsT.rd w' [v] (mkRels k xs) fp ∧ Unf w' fp := by
  obtain ⟨_, _, _, _, hL, _⟩ := Ty.slice_ex ⟨fp, h⟩
  obtain ⟨ad, cap, rfl⟩ := rd_slice ⟨fp, h⟩
  have HS : Hid (cntRels xs = sumL cntRel1 xs) := rfl
  rw [HS.out] at h1
  go_enter Try.func57, Try.ntmps57
  go_wp2_with fail
  go_loopw [1, 5] (fun l i wr => ∃ j : Nat, j ≤ xs.length ∧ i = .int .i64 j ∧ l = .int .i64 (k + sumL cntRel1 (xs.take j)) ∧ TchF fp w wr ∧ relsT.rd wr [.slice ad xs.length cap] (mkAt mkRel1 cntRel1 k xs j) fp ∧ Unf wr fp) (fun _ i _ => xs.length - (intOf i).toNat)
  case atStart => exact ⟨0, Nat.zero_le _, rfl, by simp [sumL], TchF.refl _ _, by rw [mkAt_zero]; exact h, hu⟩
  case round =>
    obtain ⟨j, hj, rfl, rfl, ht, hr, hU⟩ := hrel
    have hs0 := sumL_nonneg cntRel1_nn (xs.take j)
    by_cases hjl : j < xs.length
    · obtain ⟨b, o, cap', u, f, hv, hb, hc, hc1, hfz, hw⟩ := pairs_mark hr hn hU (i := j) (by rw [mkAt_len]; exact hjl)
      simp only [mkAt_len, Value.slice.injEq, true_and] at hv
      obtain ⟨rfl, rfl⟩ := hv
      have hs1 := sumL_succ cntRel1 hjl
      have hs2 := sumL_take_le cntRel1_nn xs (j + 1)
      have hi0 := cntRows_nn xs[j].2
      have hi1 : cntRel1 xs[j] = 1 + cntRows xs[j].2 := rfl
      obtain ⟨w1, hw1, c1, hd, hfn, hfu, -, hw'⟩ := hw (k + sumL cntRel1 (xs.take j)) ⟨by omega, by omega⟩
      rw [mkAt_get hjl] at hd
      have HE := Lib.hid (mkAt_set (f := mkRel1) (c := cntRel1) (k := k) hjl)
      have HD := Lib.hid hd
      have HW := Lib.hid hw'
      have HFN := Lib.hid hfn
      have HFU := Lib.hid hfu
      clear hr hU hw hw' h hu hd hfn hfu
      go_wp2_with fail
      rw [← hw1]
      go_wp2_with fail
      refine (markInt64SS_any _ HD.out HFN.out HFU.out _ (by omega) (by omega)).mono ?_
      rintro e w2 ⟨rfl, g1, g2, g3⟩
      obtain ⟨q1, q2, q3⟩ := HW.out _ _ g1 g2 g3
      have he : (mkAt mkRel1 cntRel1 k xs j).set j (k + sumL cntRel1 (xs.take j), mkRows (k + sumL cntRel1 (xs.take j) + 1) xs[j].2) = mkAt mkRel1 cntRel1 k xs (j + 1) := HE.out
      rw [he] at q1
      have HQ := Lib.hid q1
      have HQ2 := Lib.hid q2
      clear q1 q2 g1 g2 g3 hc hc1 c1 hfz he
      go_wp2_with fail
      go_roundw
      case rel => exact ⟨j + 1, by omega, by go_num, by rw [hs1, hi1]; go_num, ht.trans q3, HQ.out, HQ2.out⟩
      case measure => simp [intOf]; omega
    · obtain rfl : j = xs.length := by omega
      rw [mkAt_full] at hr
      rw [List.take_length]
      have HR := Lib.hid hr
      have HU := Lib.hid hU
      clear hr hU h hu
      go_wp2_with fail
      go_ret
      exact ⟨by rw [HS.out]; rfl, ht, HR.out, HU.out⟩
set_option maxHeartbeats 800000 in
theorem markRel_any (w : World) {cs : Array Value} {xs : Int × List (List Int)} {fp : List Nat} (h : relT.rd w cs.toList xs fp) (hn : fp.Nodup) (hu : Unf w fp) (k : Int) (h0 : 0 ≤ k) (h1 : k + cntRel xs ≤ 4611686018427387904) :
    Calls Try.prog 27 #[.agg cs, .int .i64 k] w fun e w' => e = .returned (.int .i64 (k + cntRel xs)) ∧ TchF fp w w' ∧ relT.rd w' cs.toList (mkRel k xs) fp ∧ Unf w' fp := by
  obtain ⟨u, hv, hd, hcl⟩ := rd_pair h
  obtain rfl := agg_of hv
  clear hv
  go_enter Try.func27, Try.ntmps27
  go_wp2_with fail
  refine (markInt64SS_any _ ((Ty.slice _).same hd (Same.below bA ((Ty.slice _).lt hd))) hn (hu.same (Same.below bA ((Ty.slice _).lt hd))) _ h0 h1).mono ?_
  rintro e w1 ⟨rfl, g1, g2, g3⟩
  go_wp2_with fail
  go_ret
  exact ⟨rfl, (Below.tchF bA fp).trans g1, hcl _ _ g2, g3⟩
set_option maxHeartbeats 800000 in
theorem heldRel_any (w : World) {cs : Array Value} {xs : Int × List (List Int)} (k : Int) (h : relT.Rd w cs.toList (mkRel k xs)) (h0 : 0 ≤ k) (h1 : k + cntRel xs ≤ 4611686018427387904) :
    Calls Try.prog 28 #[.agg cs, .int .i64 k] w fun e w' => e = .returned (.int .i64 (k + cntRel xs)) ∧ Below w.heap.size w w' := by
  obtain ⟨u, hv, -, hd⟩ := pair_ex h
  obtain rfl := agg_of hv
  clear hv h
  go_enter Try.func28, Try.ntmps28
  go_wp2_with fail
  refine (heldInt64SS_any _ _ (hd.below bA) h0 h1).mono ?_
  rintro e w1 ⟨rfl, hb1⟩
  have hp : 0 ≤ k + cntRel xs := by have := cntRows_nn xs.2; unfold cntRel; omega
  unfold cntRel at hp
  go_wp2_with fail
  go_ret
  exact ⟨rfl, (by repeat (first | exact Below.refl _ _ | exact bA | assumption | refine Below.setCell ?_ (by first | omega | (simp; try omega)) _ | refine Below.alloc ?_ (by first | omega | (simp; try omega)) _ | refine Below.drew ?_ | refine bDN ?_ | refine bthen ?_ (by assumption)))⟩
set_option maxHeartbeats 800000 in
theorem markOp_any (w : World) {cs : Array Value} {xs : Int × List Int} {fp : List Nat} (h : opT.rd w cs.toList xs fp) (hn : fp.Nodup) (hu : Unf w fp) (k : Int) (h0 : 0 ≤ k) (h1 : k + cntOp xs ≤ 4611686018427387904) :
    Calls Try.prog 22 #[.agg cs, .int .i64 k] w fun e w' => e = .returned (.int .i64 (k + cntOp xs)) ∧ TchF fp w w' ∧ opT.rd w' cs.toList (mkOp k xs) fp ∧ Unf w' fp := by
  obtain ⟨u, hv, hd, hcl⟩ := rd_pair h
  obtain rfl := agg_of hv
  clear hv
  go_enter Try.func22, Try.ntmps22
  go_wp2_with fail
  refine (markInt64S_any _ ((Ty.slice _).same hd (Same.below bA ((Ty.slice _).lt hd))) hn (hu.same (Same.below bA ((Ty.slice _).lt hd))) _ h0 h1).mono ?_
  rintro e w1 ⟨rfl, g1, g2, g3⟩
  go_wp2_with fail
  go_ret
  exact ⟨rfl, (Below.tchF bA fp).trans g1, hcl _ _ g2, g3⟩
set_option maxHeartbeats 800000 in
theorem heldOp_any (w : World) {cs : Array Value} {xs : Int × List Int} (k : Int) (h : opT.Rd w cs.toList (mkOp k xs)) (h0 : 0 ≤ k) (h1 : k + cntOp xs ≤ 4611686018427387904) :
    Calls Try.prog 23 #[.agg cs, .int .i64 k] w fun e w' => e = .returned (.int .i64 (k + cntOp xs)) ∧ Below w.heap.size w w' := by
  obtain ⟨u, hv, -, hd⟩ := pair_ex h
  obtain rfl := agg_of hv
  clear hv h
  go_enter Try.func23, Try.ntmps23
  go_wp2_with fail
  refine (heldInt64S_any _ _ (hd.below bA) h0 h1).mono ?_
  rintro e w1 ⟨rfl, hb1⟩
  have hp : 0 ≤ k + cntOp xs := by have := cntI_nn xs.2; unfold cntOp; omega
  unfold cntOp at hp
  go_wp2_with fail
  go_ret
  exact ⟨rfl, (by repeat (first | exact Below.refl _ _ | exact bA | assumption | refine Below.setCell ?_ (by first | omega | (simp; try omega)) _ | refine Below.alloc ?_ (by first | omega | (simp; try omega)) _ | refine Below.drew ?_ | refine bDN ?_ | refine bthen ?_ (by assumption)))⟩
set_option maxHeartbeats 800000 in
theorem markTemplate_any (w : World) {cs : Array Value} {xs : Int × List (Int × List (List Int))} {fp : List Nat} (h : tplT.rd w cs.toList xs fp) (hn : fp.Nodup) (hu : Unf w fp) (k : Int) (h0 : 0 ≤ k) (h1 : k + cntTpl xs ≤ 4611686018427387904) :
    Calls Try.prog 19 #[.agg cs, .int .i64 k] w fun e w' => e = .returned (.int .i64 (k + cntTpl xs)) ∧ TchF fp w w' ∧ tplT.rd w' cs.toList (mkTpl k xs) fp ∧ Unf w' fp := by
  obtain ⟨u, hv, hd, hcl⟩ := rd_pair h
  obtain rfl := agg_of hv
  clear hv
  go_enter Try.func19, Try.ntmps19
  go_wp2_with fail
  refine (markRelS_any _ ((Ty.slice _).same hd (Same.below bA ((Ty.slice _).lt hd))) hn (hu.same (Same.below bA ((Ty.slice _).lt hd))) _ h0 h1).mono ?_
  rintro e w1 ⟨rfl, g1, g2, g3⟩
  go_wp2_with fail
  go_ret
  exact ⟨rfl, (Below.tchF bA fp).trans g1, hcl _ _ g2, g3⟩
set_option maxHeartbeats 800000 in
theorem markFormula_any (w : World) {cs : Array Value} {xs : Int × Int × List (Int × List Int)} {fp : List Nat} (h : frmT.rd w cs.toList xs fp) (hn : fp.Nodup) (hu : Unf w fp) (k : Int) (h0 : 0 ≤ k) (h1 : k + cntFrm xs ≤ 4611686018427387904) :
    Calls Try.prog 39 #[.agg cs, .int .i64 k] w fun e w' => e = .returned (.int .i64 (k + cntFrm xs)) ∧ TchF fp w w' ∧ frmT.rd w' cs.toList (mkFrm k xs) fp ∧ Unf w' fp := by
  obtain ⟨u, hv, hd, hcl⟩ := rd_trip h
  obtain rfl := agg_of hv
  clear hv
  go_enter Try.func39, Try.ntmps39
  go_wp2_with fail
  refine (markAtomS_any _ ((Ty.slice _).same hd (Same.below bA ((Ty.slice _).lt hd))) hn (hu.same (Same.below bA ((Ty.slice _).lt hd))) _ h0 h1).mono ?_
  rintro e w1 ⟨rfl, g1, g2, g3⟩
  go_wp2_with fail
  go_ret
  exact ⟨rfl, (Below.tchF bA fp).trans g1, hcl _ _ g2, g3⟩
set_option maxHeartbeats 800000 in
theorem heldFormula_any (w : World) {cs : Array Value} {xs : Int × Int × List (Int × List Int)} (k : Int) (h : frmT.Rd w cs.toList (mkFrm k xs)) (h0 : 0 ≤ k) (h1 : k + cntFrm xs ≤ 4611686018427387904) :
    Calls Try.prog 40 #[.agg cs, .int .i64 k] w fun e w' => e = .returned (.int .i64 (k + cntFrm xs)) ∧ Below w.heap.size w w' := by
  obtain ⟨u, hv, -, -, hd⟩ := trip_ex h
  obtain rfl := agg_of hv
  clear hv h
  go_enter Try.func40, Try.ntmps40
  go_wp2_with fail
  refine (heldAtomS_any _ _ (hd.below bA) h0 h1).mono ?_
  rintro e w1 ⟨rfl, hb1⟩
  have hp : 0 ≤ k + cntFrm xs := by have := cntOps_nn xs.2.2; unfold cntFrm; omega
  unfold cntFrm at hp
  go_wp2_with fail
  go_ret
  exact ⟨rfl, (by repeat (first | exact Below.refl _ _ | exact bA | assumption | refine Below.setCell ?_ (by first | omega | (simp; try omega)) _ | refine Below.alloc ?_ (by first | omega | (simp; try omega)) _ | refine Below.drew ?_ | refine bDN ?_ | refine bthen ?_ (by assumption)))⟩
theorem markInt64S_fx (w : World) {v : Value} {xs : List Int} {lo hi : Nat} (h : intsT.Fx lo hi w [v] xs) (k : Int) (h0 : 0 ≤ k) (h1 : k + cntI xs ≤ 4611686018427387904) :
    Calls Try.prog 21 #[v, .int .i64 k] w fun e w' => e = .returned (.int .i64 (k + cntI xs)) ∧ Tch lo hi w w' ∧ intsT.Fx lo hi w' [v] (mkI k xs) := by
  obtain ⟨fp, g1, g2, g3, g4⟩ := h
  exact (markInt64S_any w g1 g2 g4 k h0 h1).mono fun e w' ⟨he, ht, hr, hu⟩ => ⟨he, ht.tch g3, fp, hr, g2, g3, hu⟩
theorem markInt64SS_fx (w : World) {v : Value} {xs : List (List Int)} {lo hi : Nat} (h : rowsT.Fx lo hi w [v] xs) (k : Int) (h0 : 0 ≤ k) (h1 : k + cntRows xs ≤ 4611686018427387904) :
    Calls Try.prog 20 #[v, .int .i64 k] w fun e w' => e = .returned (.int .i64 (k + cntRows xs)) ∧ Tch lo hi w w' ∧ rowsT.Fx lo hi w' [v] (mkRows k xs) := by
  obtain ⟨fp, g1, g2, g3, g4⟩ := h
  exact (markInt64SS_any w g1 g2 g4 k h0 h1).mono fun e w' ⟨he, ht, hr, hu⟩ => ⟨he, ht.tch g3, fp, hr, g2, g3, hu⟩
theorem markRelS_fx (w : World) {v : Value} {xs : List (Int × List (List Int))} {lo hi : Nat} (h : relsT.Fx lo hi w [v] xs) (k : Int) (h0 : 0 ≤ k) (h1 : k + cntRels xs ≤ 4611686018427387904) :
    Calls Try.prog 57 #[v, .int .i64 k] w fun e w' => e = .returned (.int .i64 (k + cntRels xs)) ∧ Tch lo hi w w' ∧ relsT.Fx lo hi w' [v] (mkRels k xs) := by
  obtain ⟨fp, g1, g2, g3, g4⟩ := h
  exact (markRelS_any w g1 g2 g4 k h0 h1).mono fun e w' ⟨he, ht, hr, hu⟩ => ⟨he, ht.tch g3, fp, hr, g2, g3, hu⟩
theorem markRel_fx (w : World) {cs : Array Value} {xs : Int × List (List Int)} {lo hi : Nat} (h : relT.Fx lo hi w cs.toList xs) (k : Int) (h0 : 0 ≤ k) (h1 : k + cntRel xs ≤ 4611686018427387904) :
    Calls Try.prog 27 #[.agg cs, .int .i64 k] w fun e w' => e = .returned (.int .i64 (k + cntRel xs)) ∧ Tch lo hi w w' ∧ relT.Fx lo hi w' cs.toList (mkRel k xs) := by
  obtain ⟨fp, g1, g2, g3, g4⟩ := h
  exact (markRel_any w g1 g2 g4 k h0 h1).mono fun e w' ⟨he, ht, hr, hu⟩ => ⟨he, ht.tch g3, fp, hr, g2, g3, hu⟩
theorem markOp_fx (w : World) {cs : Array Value} {xs : Int × List Int} {lo hi : Nat} (h : opT.Fx lo hi w cs.toList xs) (k : Int) (h0 : 0 ≤ k) (h1 : k + cntOp xs ≤ 4611686018427387904) :
    Calls Try.prog 22 #[.agg cs, .int .i64 k] w fun e w' => e = .returned (.int .i64 (k + cntOp xs)) ∧ Tch lo hi w w' ∧ opT.Fx lo hi w' cs.toList (mkOp k xs) := by
  obtain ⟨fp, g1, g2, g3, g4⟩ := h
  exact (markOp_any w g1 g2 g4 k h0 h1).mono fun e w' ⟨he, ht, hr, hu⟩ => ⟨he, ht.tch g3, fp, hr, g2, g3, hu⟩
theorem markTemplate_fx (w : World) {cs : Array Value} {xs : Int × List (Int × List (List Int))} {lo hi : Nat} (h : tplT.Fx lo hi w cs.toList xs) (k : Int) (h0 : 0 ≤ k) (h1 : k + cntTpl xs ≤ 4611686018427387904) :
    Calls Try.prog 19 #[.agg cs, .int .i64 k] w fun e w' => e = .returned (.int .i64 (k + cntTpl xs)) ∧ Tch lo hi w w' ∧ tplT.Fx lo hi w' cs.toList (mkTpl k xs) := by
  obtain ⟨fp, g1, g2, g3, g4⟩ := h
  exact (markTemplate_any w g1 g2 g4 k h0 h1).mono fun e w' ⟨he, ht, hr, hu⟩ => ⟨he, ht.tch g3, fp, hr, g2, g3, hu⟩
theorem markFormula_fx (w : World) {cs : Array Value} {xs : Int × Int × List (Int × List Int)} {lo hi : Nat} (h : frmT.Fx lo hi w cs.toList xs) (k : Int) (h0 : 0 ≤ k) (h1 : k + cntFrm xs ≤ 4611686018427387904) :
    Calls Try.prog 39 #[.agg cs, .int .i64 k] w fun e w' => e = .returned (.int .i64 (k + cntFrm xs)) ∧ Tch lo hi w w' ∧ frmT.Fx lo hi w' cs.toList (mkFrm k xs) := by
  obtain ⟨fp, g1, g2, g3, g4⟩ := h
  exact (markFormula_any w g1 g2 g4 k h0 h1).mono fun e w' ⟨he, ht, hr, hu⟩ => ⟨he, ht.tch g3, fp, hr, g2, g3, hu⟩
end Go.Proofs.Ytccobadobklbpaa
