/-
Contracts: the reference's search for operations: its data; the next value at a place; whether the conditions hold.
-/
import Derived.Test.YthjafhjghjbdmaaGreatQAD
import Derived.Test.YthjafhjghjbdmaaGreatQAC
import Derived.Test.YthjafhjghjbdmaaGreatQAB
namespace Go.Proofs.YthjafhjghjbdmaaGreat
open Go.RowKit Go.Sort
/-- what the reference's search only reads: at block br -/
def Ru (ok : Nat → Prop) (w : World) (br : Nat) (t : Tpl) (ar : Int) (due : List (List (Int × List Int))) (fx : List Int) : Prop :=
  br < w.heap.size ∧ ∃ tb tw v2 v3 v4, w.cell? ⟨br, 0, none⟩ = some (.pointer (some ⟨tb, tw, none⟩)) ∧ tb < w.heap.size ∧ ok tb ∧ w.cell? ⟨tb, tw, none⟩ = some (.int .i64 t.1) ∧ w.cell? ⟨br, 1, none⟩ = some (.int .i64 ar) ∧ w.cell? ⟨br, 2, none⟩ = some v2 ∧ w.cell? ⟨br, 3, none⟩ = some v3 ∧ w.cell? ⟨br, 4, none⟩ = some v4 ∧
    (Ty.slice Ty.setp).RdP ok w [v2] (insF t) ∧ duesT.RdP ok w [v3] due ∧ intsT.RdP ok w [v4] fx
section
variable {ok ok' : Nat → Prop} {w w' : World} {br : Nat} {t : Tpl} {ar : Int} {due : List (List (Int × List Int))} {fx : List Int}
theorem Ru.below (h : Ru ok w br t ar due fx) (hb : Below w.heap.size w w') : Ru ok w' br t ar due fx := by
  obtain ⟨h1, tb, tw, v2, v3, v4, c0, ht, hk, ct, c1, c2, c3, c4, h3, h4, h5⟩ := h
  exact ⟨Nat.lt_of_lt_of_le h1 hb.size, tb, tw, v2, v3, v4, (hb.cell (p := ⟨br, 0, none⟩) h1).trans c0, Nat.lt_of_lt_of_le ht hb.size, hk, (hb.cell (p := ⟨tb, tw, none⟩) ht).trans ct, (hb.cell (p := ⟨br, 1, none⟩) h1).trans c1, (hb.cell (p := ⟨br, 2, none⟩) h1).trans c2, (hb.cell (p := ⟨br, 3, none⟩) h1).trans c3, (hb.cell (p := ⟨br, 4, none⟩) h1).trans c4, h3.below hb, h4.below hb, h5.below hb⟩
theorem Ru.tchP {O : Nat → Prop} (h : Ru ok w br t ar due fx) (ht : TchP O w w') (hO : ∀ k, k < w.heap.size → ok k → ¬ O k) (hb : ¬ O br) : Ru ok w' br t ar due fx := by
  obtain ⟨h1, tb, tw, v2, v3, v4, c0, htb, hk, ct, c1, c2, c3, c4, h3, h4, h5⟩ := h
  exact ⟨Nat.lt_of_lt_of_le h1 ht.size, tb, tw, v2, v3, v4, (ht.cell h1 hb).trans c0, Nat.lt_of_lt_of_le htb ht.size, hk, (ht.cell htb (hO tb htb hk)).trans ct, (ht.cell h1 hb).trans c1, (ht.cell h1 hb).trans c2, (ht.cell h1 hb).trans c3, (ht.cell h1 hb).trans c4, h3.tchP ht hO, h4.tchP ht hO, h5.tchP ht hO⟩
theorem Ru.set {i : Nat} {u : Value} (h : Ru ok w br t ar due fx) (hi : 5 ≤ i) (hO : ¬ ok br) : Ru ok (w.setCell ⟨br, i, none⟩ u) br t ar due fx := by
  obtain ⟨h1, tb, tw, v2, v3, v4, c0, htb, hk, ct, c1, c2, c3, c4, h3, h4, h5⟩ := h
  have hs : TchP (fun k => k = br) w (w.setCell ⟨br, i, none⟩ u) := TchP.set rfl
  have hkk : ∀ k, k < w.heap.size → ok k → ¬ (k = br) := fun k _ hk e => hO (e ▸ hk)
  have hc : ∀ j, j < 5 → (w.setCell ⟨br, i, none⟩ u).cell? ⟨br, j, none⟩ = w.cell? ⟨br, j, none⟩ := fun j hj => World.cell?_setCell_other _ _ _ _ (by first | (simp; done) | (simp; omega))
  exact ⟨by simpa [World.setCell] using h1, tb, tw, v2, v3, v4, (hc 0 (by omega)).trans c0, by simpa [World.setCell] using htb, hk, (hs.cell htb (hkk tb htb hk)).trans ct, (hc 1 (by omega)).trans c1, (hc 2 (by omega)).trans c2, (hc 3 (by omega)).trans c3, (hc 4 (by omega)).trans c4, h3.tchP hs hkk, h4.tchP hs hkk, h5.tchP hs hkk⟩
end
theorem other_1 {s i : Nat} {fx : List Int} {cur : Int} (h : decide (0 ≤ fx.getD i 0) = true) (h' : decide (cur < 0) = true) : otherV s fx i cur = fx.getD i 0 := by unfold otherV; rw [h, h']
theorem other_2 {s i : Nat} {fx : List Int} {cur : Int} (h : decide (0 ≤ fx.getD i 0) = true) (h' : decide (cur < 0) = false) : otherV s fx i cur = -1 := by unfold otherV; rw [h, h']
theorem other_3 {s i : Nat} {fx : List Int} {cur : Int} (h : decide (0 ≤ fx.getD i 0) = false) (h' : decide (cur + 1 < (s : Int)) = true) : otherV s fx i cur = cur + 1 := by unfold otherV; rw [h, h']
theorem other_4 {s i : Nat} {fx : List Int} {cur : Int} (h : decide (0 ≤ fx.getD i 0) = false) (h' : decide (cur + 1 < (s : Int)) = false) : otherV s fx i cur = -1 := by unfold otherV; rw [h, h']
set_option maxHeartbeats 1600000 in
set_option maxRecDepth 100000 in
theorem other_any (w : World) {ok : Nat → Prop} {br : Nat} {t : Tpl} {ar : Int} {due : List (List (Int × List Int))} {fx T : List Int} (hR : Ru ok w br t ar due fx) {v : Value} (c5 : w.cell? ⟨br, 5, none⟩ = some v) (hv : intsT.Rd w [v] T) {s p : Nat} (hs : t.1 = s) (_ : s ≤ 4) (hp : p < T.length) (hp2 : p < fx.length) (hl : T.length ≤ 1000) (hT : -1 ≤ T[p] ∧ T[p] ≤ 4) :
    Calls Tryz.prog 117 #[.pointer (some ⟨br, 0, none⟩), .int .i64 (p : Int)] w fun e w' => e = .returned (.int .i64 (otherV s fx p T[p])) ∧ Quiet w w' := by
  obtain ⟨hbr, tb, tw, v2, v3, v4, c0, htb, -, ct, c1, c2, c3, c4, -, -, h5⟩ := hR
  obtain ⟨_, _, he, -, -, hc⟩ := ints_ex hv
  obtain rfl : v = _ := by simpa using he
  obtain ⟨b, o, rfl, hb, hc⟩ := hc (by omega)
  have d1 := (hc p hp).2
  obtain ⟨_, _, he2, -, -, hc2⟩ := ints_ex h5.rd
  obtain rfl : v4 = _ := by simpa using he2
  obtain ⟨b2, o2, rfl, hb2, hc2⟩ := hc2 (by omega)
  have d2 := (hc2 p hp2).2
  have hfx : fx.getD p 0 = fx[p] := by rw [List.getD_eq_getElem?_getD, List.getElem?_eq_getElem hp2]; rfl
  have H1 : Hid (decide (0 ≤ fx[p]) = true → decide (T[p] < 0) = true → otherV s fx p T[p] = fx[p]) := fun h h' => by rw [← hfx] at h ⊢; exact other_1 h h'
  have H2 : Hid (decide (0 ≤ fx[p]) = true → decide (T[p] < 0) = false → otherV s fx p T[p] = -1) := fun h h' => by rw [← hfx] at h; exact other_2 h h'
  have H3 : Hid (decide (0 ≤ fx[p]) = false → decide (T[p] + 1 < (s : Int)) = true → otherV s fx p T[p] = T[p] + 1) := fun h h' => by rw [← hfx] at h; exact other_3 h h'
  have H4 : Hid (decide (0 ≤ fx[p]) = false → decide (T[p] + 1 < (s : Int)) = false → otherV s fx p T[p] = -1) := fun h h' => by rw [← hfx] at h; exact other_4 h h'
  rw [hs] at ct
  generalize otherV s fx p T[p] = R at *
  generalize T[p] = x at *
  generalize fx[p] = y at *
  have hwr : IntKind.i64.wrap (x + 1) = x + 1 := wrap_small (by omega) (by omega)
  clear h5 hv he hc he2 hc2 hfx c1 c2 c3
  cases h1 : decide (0 ≤ y)
  · cases h2 : decide (x + 1 < (s : Int))
    · have HE := Lib.hid (H4.out h1 h2)
      go_enter Tryz.func117, Tryz.ntmps117
      go_wp2_with fail
      go_quiet (fail)
      go_wp2_with fail
      go_ret
      exact ⟨ret_int HE.out.symm, Quiet.drewN _ _⟩
    · have HE := Lib.hid (H3.out h1 h2)
      go_enter Tryz.func117, Tryz.ntmps117
      go_wp2_with fail
      go_quiet (fail)
      go_wp2_with fail
      go_ret
      exact ⟨ret_int HE.out.symm, Quiet.drewN _ _⟩
  · cases h2 : decide (x < 0)
    · have HE := Lib.hid (H2.out h1 h2)
      go_enter Tryz.func117, Tryz.ntmps117
      go_wp2_with fail
      go_ret
      exact ⟨ret_int HE.out.symm, Quiet.refl _⟩
    · have HE := Lib.hid (H1.out h1 h2)
      go_enter Tryz.func117, Tryz.ntmps117
      go_wp2_with fail
      go_ret
      exact ⟨ret_int HE.out.symm, Quiet.refl _⟩
theorem atL_pre {T ps : List Int} {k : Nat} (h : ∀ p ∈ ps, 0 ≤ p ∧ p < (k : Int)) : atL (T.take k) ps = atL T ps := by
  unfold atL
  refine List.map_congr_left fun p hp => ?_
  have := h p hp
  rw [List.getD_eq_getElem?_getD, List.getD_eq_getElem?_getD, List.getElem?_take_of_lt (by omega)]
set_option maxHeartbeats 3200000 in
set_option maxRecDepth 100000 in
theorem fits_any (w : World) {ok : Nat → Prop} {br : Nat} {t : Tpl} {ar : Int} {due : List (List (Int × List Int))} {fx T : List Int} (hR : Ru ok w br t ar due fx) {v : Value} (c5 : w.cell? ⟨br, 5, none⟩ = some v) (hv : intsT.Rd w [v] T) {p : Nat} (hT : tplOk t) (hD : ldueOk t due) (hp : p < T.length) (hpd : p < due.length) (_ : T.length ≤ 1000)
    (hin : ∀ a ∈ T.take (p + 1), 0 ≤ a ∧ a ≤ t.1 - 1) (h3 : ∀ d ∈ due, d.length ≤ 1000000) :
    Calls Tryz.prog 118 #[.pointer (some ⟨br, 0, none⟩), .int .i64 (p : Int)] w fun e w' => e = .returned (.bool (goesF t due (T.take (p + 1)))) ∧ Below w.heap.size w w' := by
  obtain ⟨hbr, tq, tw, v2, v3, v4, c0, htb, -, ct, c1, c2, c3, c4, hset, hd, -⟩ := hR
  have hvl : (T.take (p + 1)).length = p + 1 := by rw [List.length_take]; omega
  have HG := Lib.hid (goesF_at (t := t) hvl hpd)
  obtain ⟨da, dc, hdv, -, -, hdce⟩ := slices_ex hd.rd
  obtain rfl : v3 = _ := by simpa using hdv
  obtain ⟨g, go0, rfl, hg, hce⟩ := hdce (by omega)
  obtain ⟨u, hu, hcu⟩ := hce p hpd
  obtain ⟨_, _, hu1, -, -, hue⟩ := pairs_ex hu
  obtain rfl : u = _ := by simpa using hu1
  have HU := Lib.hid hue
  obtain ⟨va, vn, vc, rfl⟩ := rd_sl hv
  have HV := Lib.hid hv
  obtain ⟨ia, ic, hi1, -, -, hie⟩ := slice_exP hset
  obtain rfl : v2 = _ := by simpa using hi1
  have HI := Lib.hid hie
  have HT := Lib.hid hT
  have HD := Lib.hid (fun j (hj : j < due[p].length) => hD p hpd _ (List.getElem_mem hj))
  have HIN := Lib.hid hin
  have hs := hT.1
  unfold sizeOk at hs
  have hll := h3 _ (List.getElem_mem hpd)
  have HVL := Lib.hid hvl
  clear hd hdv hdce hce hu hv hT hD h3 hu1 hue hi1 hie hin hset c1 c4 hvl
  go_enter Tryz.func118, Tryz.ntmps118
  go_wp2_with fail
  go_loopw [5] (fun i wr => ∃ j : Nat, j ≤ due[p].length ∧ i = .int .i64 j ∧ noneB (fun a => !tb (holdsC t (T.take (p + 1)) a)) (due[p].take j) ∧ Below w.heap.size w wr) (fun i _ => due[p].length - (intOf i).toNat)
  case atStart => exact ⟨0, Nat.zero_le _, rfl, noneB_zero _ _, Below.refl _ _⟩
  case round =>
    obtain ⟨j, hj, rfl, hno, hbe⟩ := hrel
    have HN := Lib.hid hno
    have hze := hbe.size
    clear hno
    have k3 := (cellB hbe hbr).trans c3
    have ku := (cellB hbe hg).trans hcu
    by_cases hjl : j < due[p].length
    · obtain ⟨q, po, rfl, hq, hce⟩ := HU.out (by omega)
      obtain ⟨u, hu, -, g0, g1⟩ := hce j hjl
      obtain ⟨lo, hle⟩ := HD.out j hjl
      obtain ⟨kr, ir, e1, hkr, e2, hir, e3⟩ := ins_at HT.out lo HIN.out (fun x hx => by have := hle x hx; have := HVL.out; omega)
      obtain ⟨ri, ro, rfl, hri, hrok, hrce⟩ := HI.out (by omega)
      obtain ⟨cs, hsp, hcr⟩ := hrce kr hkr
      obtain ⟨ux, rfl⟩ : ∃ ux, cs = [ux] := by
        obtain ⟨_, ⟨_, _, _, h, _⟩, _⟩ := hsp
        exact ⟨_, h⟩
      have hcr := hcr 0 (by simp)
      simp only [Ty.setp, Nat.mul_one, Nat.add_zero, List.getElem_cons_zero] at hcr
      obtain ⟨bx, vb, rfl, hbx, hcx, hbo⟩ := setp_exP hsp
      obtain ⟨_, hcap, rfl, -, hbce⟩ := bools_exP hbo
      obtain ⟨bi, bo, rfl, hbi, hbce⟩ := hbce (by omega)
      have hbc := hbce ir hir
      rw [e3] at hbc
      obtain ⟨ua, un, uc, rfl⟩ := rd_sl hu
      have HUR := Lib.hid hu
      have HLE := Lib.hid hle
      have HAP : Hid (atL T (due[p][j]).2 = atL (T.take (p + 1)) (due[p][j]).2) := (atL_pre (fun x hx => by have := hle x hx; omega)).symm
      have H2 := Lib.hid e2
      have hl4 : (due[p][j]).2.length ≤ 4 := by
        obtain ⟨k', -, hk', h4, -⟩ := lo
        have := (HT.out.2.2 _ (List.getElem_mem hk')).2.1
        unfold sizeOk at this
        omega
      have HAI := Lib.hid (atL_in HIN.out rfl (fun x hx => by have := hle x hx; have := HVL.out; omega) : ∀ a ∈ atL (T.take (p + 1)) (due[p][j]).2, 0 ≤ a ∧ a ≤ t.1 - 1)
      have HPT : Hid (∀ x ∈ (due[p][j]).2, 0 ≤ x ∧ x < (T.length : Int)) := fun x hx => by have := hle x hx; omega
      have k0 := (cellB hbe hbr).trans c0
      have kt := (cellB hbe htb).trans ct
      have k2 := (cellB hbe hbr).trans c2
      have k5 := (cellB hbe hbr).trans c5
      have d0 := (cellB hbe hq).trans g0
      have d1 := (cellB hbe hq).trans g1
      have d2 := (cellB hbe hri).trans hcr
      have d3 := (cellB hbe hbx).trans hcx
      have d4 := (cellB hbe hbi).trans hbc
      rw [e1] at d0
      have HRT := Lib.hid (HV.out.below hbe)
      have HRU := Lib.hid (HUR.out.below hbe)
      have hbirr : bi < wr.heap.size := by omega
      clear hce hu g0 g1 lo hle e1 e2 e3 hrce hsp hcr hcx hbo hbce hbc c0 ct c2 c3 c5 hcu
      obtain ⟨wv, rfl⟩ : ∃ wv : World, wv = wr := ⟨_, rfl⟩
      obtain ⟨B, hB⟩ : ∃ B, tb (holdsC t (T.take (p + 1)) due[p][j]) = B := ⟨_, rfl⟩
      have HB := Lib.hid hB
      rw [hB] at d4
      have y1 : br < wv.heap.size := by omega
      have y2 : q < wv.heap.size := by omega
      have y3 : ri < wv.heap.size := by omega
      have y4 : bx < wv.heap.size := by omega
      have y5 : tq < wv.heap.size := by omega
      clear hB
      go_wp2_with fail
      refine wp_region_loose [exV (.pointer (some ⟨br, 0, none⟩)), exV (.pointer (some ⟨br, 0, none⟩)), exV (.pointer (some ⟨br, 2, none⟩)), exV (.slice (some ⟨ri, ro, none⟩) (insF t).length ic), exV (.pointer (some ⟨q, po + j * 2, none⟩)), exV (.pointer (some ⟨q, po + j * 2, none⟩)), exV (.pointer (some ⟨q, po + j * 2, none⟩)), exV (.int .i64 (kr : Int)), exV (.pointer (some ⟨ri, ro + kr, none⟩)), exV (.pointer (some ⟨bx, 0, none⟩)), exV (.pointer (some ⟨bx, 0, none⟩)), exV (.pointer (some ⟨bx, 2, none⟩)), exV (.slice (some ⟨bi, bo, none⟩) ((insF t)[kr]).length hcap), exV (.pointer (some ⟨br, 0, none⟩)), exV (.pointer (some ⟨br, 0, none⟩)), exV (.pointer (some ⟨br, 0, none⟩)), exV (.pointer (some ⟨tq, tw, none⟩)), exV (.pointer (some ⟨tq, tw, none⟩)), exV (.pointer (some ⟨tq, tw, none⟩)), exV (.int .i64 t.1), exV (.pointer (some ⟨br, 0, none⟩)), exV (.pointer (some ⟨br, 0, none⟩)), exV (.pointer (some ⟨br, 5, none⟩)), exV (.slice va vn vc), exV (.pointer (some ⟨q, po + j * 2, none⟩)), exV (.pointer (some ⟨q, po + j * 2, none⟩)), exV (.pointer (some ⟨q, po + j * 2 + 1, none⟩)), exV (.slice ua un uc), rdS intsT (atL (T.take (p + 1)) (due[p][j]).2), exV (.int .i64 (ir : Int)), exV (.pointer (some ⟨bi, bo + ir, none⟩)), exV (.bool B), exV (.bool (!B))] (by kernel_rfl) (by kernel_rfl) ⟨st_exV, st_exV, st_exV, st_exV, st_exV, st_exV, st_exV, st_exV, st_exV, st_exV, st_exV, st_exV, st_exV, st_exV, st_exV, st_exV, st_exV, st_exV, st_exV, st_exV, st_exV, st_exV, st_exV, st_exV, st_exV, st_exV, st_exV, st_exV, st_rdS, st_exV, st_exV, st_exV, st_exV, trivial⟩ ⟨?j1_0, ?j1_1, ?j1_2, ?j1_3, ?j1_4, ?j1_5, ?j1_6, ?j1_7, ?j1_8, ?j1_9, ?j1_10, ?j1_11, ?j1_12, ?j1_13, ?j1_14, ?j1_15, ?j1_16, ?j1_17, ?j1_18, ?j1_19, ?j1_20, ?j1_21, ?j1_22, ?j1_23, ?j1_24, ?j1_25, ?j1_26, ?j1_27, ?j1_28, ?j1_29, ?j1_30, ?j1_31, ?j1_32, trivial⟩ ?hQ1
      case j1_0 =>
        intro a' w' hb hd
        have e0 : a'.tmps[0]?.getD undef = .pointer (some ⟨br, 0, none⟩) := ev (slot_o hd 0 rfl rfl)
        go_simp
        exact ⟨Below.refl _ _, rfl⟩
      case j1_1 =>
        intro a' w' hb hd
        have e28 : a'.tmps[28]?.getD undef = .pointer (some ⟨br, 0, none⟩) := ev (slot_w hd 28 (exV (.pointer (some ⟨br, 0, none⟩))) rfl rfl)
        go_simp
        exact ⟨Below.refl _ _, rfl⟩
      case j1_2 =>
        intro a' w' hb hd
        have e29 : a'.tmps[29]?.getD undef = .pointer (some ⟨br, 0, none⟩) := ev (slot_w hd 29 (exV (.pointer (some ⟨br, 0, none⟩))) rfl rfl)
        go_simp
        exact ⟨Below.refl _ _, rfl⟩
      case j1_3 =>
        intro a' w' hb hd
        have e30 : a'.tmps[30]?.getD undef = .pointer (some ⟨br, 2, none⟩) := ev (slot_w hd 30 (exV (.pointer (some ⟨br, 2, none⟩))) rfl rfl)
        have qq : ∀ b o, b < wv.heap.size → w'.cell? ⟨b, o, none⟩ = wv.cell? ⟨b, o, none⟩ := (bcell hb).1
        go_simp
        exact ⟨Below.refl _ _, rfl⟩
      case j1_4 =>
        intro a' w' hb hd
        have e6 : a'.tmps[6]?.getD undef = .pointer (some ⟨q, po + j * 2, none⟩) := ev (slot_o hd 6 rfl rfl)
        go_simp
        exact ⟨Below.refl _ _, rfl⟩
      case j1_5 =>
        intro a' w' hb hd
        have e32 : a'.tmps[32]?.getD undef = .pointer (some ⟨q, po + j * 2, none⟩) := ev (slot_w hd 32 (exV (.pointer (some ⟨q, po + j * 2, none⟩))) rfl rfl)
        go_simp
        exact ⟨Below.refl _ _, rfl⟩
      case j1_6 =>
        intro a' w' hb hd
        have e33 : a'.tmps[33]?.getD undef = .pointer (some ⟨q, po + j * 2, none⟩) := ev (slot_w hd 33 (exV (.pointer (some ⟨q, po + j * 2, none⟩))) rfl rfl)
        go_simp
        exact ⟨Below.refl _ _, rfl⟩
      case j1_7 =>
        intro a' w' hb hd
        have e34 : a'.tmps[34]?.getD undef = .pointer (some ⟨q, po + j * 2, none⟩) := ev (slot_w hd 34 (exV (.pointer (some ⟨q, po + j * 2, none⟩))) rfl rfl)
        have qq : ∀ b o, b < wv.heap.size → w'.cell? ⟨b, o, none⟩ = wv.cell? ⟨b, o, none⟩ := (bcell hb).1
        go_simp
        exact ⟨Below.refl _ _, rfl⟩
      case j1_8 =>
        intro a' w' hb hd
        have e31 : a'.tmps[31]?.getD undef = .slice (some ⟨ri, ro, none⟩) (insF t).length ic := ev (slot_w hd 31 (exV (.slice (some ⟨ri, ro, none⟩) (insF t).length ic)) rfl rfl)
        have e35 : a'.tmps[35]?.getD undef = .int .i64 (kr : Int) := ev (slot_w hd 35 (exV (.int .i64 (kr : Int))) rfl rfl)
        go_simp
        exact ⟨Below.refl _ _, rfl⟩
      case j1_9 =>
        intro a' w' hb hd
        have e36 : a'.tmps[36]?.getD undef = .pointer (some ⟨ri, ro + kr, none⟩) := ev (slot_w hd 36 (exV (.pointer (some ⟨ri, ro + kr, none⟩))) rfl rfl)
        have qq : ∀ b o, b < wv.heap.size → w'.cell? ⟨b, o, none⟩ = wv.cell? ⟨b, o, none⟩ := (bcell hb).1
        go_simp
        exact ⟨Below.refl _ _, rfl⟩
      case j1_10 =>
        intro a' w' hb hd
        have e37 : a'.tmps[37]?.getD undef = .pointer (some ⟨bx, 0, none⟩) := ev (slot_w hd 37 (exV (.pointer (some ⟨bx, 0, none⟩))) rfl rfl)
        go_simp
        exact ⟨Below.refl _ _, rfl⟩
      case j1_11 =>
        intro a' w' hb hd
        have e38 : a'.tmps[38]?.getD undef = .pointer (some ⟨bx, 0, none⟩) := ev (slot_w hd 38 (exV (.pointer (some ⟨bx, 0, none⟩))) rfl rfl)
        go_simp
        exact ⟨Below.refl _ _, rfl⟩
      case j1_12 =>
        intro a' w' hb hd
        have e39 : a'.tmps[39]?.getD undef = .pointer (some ⟨bx, 2, none⟩) := ev (slot_w hd 39 (exV (.pointer (some ⟨bx, 2, none⟩))) rfl rfl)
        have qq : ∀ b o, b < wv.heap.size → w'.cell? ⟨b, o, none⟩ = wv.cell? ⟨b, o, none⟩ := (bcell hb).1
        go_simp
        exact ⟨Below.refl _ _, rfl⟩
      case j1_13 =>
        intro a' w' hb hd
        have e0 : a'.tmps[0]?.getD undef = .pointer (some ⟨br, 0, none⟩) := ev (slot_o hd 0 rfl rfl)
        go_simp
        exact ⟨Below.refl _ _, rfl⟩
      case j1_14 =>
        intro a' w' hb hd
        have e41 : a'.tmps[41]?.getD undef = .pointer (some ⟨br, 0, none⟩) := ev (slot_w hd 41 (exV (.pointer (some ⟨br, 0, none⟩))) rfl rfl)
        go_simp
        exact ⟨Below.refl _ _, rfl⟩
      case j1_15 =>
        intro a' w' hb hd
        have e42 : a'.tmps[42]?.getD undef = .pointer (some ⟨br, 0, none⟩) := ev (slot_w hd 42 (exV (.pointer (some ⟨br, 0, none⟩))) rfl rfl)
        go_simp
        exact ⟨Below.refl _ _, rfl⟩
      case j1_16 =>
        intro a' w' hb hd
        have e43 : a'.tmps[43]?.getD undef = .pointer (some ⟨br, 0, none⟩) := ev (slot_w hd 43 (exV (.pointer (some ⟨br, 0, none⟩))) rfl rfl)
        have qq : ∀ b o, b < wv.heap.size → w'.cell? ⟨b, o, none⟩ = wv.cell? ⟨b, o, none⟩ := (bcell hb).1
        go_simp
        exact ⟨Below.refl _ _, rfl⟩
      case j1_17 =>
        intro a' w' hb hd
        have e44 : a'.tmps[44]?.getD undef = .pointer (some ⟨tq, tw, none⟩) := ev (slot_w hd 44 (exV (.pointer (some ⟨tq, tw, none⟩))) rfl rfl)
        go_simp
        exact ⟨Below.refl _ _, rfl⟩
      case j1_18 =>
        intro a' w' hb hd
        have e45 : a'.tmps[45]?.getD undef = .pointer (some ⟨tq, tw, none⟩) := ev (slot_w hd 45 (exV (.pointer (some ⟨tq, tw, none⟩))) rfl rfl)
        go_simp
        exact ⟨Below.refl _ _, rfl⟩
      case j1_19 =>
        intro a' w' hb hd
        have e46 : a'.tmps[46]?.getD undef = .pointer (some ⟨tq, tw, none⟩) := ev (slot_w hd 46 (exV (.pointer (some ⟨tq, tw, none⟩))) rfl rfl)
        have qq : ∀ b o, b < wv.heap.size → w'.cell? ⟨b, o, none⟩ = wv.cell? ⟨b, o, none⟩ := (bcell hb).1
        go_simp
        exact ⟨Below.refl _ _, rfl⟩
      case j1_20 =>
        intro a' w' hb hd
        have e0 : a'.tmps[0]?.getD undef = .pointer (some ⟨br, 0, none⟩) := ev (slot_o hd 0 rfl rfl)
        go_simp
        exact ⟨Below.refl _ _, rfl⟩
      case j1_21 =>
        intro a' w' hb hd
        have e48 : a'.tmps[48]?.getD undef = .pointer (some ⟨br, 0, none⟩) := ev (slot_w hd 48 (exV (.pointer (some ⟨br, 0, none⟩))) rfl rfl)
        go_simp
        exact ⟨Below.refl _ _, rfl⟩
      case j1_22 =>
        intro a' w' hb hd
        have e49 : a'.tmps[49]?.getD undef = .pointer (some ⟨br, 0, none⟩) := ev (slot_w hd 49 (exV (.pointer (some ⟨br, 0, none⟩))) rfl rfl)
        go_simp
        exact ⟨Below.refl _ _, rfl⟩
      case j1_23 =>
        intro a' w' hb hd
        have e50 : a'.tmps[50]?.getD undef = .pointer (some ⟨br, 5, none⟩) := ev (slot_w hd 50 (exV (.pointer (some ⟨br, 5, none⟩))) rfl rfl)
        have qq : ∀ b o, b < wv.heap.size → w'.cell? ⟨b, o, none⟩ = wv.cell? ⟨b, o, none⟩ := (bcell hb).1
        go_simp
        exact ⟨Below.refl _ _, rfl⟩
      case j1_24 =>
        intro a' w' hb hd
        have e6 : a'.tmps[6]?.getD undef = .pointer (some ⟨q, po + j * 2, none⟩) := ev (slot_o hd 6 rfl rfl)
        go_simp
        exact ⟨Below.refl _ _, rfl⟩
      case j1_25 =>
        intro a' w' hb hd
        have e52 : a'.tmps[52]?.getD undef = .pointer (some ⟨q, po + j * 2, none⟩) := ev (slot_w hd 52 (exV (.pointer (some ⟨q, po + j * 2, none⟩))) rfl rfl)
        go_simp
        exact ⟨Below.refl _ _, rfl⟩
      case j1_26 =>
        intro a' w' hb hd
        have e53 : a'.tmps[53]?.getD undef = .pointer (some ⟨q, po + j * 2, none⟩) := ev (slot_w hd 53 (exV (.pointer (some ⟨q, po + j * 2, none⟩))) rfl rfl)
        go_simp
        exact ⟨Below.refl _ _, rfl⟩
      case j1_27 =>
        intro a' w' hb hd
        have e54 : a'.tmps[54]?.getD undef = .pointer (some ⟨q, po + j * 2 + 1, none⟩) := ev (slot_w hd 54 (exV (.pointer (some ⟨q, po + j * 2 + 1, none⟩))) rfl rfl)
        have qq : ∀ b o, b < wv.heap.size → w'.cell? ⟨b, o, none⟩ = wv.cell? ⟨b, o, none⟩ := (bcell hb).1
        go_simp
        exact ⟨Below.refl _ _, rfl⟩
      case j1_28 =>
        intro a' w' hb hd
        have e51 : a'.tmps[51]?.getD undef = .slice va vn vc := ev (slot_w hd 51 (exV (.slice va vn vc)) rfl rfl)
        have e55 : a'.tmps[55]?.getD undef = .slice ua un uc := ev (slot_w hd 55 (exV (.slice ua un uc)) rfl rfl)
        go_simp
        exact ⟨Below.refl _ _, (l01At_any w' (HRT.out.below hb) (HRU.out.below hb) HPT.out (by omega)).mono fun e w'' ⟨u, he, hf, hb⟩ => ⟨_, he, hb, HAP.out ▸ hf.rd⟩⟩
      case j1_29 =>
        intro a' w' hb hd
        have e47 : a'.tmps[47]?.getD undef = .int .i64 t.1 := ev (slot_w hd 47 (exV (.int .i64 t.1)) rfl rfl)
        have d56 := slot_w hd 56 (rdS intsT (atL (T.take (p + 1)) (due[p][j]).2)) rfl rfl
        obtain ⟨ad56, cap56, e56⟩ := rd_slice d56
        rw [e56] at d56
        have e56' := ev e56
        go_simp
        exact ⟨Below.refl _ _, (l01Code_any w' t.1 d56 (by omega) (by omega) (by rw [atL_len]; omega) HAI.out).mono fun e w'' ⟨he, hw⟩ => ⟨_, he, by rw [← hw]; exact Below.refl _ _, congrArg (Value.int .i64) H2.out⟩⟩
      case j1_30 =>
        intro a' w' hb hd
        have e40 : a'.tmps[40]?.getD undef = .slice (some ⟨bi, bo, none⟩) ((insF t)[kr]).length hcap := ev (slot_w hd 40 (exV (.slice (some ⟨bi, bo, none⟩) ((insF t)[kr]).length hcap)) rfl rfl)
        have e57 : a'.tmps[57]?.getD undef = .int .i64 (ir : Int) := ev (slot_w hd 57 (exV (.int .i64 (ir : Int))) rfl rfl)
        go_simp
        exact ⟨Below.refl _ _, rfl⟩
      case j1_31 =>
        intro a' w' hb hd
        have e58 : a'.tmps[58]?.getD undef = .pointer (some ⟨bi, bo + ir, none⟩) := ev (slot_w hd 58 (exV (.pointer (some ⟨bi, bo + ir, none⟩))) rfl rfl)
        have qq : ∀ b o, b < wv.heap.size → w'.cell? ⟨b, o, none⟩ = wv.cell? ⟨b, o, none⟩ := (bcell hb).1
        go_simp
        exact ⟨Below.refl _ _, rfl⟩
      case j1_32 =>
        intro a' w' hb hd
        have e59 : a'.tmps[59]?.getD undef = .bool B := ev (slot_w hd 59 (exV (.bool B)) rfl rfl)
        go_simp
        exact ⟨Below.refl _ _, rfl⟩
      intro vs1 w1 hb1 H0
      obtain ⟨z1_0, _, rfl, p0, H1⟩ := HAll_cons H0
      obtain ⟨z1_1, _, rfl, p1, H2⟩ := HAll_cons H1
      obtain ⟨z1_2, _, rfl, p2, H3⟩ := HAll_cons H2
      obtain ⟨z1_3, _, rfl, p3, H4⟩ := HAll_cons H3
      obtain ⟨z1_4, _, rfl, p4, H5⟩ := HAll_cons H4
      obtain ⟨z1_5, _, rfl, p5, H6⟩ := HAll_cons H5
      obtain ⟨z1_6, _, rfl, p6, H7⟩ := HAll_cons H6
      obtain ⟨z1_7, _, rfl, p7, H8⟩ := HAll_cons H7
      obtain ⟨z1_8, _, rfl, p8, H9⟩ := HAll_cons H8
      obtain ⟨z1_9, _, rfl, p9, H10⟩ := HAll_cons H9
      obtain ⟨z1_10, _, rfl, p10, H11⟩ := HAll_cons H10
      obtain ⟨z1_11, _, rfl, p11, H12⟩ := HAll_cons H11
      obtain ⟨z1_12, _, rfl, p12, H13⟩ := HAll_cons H12
      obtain ⟨z1_13, _, rfl, p13, H14⟩ := HAll_cons H13
      obtain ⟨z1_14, _, rfl, p14, H15⟩ := HAll_cons H14
      obtain ⟨z1_15, _, rfl, p15, H16⟩ := HAll_cons H15
      obtain ⟨z1_16, _, rfl, p16, H17⟩ := HAll_cons H16
      obtain ⟨z1_17, _, rfl, p17, H18⟩ := HAll_cons H17
      obtain ⟨z1_18, _, rfl, p18, H19⟩ := HAll_cons H18
      obtain ⟨z1_19, _, rfl, p19, H20⟩ := HAll_cons H19
      obtain ⟨z1_20, _, rfl, p20, H21⟩ := HAll_cons H20
      obtain ⟨z1_21, _, rfl, p21, H22⟩ := HAll_cons H21
      obtain ⟨z1_22, _, rfl, p22, H23⟩ := HAll_cons H22
      obtain ⟨z1_23, _, rfl, p23, H24⟩ := HAll_cons H23
      obtain ⟨z1_24, _, rfl, p24, H25⟩ := HAll_cons H24
      obtain ⟨z1_25, _, rfl, p25, H26⟩ := HAll_cons H25
      obtain ⟨z1_26, _, rfl, p26, H27⟩ := HAll_cons H26
      obtain ⟨z1_27, _, rfl, p27, H28⟩ := HAll_cons H27
      obtain ⟨z1_28, _, rfl, p28, H29⟩ := HAll_cons H28
      obtain ⟨z1_29, _, rfl, p29, H30⟩ := HAll_cons H29
      obtain ⟨z1_30, _, rfl, p30, H31⟩ := HAll_cons H30
      obtain ⟨z1_31, _, rfl, p31, H32⟩ := HAll_cons H31
      obtain ⟨z1_32, _, rfl, p32, H33⟩ := HAll_cons H32
      obtain rfl := HAll_nil H33
      obtain rfl := p0 rfl
      obtain rfl := p1 rfl
      obtain rfl := p2 rfl
      obtain rfl := p3 rfl
      obtain rfl := p4 rfl
      obtain rfl := p5 rfl
      obtain rfl := p6 rfl
      obtain rfl := p7 rfl
      obtain rfl := p8 rfl
      obtain rfl := p9 rfl
      obtain rfl := p10 rfl
      obtain rfl := p11 rfl
      obtain rfl := p12 rfl
      obtain rfl := p13 rfl
      obtain rfl := p14 rfl
      obtain rfl := p15 rfl
      obtain rfl := p16 rfl
      obtain rfl := p17 rfl
      obtain rfl := p18 rfl
      obtain rfl := p19 rfl
      obtain rfl := p20 rfl
      obtain rfl := p21 rfl
      obtain rfl := p22 rfl
      obtain rfl := p23 rfl
      obtain rfl := p24 rfl
      obtain rfl := p25 rfl
      obtain rfl := p26 rfl
      obtain rfl := p27 rfl
      obtain rfl := p29 rfl
      obtain rfl := p30 rfl
      obtain rfl := p31 rfl
      obtain rfl := p32 rfl
      clear p0 p1 p2 p3 p4 p5 p6 p7 p8 p9 p10 p11 p12 p13 p14 p15 p16 p17 p18 p19 p20 p21 p22 p23 p24 p25 p26 p27 p28 p29 p30 p31 p32 H0 H1 H2 H3 H4 H5 H6 H7 H8 H9 H10 H11 H12 H13 H14 H15 H16 H17 H18 H19 H20 H21 H22 H23 H24 H25 H26 H27 H28 H29 H30 H31 H32 H33
      simp only [putAll, Act.put]
      go_simp
      cases B
      · have HE : Hid (goesF t due (T.take (p + 1)) = false) := by unfold Hid; rw [HG.out, any_at hjl (by rw [HB.out]; rfl)]; rfl
        go_wp2_with fail
        go_ret
        exact ⟨ret_bool HE.out.symm, bthen hbe hb1⟩
      · have HNX : Hid (noneB (fun a => !tb (holdsC t (T.take (p + 1)) a)) (due[p].take (j + 1))) := noneB_succ hjl HN.out (by rw [HB.out]; rfl)
        go_wp2_with fail
        go_roundw
        case rel => exact ⟨j + 1, by omega, by go_num, HNX.out, bthen hbe hb1⟩
        case measure => simp [intOf]; omega
    · obtain rfl : j = due[p].length := by omega
      have HE : Hid (goesF t due (T.take (p + 1)) = true) := by
        unfold Hid
        rw [HG.out]
        have h1 := HN.out
        rw [List.take_length] at h1
        rw [noneB_any h1]
        rfl
      go_wp2_with fail
      go_ret
      exact ⟨ret_bool HE.out.symm, hbe⟩
end Go.Proofs.YthjafhjghjbdmaaGreat
