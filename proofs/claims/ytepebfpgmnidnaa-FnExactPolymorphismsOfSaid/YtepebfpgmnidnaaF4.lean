/-
  Contracts: a finder's data; whether what is due goes.
-/
import Derived.Test.YtepebfpgmnidnaaF2
import Derived.Test.YtepebfpgmnidnaaF3
import Derived.Test.YtepebfpgmnidnaaK14
namespace Go.Proofs.Ytepebfpgmnidnaa
open Go.RowKit Go.Sort
/-- what a finder only reads: at block bs -/
def Fd (ok : Nat → Prop) (w : World) (bs : Nat) (t : Tpl) (ar : Int) (due : List (List (Int × List Int))) (fx : List Int) : Prop :=
  bs < w.heap.size ∧ ∃ v3 v4 v5, w.cell? ⟨bs, 0, none⟩ = some (.int .i64 t.1) ∧ w.cell? ⟨bs, 2, none⟩ = some (.int .i64 ar) ∧ w.cell? ⟨bs, 3, none⟩ = some v3 ∧ w.cell? ⟨bs, 4, none⟩ = some v4 ∧ w.cell? ⟨bs, 5, none⟩ = some v5 ∧
    duesT.RdP ok w [v3] due ∧ (Ty.slice boolsT).RdP ok w [v4] (insF t) ∧ intsT.RdP ok w [v5] fx
section
variable {ok ok' : Nat → Prop} {w w' : World} {bs : Nat} {t : Tpl} {ar : Int} {due : List (List (Int × List Int))} {fx : List Int}
theorem Fd.below (h : Fd ok w bs t ar due fx) (hb : Below w.heap.size w w') : Fd ok w' bs t ar due fx := by
  obtain ⟨h1, v3, v4, v5, c0, c2, c3, c4, c5, h3, h4, h5⟩ := h
  exact ⟨Nat.lt_of_lt_of_le h1 hb.size, v3, v4, v5, (hb.cell (p := ⟨bs, 0, none⟩) h1).trans c0, (hb.cell (p := ⟨bs, 2, none⟩) h1).trans c2, (hb.cell (p := ⟨bs, 3, none⟩) h1).trans c3, (hb.cell (p := ⟨bs, 4, none⟩) h1).trans c4, (hb.cell (p := ⟨bs, 5, none⟩) h1).trans c5, h3.below hb, h4.below hb, h5.below hb⟩
/-- its own last two cells and other blocks may be written -/
theorem Fd.tchP {O : Nat → Prop} (h : Fd ok w bs t ar due fx) (ht : TchP O w w') (hO : ∀ k, k < w.heap.size → ok k → ¬ O k) (hb : ¬ O bs) : Fd ok w' bs t ar due fx := by
  obtain ⟨h1, v3, v4, v5, c0, c2, c3, c4, c5, h3, h4, h5⟩ := h
  exact ⟨Nat.lt_of_lt_of_le h1 ht.size, v3, v4, v5, (ht.cell h1 hb).trans c0, (ht.cell h1 hb).trans c2, (ht.cell h1 hb).trans c3, (ht.cell h1 hb).trans c4, (ht.cell h1 hb).trans c5, h3.tchP ht hO, h4.tchP ht hO, h5.tchP ht hO⟩
theorem Fd.set {i : Nat} {u : Value} (h : Fd ok w bs t ar due fx) (hi : 6 ≤ i) (hO : ¬ ok bs) : Fd ok (w.setCell ⟨bs, i, none⟩ u) bs t ar due fx := by
  obtain ⟨h1, v3, v4, v5, c0, c2, c3, c4, c5, h3, h4, h5⟩ := h
  have hs : TchP (fun k => k = bs) w (w.setCell ⟨bs, i, none⟩ u) := TchP.set rfl
  have hk : ∀ k, k < w.heap.size → ok k → ¬ (k = bs) := fun k _ hk e => hO (e ▸ hk)
  have hc : ∀ j, j < 6 → (w.setCell ⟨bs, i, none⟩ u).cell? ⟨bs, j, none⟩ = w.cell? ⟨bs, j, none⟩ := fun j hj => World.cell?_setCell_other _ _ _ _ (by first | (simp; done) | (simp; omega))
  exact ⟨by simpa [World.setCell] using h1, v3, v4, v5, (hc 0 (by omega)).trans c0, (hc 2 (by omega)).trans c2, (hc 3 (by omega)).trans c3, (hc 4 (by omega)).trans c4, (hc 5 (by omega)).trans c5, h3.tchP hs hk, h4.tchP hs hk, h5.tchP hs hk⟩
theorem Fd.mono (h : Fd ok w bs t ar due fx) (hk : ∀ k, k < w.heap.size → ok k → ok' k) : Fd ok' w bs t ar due fx := by
  obtain ⟨h1, v3, v4, v5, c0, c2, c3, c4, c5, h3, h4, h5⟩ := h
  exact ⟨h1, v3, v4, v5, c0, c2, c3, c4, c5, h3.mono hk, h4.mono hk, h5.mono hk⟩
end
theorem rel_tupsIn {s : Int} {r : Int × List (List Int)} (hr : relOk s r) : ∀ t ∈ r.2, t.length = r.1.toNat ∧ ∀ a ∈ t, 0 ≤ a ∧ a ≤ s - 1 := fun t ht => by
  obtain ⟨k, hk, rfl⟩ := List.mem_iff_getElem.1 ht
  obtain ⟨h1, h2⟩ := (hr.2.2 k hk).1
  have := hr.2.1
  unfold sizeOk at this
  exact ⟨by omega, h2⟩
theorem atL_in {s : Int} {vals cells : List Int} {N : Nat} (hv : ∀ a ∈ vals, 0 ≤ a ∧ a ≤ s - 1) (hl : vals.length = N) (hc : ∀ p ∈ cells, 0 ≤ p ∧ p < (N : Int)) : ∀ a ∈ atL vals cells, 0 ≤ a ∧ a ≤ s - 1 := fun a ha => by
  obtain ⟨p, hp, rfl⟩ := List.mem_map.1 ha
  have := hc p hp
  have hpl : p.toNat < vals.length := by omega
  rw [List.getD_eq_getElem?_getD, List.getElem?_eq_getElem hpl]
  exact hv _ (List.getElem_mem hpl)
/-- what a look at the truth values tells -/
theorem ins_at {t : Tpl} {N : Nat} {a : Int × List Int} {vals : List Int} (hT : tplOk t) (ha : lookOk t N a) (hv : ∀ x ∈ vals, 0 ≤ x ∧ x ≤ t.1 - 1) (hc : ∀ p ∈ a.2, 0 ≤ p ∧ p < (vals.length : Int)) :
    ∃ k j : Nat, a.1 = (k : Int) ∧ ∃ hk : k < (insF t).length, idxL t.1 0 (atL vals a.2) = (j : Int) ∧ ∃ hj : j < ((insF t)[k]).length, ((insF t)[k])[j] = tb (holdsC t vals a) := by
  obtain ⟨k, e1, hk, e2, e3⟩ := ha
  have hs := hT.1
  have hr := hT.2.2 _ (List.getElem_mem hk)
  have hm := hr.2.1
  unfold sizeOk at hs hm
  have hin := atL_in hv rfl hc
  obtain ⟨i0, i1⟩ := idx_lt (s := t.1) (by omega) (xs := atL vals a.2) (m := (t.2[k]).1.toNat) (by rw [atL_len, e2]) hin
  obtain ⟨j, hj⟩ : ∃ j : Nat, idxL t.1 0 (atL vals a.2) = j := ⟨(idxL t.1 0 (atL vals a.2)).toNat, by omega⟩
  have hkl : k < (insF t).length := by rw [insF_len]; exact hk
  refine ⟨k, j, e1, hkl, hj, ?_⟩
  have he := insF_get (t := t) hk hkl
  have hjl : j < ((insF t)[k]).length := by rw [he, seenL_len]; omega
  refine ⟨hjl, ?_⟩
  have h3 : ((insF t)[k])[j] = (seenL t.1 (t.1 ^ (t.2[k]).1.toNat).toNat (t.2[k]).2)[j]'(by rw [← he]; exact hjl) := by simp only [he]
  rw [h3, seenL_get (s := t.1) (by omega) (rel_tupsIn hr) (t := atL vals a.2) (by rw [atL_len, e2]) hin hj]
  unfold holdsC
  rw [e1, relAt_nat hk]
set_option maxHeartbeats 3200000 in
set_option maxRecDepth 100000 in
theorem fgoes_any (w : World) {ok : Nat → Prop} {bs : Nat} {t : Tpl} {ar : Int} {due : List (List (Int × List Int))} {fx : List Int} (hF : Fd ok w bs t ar due fx) {v : Value} {vals : List Int} (c7 : w.cell? ⟨bs, 7, none⟩ = some v) (hv : intsT.Rd w [v] vals) (hT : tplOk t) (hD : ldueOk t due)
    (hin : ∀ a ∈ vals, 0 ≤ a ∧ a ≤ t.1 - 1) (h1 : 1 ≤ vals.length) (h2 : vals.length ≤ due.length) (hdl : due.length ≤ 1000) (h3 : ∀ d ∈ due, d.length ≤ 1000000) :
    Calls Try.prog 165 #[.pointer (some ⟨bs, 0, none⟩)] w fun e w' => e = .returned (.bool (goesF t due vals)) ∧ Below w.heap.size w w' := by
  obtain ⟨hbs, v3, v4, v5, c0, -, c3, c4, -, hd, hi, -⟩ := hF
  obtain ⟨k, hk⟩ : ∃ k, vals.length = k + 1 := ⟨vals.length - 1, by omega⟩
  have hkd : k < due.length := by omega
  have HG := Lib.hid (goesF_at (t := t) hk hkd)
  obtain ⟨da, dc, hdv, -, -, hdce⟩ := slices_ex hd.rd
  obtain rfl : v3 = _ := by simpa using hdv
  obtain ⟨g, go0, rfl, hg, hce⟩ := hdce (by omega)
  obtain ⟨u, hu, hcu⟩ := hce k hkd
  obtain ⟨_, _, hu1, -, -, hue⟩ := pairs_ex hu
  obtain rfl : u = _ := by simpa using hu1
  have HU := Lib.hid hue
  obtain ⟨va, vc, hv1, -, -, hve⟩ := ints_ex hv
  obtain rfl : v = _ := by simpa using hv1
  obtain ⟨gv, ov, rfl, hgv, hvce⟩ := hve (by omega)
  have HV := Lib.hid hvce
  obtain ⟨ia, ic, hi1, -, -, hie⟩ := slices_ex hi.rd
  obtain rfl : v4 = _ := by simpa using hi1
  have HI := Lib.hid hie
  have HT := Lib.hid hT
  have HD := Lib.hid (fun j (hj : j < due[k].length) => hD k hkd _ (List.getElem_mem hj))
  have HIN := Lib.hid hin
  have HK := Lib.hid hk
  have hs := hT.1
  unfold sizeOk at hs
  have hll := h3 _ (List.getElem_mem hkd)
  have hwr : IntKind.i64.wrap ((k : Int) + 1 - 1) = k := by rw [Int.add_sub_cancel]; exact wrap_small (by omega) (by omega)
  have hwr2 : IntKind.i64.wrap (((k + 1 : Nat) : Int) - 1) = k := by rw [show ((k + 1 : Nat) : Int) - 1 = k by omega]; exact wrap_small (by omega) (by omega)
  rw [hk] at c7
  clear hd hdv hdce hce hu hv hT hD hk h1 h2 h3 hi hu1 hue hv1 hve hvce hi1 hie hin
  go_enter Try.func165, Try.ntmps165
  go_wp2_with fail
  go_quiet (fail)
  generalize hW : w.drewN _ = W
  have hbW : Below w.heap.size w W := hW ▸ (Quiet.drewN w _).below
  clear hW
  go_wp2_with fail
  go_loopw [21] (fun i wr => ∃ j : Nat, j ≤ due[k].length ∧ i = .int .i64 j ∧ noneB (fun a => !tb (holdsC t vals a)) (due[k].take j) ∧ Below w.heap.size w wr) (fun i _ => due[k].length - (intOf i).toNat)
  case atStart => exact ⟨0, Nat.zero_le _, rfl, noneB_zero _ _, hbW⟩
  case round =>
    obtain ⟨j, hj, rfl, hno, hbe⟩ := hrel
    have HN := Lib.hid hno
    have hze := hbe.size
    clear hno hbW
    by_cases hjl : j < due[k].length
    · obtain ⟨q, p, rfl, hq, hce⟩ := HU.out (by omega)
      obtain ⟨u, hu, -, g0, g1⟩ := hce j hjl
      obtain ⟨lo, hle⟩ := HD.out j hjl
      obtain ⟨kr, ir, e1, hkr, e2, hir, e3⟩ := ins_at HT.out lo HIN.out (fun p hp => by have := hle p hp; have := HK.out; omega)
      obtain ⟨ri, ro, rfl, hri, hrce⟩ := HI.out (by omega)
      obtain ⟨ur, hur, hcr⟩ := hrce kr hkr
      obtain ⟨_, _, he, -, -, hbo⟩ := Ty.slice_ex hur
      obtain rfl : ur = _ := by simpa using he
      obtain ⟨bi, bo, rfl, hbi, hbce⟩ := hbo (by omega)
      obtain ⟨cs, ⟨_, rfl, _⟩, hbc⟩ := hbce ir hir
      have hbc := hbc 0 (by simp)
      simp only [Ty.bool, Nat.mul_one, Nat.add_zero, List.getElem_cons_zero] at hbc
      rw [e3] at hbc
      obtain ⟨ad, cap, hue, -, -, huc⟩ := ints_ex hu
      obtain rfl : u = _ := by simpa using hue
      have HUC := Lib.hid huc
      have HLE := Lib.hid hle
      have HAT : Hid (atL vals (due[k][j]).2 = atL vals (due[k][j]).2) := rfl
      have H2 := Lib.hid e2
      have hl4 : (due[k][j]).2.length ≤ 4 := by
        obtain ⟨k', -, hk', h4, -⟩ := lo
        have := (HT.out.2.2 _ (List.getElem_mem hk')).2.1
        unfold sizeOk at this
        omega
      have HAI := Lib.hid (atL_in HIN.out rfl (fun p hp => by have := hle p hp; have := HK.out; omega) : ∀ a ∈ atL vals (due[k][j]).2, 0 ≤ a ∧ a ≤ t.1 - 1)
      have k0 := (hbe.cell (p := ⟨bs, 0, none⟩) hbs).trans c0
      have k4 := (hbe.cell (p := ⟨bs, 4, none⟩) hbs).trans c4
      have k7 := (cellB hbe hbs).trans c7
      have d0 := (cellB hbe hq).trans g0
      have d1 := (cellB hbe hq).trans g1
      have d2 := (cellB hbe hri).trans hcr
      have d3 := (cellB hbe hbi).trans hbc
      rw [e1] at d0
      have hbsr : bs < wr.heap.size := by omega
      have hbir : bi < wr.heap.size := by omega
      have hrir : ri < wr.heap.size := by omega
      clear hce hu g0 g1 lo hle e1 e2 e3 hrce hur hcr he hbo hbce hbc hue huc c0 c3 c4 c7
      obtain ⟨wv, rfl⟩ : ∃ wv : World, wv = wr := ⟨_, rfl⟩
      go_wp2_with fail
      generalize hWa : World.alloc wv _ = wa
      have hba : Below wv.heap.size wv wa := hWa ▸ bA
      have hsa : wv.heap.size + 1 ≤ wa.heap.size := by rw [← hWa]; simp
      have l0 : wa.cell? ⟨wv.heap.size, 0, none⟩ = some (.int .i64 kr) := by rw [← hWa]; simp [go_sem]
      have l1 : wa.cell? ⟨wv.heap.size, 1, none⟩ = some (.slice ad (due[k][j]).2.length cap) := by rw [← hWa]; simp [go_sem]
      replace k0 := (cellB hba (by omega)).trans k0
      replace k4 := (cellB hba (by omega)).trans k4
      replace k7 := (cellB hba (by omega)).trans k7
      replace d2 := (cellB hba (by omega)).trans d2
      replace d3 := (cellB hba (by omega)).trans d3
      have hbwa := bthen hbe hba
      clear hWa d0 d1
      go_loopw [28, 5] (fun i o wi => ∃ m : Nat, m ≤ (due[k][j]).2.length ∧ i = .int .i64 m ∧ o = .int .i64 (idxL t.1 0 ((atL vals (due[k][j]).2).take m)) ∧ Quiet wa wi) (fun i _ _ => (due[k][j]).2.length - (intOf i).toNat)
      case atStart => exact ⟨0, Nat.zero_le _, rfl, by simp [idxL], Quiet.refl _⟩
      case round =>
        obtain ⟨m, hm, rfl, rfl, hqi⟩ := hrel
        have hbi2 := hqi.below
        have hzi := hbi2.size
        replace k0 := (cellB hbi2 (by omega)).trans k0
        replace k4 := (cellB hbi2 (by omega)).trans k4
        replace k7 := (cellB hbi2 (by omega)).trans k7
        replace d2 := (cellB hbi2 (by omega)).trans d2
        replace d3 := (cellB hbi2 (by omega)).trans d3
        replace l0 := (cellB hbi2 (by omega)).trans l0
        replace l1 := (cellB hbi2 (by omega)).trans l1
        have hbwi := bthen hbwa hbi2
        by_cases hml : m < (due[k][j]).2.length
        · obtain ⟨b6, o6, rfl, hb6, hce6⟩ := HUC.out (by omega)
          have e6 := (hce6 m hml).2
          obtain ⟨pn, hpn⟩ : ∃ pn : Nat, (due[k][j]).2[m] = (pn : Int) := ⟨((due[k][j]).2[m]).toNat, by have := HLE.out _ (List.getElem_mem hml); omega⟩
          have hpl := HLE.out _ (List.getElem_mem hml)
          rw [hpn] at e6 hpl
          have hpk : pn < k + 1 := by omega
          have hpv : pn < vals.length := by have := HK.out; omega
          have e7 := (HV.out pn hpv).2
          have f6 := (cellB hbwi hb6).trans e6
          have f7 := (cellB hbwi hgv).trans e7
          have hma : m < (atL vals (due[k][j]).2).length := by rw [atL_len]; exact hml
          have b0 := idx_bd (s := t.1) (by omega) HAI.out m (by omega)
          have b1 := idx_bd (s := t.1) (by omega) HAI.out (m + 1) (by omega)
          have p0 := pow_le (s := t.1) (by omega) (by omega) (k := m + 1) (by omega)
          have ha := HAI.out _ (List.getElem_mem hma)
          have hr := idxL_take (s := t.1) hma
          rw [atL_at hml hpn hpv] at ha hr
          have HQ : -1000000000000000000 ≤ idxL t.1 0 ((atL vals (due[k][j]).2).take m) * t.1 ∧ idxL t.1 0 ((atL vals (due[k][j]).2).take m) * t.1 ≤ 1000000000000000000 := by
            have hq := Int.mul_nonneg b0.1 (show (0 : Int) ≤ t.1 by omega)
            rw [hr] at b1
            generalize t.1 ^ (m + 1) = P at *
            generalize idxL t.1 0 ((atL vals (due[k][j]).2).take m) * t.1 = Q at *
            omega
          have hw1 : IntKind.i64.wrap (idxL t.1 0 ((atL vals (due[k][j]).2).take m) * t.1) = idxL t.1 0 ((atL vals (due[k][j]).2).take m) * t.1 := wrap_small HQ.1 HQ.2
          have hw2 : IntKind.i64.wrap (idxL t.1 0 ((atL vals (due[k][j]).2).take m) * t.1 + vals[pn]) = idxL t.1 0 ((atL vals (due[k][j]).2).take m) * t.1 + vals[pn] := wrap_small (by omega) (by omega)
          have HR := Lib.hid hr
          clear b0 b1 p0 ha hr hce6 HQ hpn
          go_wp2_with fail
          go_quiet (fail)
          go_wp2_with fail
          clear hw1 hw2
          go_roundw
          case rel => exact ⟨m + 1, by omega, by go_num, by rw [HR.out], hqi.then (Quiet.drewN _ _)⟩
          case measure => simp [intOf]; omega
        · obtain rfl : m = (due[k][j]).2.length := by omega
          rw [show (due[k][j]).2.length = (atL vals (due[k][j]).2).length from atL_len.symm, List.take_length, H2.out]
          cases hq : tb (holdsC t vals due[k][j])
          · have HE : Hid (goesF t due vals = false) := by unfold Hid; rw [HG.out, any_at hjl (by rw [hq]; rfl)]; rfl
            rw [hq] at d3
            clear hq
            go_wp2_with fail
            go_quiet (fail)
            go_wp2_with fail
            go_ret
            exact ⟨ret_bool HE.out.symm, bthen hbwi (Quiet.drewN _ _).below⟩
          · have HNX : Hid (noneB (fun a => !tb (holdsC t vals a)) (due[k].take (j + 1))) := noneB_succ hjl HN.out (by rw [hq]; rfl)
            rw [hq] at d3
            clear hq
            go_wp2_with fail
            go_quiet (fail)
            go_wp2_with fail
            go_roundw
            case rel => exact ⟨j + 1, by omega, by go_num, HNX.out, bthen hbwi (Quiet.drewN _ _).below⟩
            case measure => simp [intOf]; omega
    · obtain rfl : j = due[k].length := by omega
      have HE : Hid (goesF t due vals = true) := by
        unfold Hid
        rw [HG.out]
        have h1 := HN.out
        rw [List.take_length] at h1
        rw [noneB_any h1]
        rfl
      go_wp2_with fail
      go_ret
      exact ⟨ret_bool HE.out.symm, hbe⟩
end Go.Proofs.Ytepebfpgmnidnaa
