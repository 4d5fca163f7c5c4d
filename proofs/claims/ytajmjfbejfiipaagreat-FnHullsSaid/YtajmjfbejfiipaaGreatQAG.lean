/-
Contracts: the reference's next operation.
  Contracts: the reference's search for operations: the conditions of a relation.
-/
import Derived.Test.YtajmjfbejfiipaaGreatQAF
import Derived.Test.YtajmjfbejfiipaaGreatQAA
import Derived.Test.YtajmjfbejfiipaaGreatQAB
import Derived.Deep.LoopGhost
import Derived.Deep.CutRange
import Derived.Test.YtajmjfbejfiipaaGreatQAE
namespace Go.Proofs.YtajmjfbejfiipaaGreat
open Go.RowKit Go.Sort
/-- the reference's table: what is chosen, the value at hand, nothing -/
def tabV (N : Nat) (pre : List Int) (cur : Int) : List Int := pre ++ cur :: List.replicate (N - 1 - pre.length) (-1)
section
variable {N : Nat} {pre : List Int} {cur v : Int}
theorem tabV_len (h : pre.length < N) : (tabV N pre cur).length = N := by simp [tabV]; omega
theorem tabV_at (h : pre.length < (tabV N pre cur).length) : (tabV N pre cur)[pre.length] = cur := by simp [tabV]
theorem tabV_set : (tabV N pre cur).set pre.length v = tabV N pre v := by simp [tabV]
theorem tabV_take : (tabV N pre v).take (pre.length + 1) = pre ++ [v] := by
  unfold tabV
  rw [List.take_append, List.take_of_length_le (by omega), show pre.length + 1 - pre.length = 1 by omega]
  rfl
theorem tabV_down (h : pre.length + 1 < N) : tabV N pre v = tabV N (pre ++ [v]) (-1) := by
  unfold tabV
  rw [List.append_assoc, List.length_append, List.length_singleton, show N - 1 - pre.length = N - 1 - (pre.length + 1) + 1 by omega, List.replicate_succ]
  rfl
theorem tabV_up {d : Nat} (hd : pre.length = d + 1) (h : pre.length < N) : tabV N pre (-1) = tabV N pre.dropLast (pre.getLastD 0) := by
  have hne : pre ≠ [] := by intro e; rw [e] at hd; simp at hd
  have e : pre = pre.dropLast ++ [pre.getLastD 0] := by
    rw [List.getLastD_eq_getLast?, List.getLast?_eq_some_getLast hne]
    exact (List.dropLast_concat_getLast hne).symm
  have hl : pre.dropLast.length + 1 = pre.length := by rw [List.length_dropLast]; omega
  have h2 := tabV_down (N := N) (pre := pre.dropLast) (v := pre.getLastD 0) (by omega)
  rw [← e] at h2
  exact h2.symm
theorem tabV_full (h : pre.length + 1 = N) : tabV N pre v = pre ++ [v] := by
  unfold tabV
  rw [show N - 1 - pre.length = 0 by omega]
  rfl
theorem tabV_start (h : 0 < N) : List.replicate N (-1 : Int) = tabV N [] (-1) := by
  unfold tabV
  obtain ⟨M, rfl⟩ : ∃ M, N = M + 1 := ⟨N - 1, by omega⟩
  simp [List.replicate_succ]
end
/-- what the search turns: the table, the steps, whether it has begun -/
def Mc (e base : Nat) (w : World) (br gt N : Nat) (T : List Int) (st : Nat) (bg : Bool) : Prop :=
  br < w.heap.size ∧ w.cell? ⟨br, 5, none⟩ = some (.slice (some ⟨gt, 0, none⟩) N N) ∧ IR e base w gt N N T ∧ w.cell? ⟨br, 6, none⟩ = some (.int .i64 (st : Int)) ∧ w.cell? ⟨br, 7, none⟩ = some (.bool bg) ∧ w.frozen? ⟨br, 6, none⟩ = false ∧ w.frozen? ⟨br, 7, none⟩ = false
section
variable {e base br gt N st : Nat} {w w' : World} {T : List Int} {bg : Bool}
theorem IR.same {g n cap : Nat} {L : List Int} (h : IR e base w g n cap L) (hs : w'.heap[g]? = w.heap[g]?) : IR e base w' g n cap L := ⟨h.1, h.2.1, h.2.2.1, owns_same h.2.2.2 hs⟩
theorem Mc.same (h : Mc e base w br gt N T st bg) (h1 : w'.heap[br]? = w.heap[br]?) (h2 : w'.heap[gt]? = w.heap[gt]?) (hz : w.heap.size ≤ w'.heap.size) : Mc e base w' br gt N T st bg := by
  obtain ⟨h0, c5, hi, c6, c7, f6, f7⟩ := h
  exact ⟨Nat.lt_of_lt_of_le h0 hz, (World.cell?_of_block (a := ⟨br, 5, none⟩) h1).trans c5, hi.same h2, (World.cell?_of_block (a := ⟨br, 6, none⟩) h1).trans c6, (World.cell?_of_block (a := ⟨br, 7, none⟩) h1).trans c7, (World.frozen?_of_block (a := ⟨br, 6, none⟩) h1).trans f6, (World.frozen?_of_block (a := ⟨br, 7, none⟩) h1).trans f7⟩
theorem Mc.below (h : Mc e base w br gt N T st bg) (hb : Below w.heap.size w w') : Mc e base w' br gt N T st bg := h.same (hb.block br h.1) (hb.block gt h.2.2.1.lt) hb.size
theorem Mc.setT (h : Mc e base w br gt N T st bg) (hne : gt ≠ br) (j : Nat) {x : Int} (hx : I64 x) : Mc e base (w.setCell ⟨gt, j, none⟩ (.int .i64 x)) br gt N (T.set j x) st bg := by
  obtain ⟨h0, c5, hi, c6, c7, f6, f7⟩ := h
  have hc : ∀ i, (w.setCell ⟨gt, j, none⟩ (.int .i64 x)).cell? ⟨br, i, none⟩ = w.cell? ⟨br, i, none⟩ := fun i => World.cell?_setCell_other _ _ _ _ (by first | (simp; done) | (simp; intro h; exact absurd h.symm hne) | (simpa using Ne.symm hne))
  exact ⟨by simpa [World.setCell] using h0, (hc 5).trans c5, hi.set j hx, (hc 6).trans c6, (hc 7).trans c7, (World.frozen?_setCell _ _ _ _).trans f6, (World.frozen?_setCell _ _ _ _).trans f7⟩
theorem Mc.setS (h : Mc e base w br gt N T st bg) (hne : gt ≠ br) {st' : Nat} : Mc e base (w.setCell ⟨br, 6, none⟩ (.int .i64 (st' : Int))) br gt N T st' bg := by
  obtain ⟨h0, c5, hi, c6, c7, f6, f7⟩ := h
  exact ⟨by simpa [World.setCell] using h0, (World.cell?_setCell_other _ _ _ _ (by simp)).trans c5, hi.same (Below.heap_setCell _ _ _ _ (by simpa using hne)), World.cell?_setCell_same _ _ _ c6, (World.cell?_setCell_other _ _ _ _ (by simp)).trans c7, (World.frozen?_setCell _ _ _ _).trans f6, (World.frozen?_setCell _ _ _ _).trans f7⟩
theorem Mc.setB (h : Mc e base w br gt N T st bg) (hne : gt ≠ br) {b : Bool} : Mc e base (w.setCell ⟨br, 7, none⟩ (.bool b)) br gt N T st b := by
  obtain ⟨h0, c5, hi, c6, c7, f6, f7⟩ := h
  exact ⟨by simpa [World.setCell] using h0, (World.cell?_setCell_other _ _ _ _ (by simp)).trans c5, hi.same (Below.heap_setCell _ _ _ _ (by simpa using hne)), (World.cell?_setCell_other _ _ _ _ (by simp)).trans c6, World.cell?_setCell_same _ _ _ c7, (World.frozen?_setCell _ _ _ _).trans f6, (World.frozen?_setCell _ _ _ _).trans f7⟩
end
/-- what next tells -/
def NxR (e base : Nat) (ok : Nat → Prop) (w : World) (br gt N : Nat) (t : Tpl) (ar : Int) (due : List (List (Int × List Int))) (fx : List Int) (s : Nat) (pre : List Int) (cur : Int) (st : Nat) (en : Ending) (w' : World) : Prop :=
  ∃ more bad, en = .returned (.tuple #[.bool more, .int .i64 bad]) ∧ Ru ok w' br t ar due fx ∧ TchP (fun k => k = br ∨ k = gt) w w' ∧
    ((more = false ∧ bad = 0 ∧ ∃ st', ∀ yc L, upF s (goesF t due) fx yc N pre.length pre cur (0, st, L) = (0, st', L)) ∨
     (more = false ∧ bad = 7 ∧ ∀ yc L, upF s (goesF t due) fx yc N pre.length pre cur (0, st, L) = (7, 6000, L)) ∨
     (more = true ∧ bad = 0 ∧ ∃ (pre' : List Int) (v : Nat) (st' : Nat), pre'.length + 1 = N ∧ preOk s fx pre' ∧ curOk s fx pre'.length (v : Int) ∧ Mc e base w' br gt N (pre' ++ [(v : Int)]) st' true ∧ st < st' ∧ st' ≤ 6000 ∧ ∀ yc L, upF s (goesF t due) fx yc N pre.length pre cur (0, st, L) = contF s (goesF t due) fx yc N pre'.length pre' v st' L))
/-- where its loop stands -/
def LpR (e base : Nat) (ok : Nat → Prop) (w : World) (br gt N : Nat) (t : Tpl) (ar : Int) (due : List (List (Int × List Int))) (fx : List Int) (s : Nat) (pre0 : List Int) (cur0 : Int) (st0 : Nat) (g : Nat) (pv : Value) (wr : World) : Prop :=
  Ru ok wr br t ar due fx ∧ TchP (fun k => k = br ∨ k = gt) w wr ∧
    ((∃ (pre : List Int) (cur : Int) (st : Nat), pv = .int .i64 (pre.length : Int) ∧ pre.length < N ∧ preOk s fx pre ∧ curOk s fx pre.length cur ∧ Mc e base wr br gt N (tabV N pre cur) st true ∧ st0 ≤ st ∧ st ≤ 6000 ∧ g = (6001 - st) * (N + 2) + pre.length + 1 ∧ ∀ yc L, upF s (goesF t due) fx yc N pre0.length pre0 cur0 (0, st0, L) = upF s (goesF t due) fx yc N pre.length pre cur (0, st, L)) ∨
     (pv = .int .i64 (-1) ∧ ∃ st, ∀ yc L, upF s (goesF t due) fx yc N pre0.length pre0 cur0 (0, st0, L) = (0, st, L)))
set_option maxHeartbeats 6400000 in
set_option maxRecDepth 100000 in
theorem next_any (w : World) {base : Nat} {ok : Nat → Prop} {br gt N : Nat} {t : Tpl} {ar : Int} {due : List (List (Int × List Int))} {fx : List Int} {s : Nat} {pre : List Int} {cur : Int} {st : Nat} {bg : Bool} (hR : Ru ok w br t ar due fx) (hM : Mc 2 base w br gt N (tabV N pre cur) st bg) (hok : ∀ k, ok k → k ≠ br ∧ k ≠ gt) (hne : gt ≠ br)
    (hT : tplOk t) (hs : t.1 = s) (hN : N ≤ 64) (hdl : due.length = N) (hD : ldueOk t due) (hd3 : ∀ d ∈ due, d.length ≤ 1000000) (hfx : fx.length = N) (hfs : ∀ i, fx.getD i 0 < s) (hp : preOk s fx pre) (hc : curOk s fx pre.length cur) (hl : pre.length < N) (hst : st ≤ 6000) (hb0 : bg = false → pre.length = 0) (hb1 : bg = true → pre.length + 1 = N) :
    Calls Tryz.prog 202 #[.pointer (some ⟨br, 0, none⟩)] w (NxR 2 base ok w br gt N t ar due fx s pre cur st) := by
  have HR := Lib.hid hR
  have HM := Lib.hid hM
  have HOK := Lib.hid hok
  have HT := Lib.hid hT
  have HD := Lib.hid hD
  have HD3 := Lib.hid hd3
  have HFS := Lib.hid hfs
  have HFX := Lib.hid hfx
  have HDL := Lib.hid hdl
  have HS := Lib.hid hs
  have hs4 : 1 ≤ s ∧ s ≤ 4 := by have := hT.1; unfold sizeOk at this; omega
  obtain ⟨hbr, c5, -, c6, c7, f6, f7⟩ := hM
  have hB1 := HM.out.setB hne (b := true)
  have HNE := Lib.hid hne
  have hgl := HM.out.2.2.1.lt
  have hHR1 : Ru ok (w.setCell ⟨br, 7, none⟩ (.bool true)) br t ar due fx := hR.set (by omega) (fun h => (hok br h).1 rfl)
  have hst1 : TchP (fun k => k = br ∨ k = gt) w (w.setCell ⟨br, 7, none⟩ (.bool true)) := TchP.set (.inl rfl)
  have HP0 : Hid (LpR 2 base ok w br gt N t ar due fx s pre cur st ((6001 - st) * (N + 2) + pre.length + 1) (.int .i64 (pre.length : Int)) (w.setCell ⟨br, 7, none⟩ (.bool true))) :=
    ⟨hHR1, hst1, .inl ⟨pre, cur, st, rfl, hl, hp, hc, hB1, Nat.le_refl _, hst, rfl, fun _ _ => rfl⟩⟩
  have HPQ : (bg = false ∧ Hid (LpR 2 base ok w br gt N t ar due fx s pre cur st ((6001 - st) * (N + 2) + pre.length + 1) (.int .i64 0) (w.setCell ⟨br, 7, none⟩ (.bool true)))) ∨ (bg = true ∧ Hid (LpR 2 base ok w br gt N t ar due fx s pre cur st ((6001 - st) * (N + 2) + pre.length + 1) (.int .i64 ((N : Int) - 1)) (w.setCell ⟨br, 7, none⟩ (.bool true)))) := by
    have h := HP0.out
    cases bg
    · have := hb0 rfl
      rw [this] at h ⊢
      exact .inl ⟨rfl, h⟩
    · have := hb1 rfl
      rw [show (pre.length : Int) = (N : Int) - 1 by omega] at h
      exact .inr ⟨rfl, h⟩
  clear hR hok hT hD hd3 hfs hfx hdl hs hB1 hHR1 hst1 hne hb0 hb1 hp hc HP0
  rcases HPQ with ⟨rfl, HPX⟩ | ⟨rfl, HPX⟩
  all_goals
    go_enter Tryz.func202, Tryz.ntmps202
    go_upto_region 6 with fail
    generalize w.setCell ⟨br, 7, none⟩ (.bool true) = w0 at *
    clear c5 c6 c7 f6 f7
    go_wp2_with fail
    go_loopg [5] ((6001 - st) * (N + 2) + pre.length + 1) (fun g pv wr => LpR 2 base ok w br gt N t ar due fx s pre cur st g pv wr)
    case atStart => exact HPX.out
    case round =>
      obtain ⟨hRr, htr, hcase⟩ := hrel
      have HRr := Lib.hid hRr
      have HTr := Lib.hid htr
      rcases hcase with ⟨pr, cu, st1, rfl, hpl, hpo, hco, hMr, hs1, hs2, hg, hup⟩ | ⟨rfl, st1, hup⟩
      · have HPO := Lib.hid hpo
        have HCO := Lib.hid hco
        have HMr := Lib.hid hMr
        have HUP := Lib.hid hup
        have HG := Lib.hid hg
        have hmul : st1 < 6001 → (6001 - st1) * (N + 2) = (6001 - (st1 + 1)) * (N + 2) + (N + 2) := fun h => by rw [show 6001 - st1 = 6001 - (st1 + 1) + 1 by omega, Nat.add_mul, Nat.one_mul]
        obtain ⟨hbr1, k5, hIR, k6, k7, m6, m7⟩ := HMr.out
        have HRD := Lib.hid (hIR.fr (by unfold capMax; omega)).rd
        have hlT : pr.length < (tabV N pr cu).length := by rw [tabV_len hpl]; exact hpl
        have hlT2 : (tabV N pr cu).length ≤ 1000 := by rw [tabV_len hpl]; omega
        have hcu : -1 ≤ cu ∧ cu ≤ 4 := by rcases HCO.out with h | h <;> omega
        have HAT := Lib.hid (tabV_at (N := N) (cur := cu) hlT)
        have hlfx : pr.length < fx.length := by rw [HFX.out]; exact hpl
        have hldl : pr.length < due.length := by rw [HDL.out]; exact hpl
        have HG := Lib.hid hg
        obtain ⟨wv, rfl⟩ : ∃ wv : World, wv = wr := ⟨_, rfl⟩
        clear hRr htr hpo hco hMr hup hIR k6 k7 m6 m7 hg HPX
        go_wp2_with fail
        refine (other_any wv HRr.out k5 HRD.out HS.out (by omega) hlT hlfx hlT2 (by rw [HAT.out]; exact hcu)).mono ?_
        rintro e w2 ⟨rfl, hq2⟩
        rw [HAT.out]
        have hb2 := hq2.below
        have HR2 := Lib.hid (HRr.out.below hb2)
        have HM2 := Lib.hid (HMr.out.below hb2)
        have HT2 : Hid (TchP (fun k => k = br ∨ k = gt) w w2) := HTr.out.then (TchP.of_below hb2 (fun _ => False)) (fun q _ h => h.elim)
        obtain ⟨hbr2, c5, hIR, c6, c7, f6, f7⟩ := HM2.out
        have g1 := hIR.free pr.length
        obtain ⟨gu, g0⟩ := hIR.cell hpl
        have hgl2 := hIR.lt
        have hne1 : ¬ (br = gt) := fun h => HNE.out h.symm
        have hne2 : ¬ (gt = br) := HNE.out
        have hfs1 := HFS.out pr.length
        obtain ⟨V, hV⟩ : ∃ V, otherV s fx pr.length cu = V := ⟨_, rfl⟩
        have HV := Lib.hid hV
        rw [hV]
        clear hV hb2 hq2 hIR k5
        cases hv : decide (V < 0)
        · obtain ⟨v, rfl⟩ : ∃ v : Nat, V = v := ⟨V.toNat, by have := of_decide_eq_false hv; omega⟩
          obtain ⟨hvs, hvf, -, -⟩ := other_some (okT := fun _ => true) (yc := fun _ => 0) HCO.out hfs1 HV.out 0
          have HVF := Lib.hid hvf
          have hPV := Lib.hid (preOk_snoc HPO.out (v := (v : Int)) (by omega) (by omega) hvf)
          have HCV : Hid (curOk s fx pr.length (v : Int)) := .inr ⟨by omega, by omega, hvf⟩
          have hwr1 : IntKind.i64.wrap ((st1 : Int) + 1) = (st1 : Int) + 1 := wrap_small (by omega) (by omega)
          have hIv : I64 (v : Int) := I64.small (by omega) (by omega)
          clear hvf
          cases h6 : decide (6000 < (st1 : Int) + 1)
          · have hst6 : st1 + 1 ≤ 6000 := by have := of_decide_eq_false h6; omega
            have hst7 : st1 ≠ 6000 := by omega
            go_wp2_with fail
            have HM4 : Hid (Mc 2 base ((w2.setCell ⟨br, 6, none⟩ (.int .i64 ((st1 : Int) + 1))).setCell ⟨gt, pr.length, none⟩ (.int .i64 (v : Int))) br gt N (tabV N pr (v : Int)) (st1 + 1) true) := by
              have h := (HM2.out.setS HNE.out (st' := st1 + 1)).setT HNE.out pr.length hIv
              rw [tabV_set, show ((st1 + 1 : Nat) : Int) = (st1 : Int) + 1 by omega] at h
              exact h
            have HR4 : Hid (Ru ok ((w2.setCell ⟨br, 6, none⟩ (.int .i64 ((st1 : Int) + 1))).setCell ⟨gt, pr.length, none⟩ (.int .i64 (v : Int))) br t ar due fx) := (HR2.out.set (i := 6) (by omega) (fun h => (HOK.out br h).1 rfl)).tchP (TchP.set (O := fun k => k = gt) rfl) (fun k _ hk e => (HOK.out k hk).2 e) hne1
            have HT4 : Hid (TchP (fun k => k = br ∨ k = gt) w ((w2.setCell ⟨br, 6, none⟩ (.int .i64 ((st1 : Int) + 1))).setCell ⟨gt, pr.length, none⟩ (.int .i64 (v : Int)))) := (HT2.out.then (TchP.set (O := fun k => k = br) rfl) (fun q _ h => .inl h)).then (TchP.set (O := fun k => k = gt) rfl) (fun q _ h => .inr h)
            clear c5 c6 c7 f6 f7 g0 g1 hwr1
            generalize (w2.setCell ⟨br, 6, none⟩ (.int .i64 ((st1 : Int) + 1))).setCell ⟨gt, pr.length, none⟩ (.int .i64 (v : Int)) = w4 at *
            have HRD4 := Lib.hid (HM4.out.2.2.1.fr (by unfold capMax; omega)).rd
            have hlT4 : pr.length < (tabV N pr (v : Int)).length := by rw [tabV_len hpl]; exact hpl
            have hlT5 : (tabV N pr (v : Int)).length ≤ 1000 := by rw [tabV_len hpl]; omega
            have HTK := Lib.hid (tabV_take (N := N) (pre := pr) (v := (v : Int)))
            have HIN : Hid (∀ a ∈ (tabV N pr (v : Int)).take (pr.length + 1), 0 ≤ a ∧ a ≤ t.1 - 1) := fun a ha => by
              rw [HTK.out] at ha
              obtain ⟨i, hi, rfl⟩ := List.mem_iff_getElem.1 ha
              have h := hPV.out i hi
              have := HS.out
              omega
            refine (fits_any w4 HR4.out HM4.out.2.1 HRD4.out HT.out HD.out hlT4 hldl hlT5 HIN.out HD3.out).mono ?_
            rintro e w5 ⟨rfl, hb5⟩
            rw [HTK.out]
            have HR5 := Lib.hid (HR4.out.below hb5)
            have HM5 := Lib.hid (HM4.out.below hb5)
            have HT5 : Hid (TchP (fun k => k = br ∨ k = gt) w w5) := HT4.out.then (TchP.of_below hb5 (fun _ => False)) (fun q _ h => h.elim)
            clear hb5 HR4 HM4 HT4 HR2 HM2 HT2
            cases ht : goesF t due (pr ++ [(v : Int)])
            · have HNX : Hid (∀ yc L, upF s (goesF t due) fx yc N pr.length pr cu (0, st1, L) = upF s (goesF t due) fx yc N pr.length pr v (0, st1 + 1, L)) := fun yc L => go_no rfl hpl HCO.out hfs1 HV.out hst7 ht
              clear ht
              go_wp2_with fail
              go_roundg ((6001 - (st1 + 1)) * (N + 2) + pr.length + 1)
              case measure => have := hmul (by omega); have := HG.out; omega
              case rel => exact ⟨HR5.out, HT5.out, .inl ⟨pr, v, st1 + 1, rfl, hpl, HPO.out, HCV.out, HM5.out, by omega, hst6, rfl, fun yc L => (HUP.out yc L).trans (HNX.out yc L)⟩⟩
            · cases hpn : (((pr.length : Int) + 1) == (N : Int))
              · have hpN : pr.length + 1 < N := by
                  have : ((pr.length : Int) + 1) ≠ (N : Int) := by simpa using hpn
                  omega
                have HNX : Hid (∀ yc L, upF s (goesF t due) fx yc N pr.length pr cu (0, st1, L) = upF s (goesF t due) fx yc N (pr.length + 1) (pr ++ [(v : Int)]) (-1) (0, st1 + 1, L)) := fun yc L => go_on rfl hpN HCO.out hfs1 HV.out hst7 ht
                have HM6 : Hid (Mc 2 base w5 br gt N (tabV N (pr ++ [(v : Int)]) (-1)) (st1 + 1) true) := by
                  unfold Hid
                  rw [← tabV_down hpN]
                  exact HM5.out
                clear ht
                go_wp2_with fail
                go_roundg ((6001 - (st1 + 1)) * (N + 2) + (pr.length + 1) + 1)
                case measure => have := hmul (by omega); have := HG.out; omega
                case rel => exact ⟨HR5.out, HT5.out, .inl ⟨pr ++ [(v : Int)], -1, st1 + 1, by simp, by simp; omega, hPV.out, .inl rfl, HM6.out, by omega, hst6, by simp, fun yc L => by rw [List.length_append, List.length_singleton]; exact (HUP.out yc L).trans (HNX.out yc L)⟩⟩
              · have hpN : pr.length + 1 = N := by
                  have : ((pr.length : Int) + 1) = (N : Int) := by simpa using hpn
                  omega
                have HRES : Hid (NxR 2 base ok w br gt N t ar due fx s pre cur st (.returned (.tuple #[.bool true, .int .i64 0])) w5) :=
                  ⟨true, 0, rfl, HR5.out, HT5.out, .inr (.inr ⟨rfl, rfl, pr, v, st1 + 1, hpN, HPO.out, HCV.out, by rw [← tabV_full hpN]; exact HM5.out, by omega, hst6, fun yc L => (HUP.out yc L).trans (go_found rfl hpN HCO.out hfs1 HV.out hst7 ht)⟩)⟩
                clear ht
                go_wp2_with fail
                go_ret2
                exact HRES.out
          · have hst6 : st1 = 6000 := by have := of_decide_eq_true h6; omega
            have hR4 : Ru ok (w2.setCell ⟨br, 6, none⟩ (.int .i64 ((st1 : Int) + 1))) br t ar due fx := HR2.out.set (i := 6) (by omega) (fun h => (HOK.out br h).1 rfl)
            have HRES : Hid (NxR 2 base ok w br gt N t ar due fx s pre cur st (.returned (.tuple #[.bool false, .int .i64 7])) (w2.setCell ⟨br, 6, none⟩ (.int .i64 ((st1 : Int) + 1)))) :=
              ⟨false, 7, rfl, hR4, HT2.out.then (TchP.set (O := fun k => k = br) rfl) (fun q _ h => .inl h), .inr (.inl ⟨rfl, rfl, fun yc L => (HUP.out yc L).trans (go_bud rfl hpl HCO.out hfs1 HV.out hst6)⟩)⟩
            clear hR4 hst6
            go_wp2_with fail
            go_ret2
            exact HRES.out
        · have hVn := of_decide_eq_true hv
          have hR4 : Ru ok (w2.setCell ⟨gt, pr.length, none⟩ (.int .i64 (-1))) br t ar due fx := HR2.out.tchP (TchP.set (O := fun k => k = gt) rfl) (fun k _ hk e => (HOK.out k hk).2 e) hne1
          have hT4 : TchP (fun k => k = br ∨ k = gt) w (w2.setCell ⟨gt, pr.length, none⟩ (.int .i64 (-1))) := HT2.out.then (TchP.set (O := fun k => k = gt) rfl) (fun q _ h => .inr h)
          have hM4 : Mc 2 base (w2.setCell ⟨gt, pr.length, none⟩ (.int .i64 (-1))) br gt N (tabV N pr (-1)) st1 true := by
            have h := HM2.out.setT HNE.out pr.length (x := -1) (I64.small (by omega) (by omega))
            rw [tabV_set] at h
            exact h
          have HNXT : Hid (LpR 2 base ok w br gt N t ar due fx s pre cur st (gk - 1) (.int .i64 ((pr.length : Int) - 1)) (w2.setCell ⟨gt, pr.length, none⟩ (.int .i64 (-1)))) := by
            refine ⟨hR4, hT4, ?_⟩
            rcases Nat.eq_zero_or_pos pr.length with h0 | h0
            · refine .inr ⟨by rw [h0]; rfl, st1, fun yc L => (HUP.out yc L).trans ?_⟩
              have hco := HCO.out
              have hvv := HV.out
              rw [h0] at hco hfs1 hvv ⊢
              exact up_end h0 hco hfs1 (by rw [hvv]; exact hVn)
            · obtain ⟨d, hd⟩ : ∃ d, pr.length = d + 1 := ⟨pr.length - 1, by omega⟩
              have hdl : pr.dropLast.length = d := by rw [List.length_dropLast, hd]; omega
              refine .inl ⟨pr.dropLast, pr.getLastD 0, st1, by rw [hdl, hd]; congr 1; omega, by omega, preOk_drop HPO.out, by rw [hdl]; exact preOk_last HPO.out hd, by rw [← tabV_up hd hpl]; exact hM4, hs1, hs2, by have := HG.out; rw [hdl]; omega, fun yc L => (HUP.out yc L).trans ?_⟩
              rw [hdl]
              have h := up_back (s := s) (okT := goesF t due) (yc := yc) (N := N) (r := (0, st1, L)) hd HCO.out hfs1 (by rw [HV.out]; exact hVn) rfl
              rw [hd]
              exact h
          have hg1 : 1 ≤ gk := by have := HG.out; omega
          clear hR4 hT4 hM4 hVn
          go_wp2_with fail
          go_roundg (gk - 1)
          case measure => omega
          case rel => exact HNXT.out
      · have HRES : Hid (NxR 2 base ok w br gt N t ar due fx s pre cur st (.returned (.tuple #[.bool false, .int .i64 0])) wr) := ⟨false, 0, rfl, hRr, htr, .inl ⟨rfl, rfl, st1, hup⟩⟩
        clear hRr htr hup HPX
        go_wp2_with fail
        go_ret2
        exact HRES.out
/-- the box of the reference's search -/
def BxR (w : World) (br : Nat) (vt : Value) (ar : Int) (gd gf gt N : Nat) (vin : Value) : Prop :=
  br < w.heap.size ∧ w.cell? ⟨br, 0, none⟩ = some vt ∧ w.cell? ⟨br, 1, none⟩ = some (.int .i64 ar) ∧ w.cell? ⟨br, 2, none⟩ = some vin ∧ w.cell? ⟨br, 3, none⟩ = some (.slice (some ⟨gd, 0, none⟩) N N) ∧ w.cell? ⟨br, 4, none⟩ = some (.slice (some ⟨gf, 0, none⟩) N N) ∧ w.cell? ⟨br, 5, none⟩ = some (.slice (some ⟨gt, 0, none⟩) N N) ∧
    w.cell? ⟨br, 6, none⟩ = some (.int .i64 0) ∧ w.cell? ⟨br, 7, none⟩ = some (.bool false) ∧ w.frozen? ⟨br, 2, none⟩ = false ∧ w.frozen? ⟨br, 4, none⟩ = false ∧ w.frozen? ⟨br, 6, none⟩ = false ∧ w.frozen? ⟨br, 7, none⟩ = false
theorem BxR.same {w w' : World} {br : Nat} {vt : Value} {ar : Int} {gd gf gt N : Nat} {vin : Value} (h : BxR w br vt ar gd gf gt N vin) (hs : w'.heap[br]? = w.heap[br]?) (hz : w.heap.size ≤ w'.heap.size) : BxR w' br vt ar gd gf gt N vin := by
  obtain ⟨h0, c0, c1, c2, c3, c4, c5, c6, c7, f2, f4, f6, f7⟩ := h
  have c : ∀ i, w'.cell? ⟨br, i, none⟩ = w.cell? ⟨br, i, none⟩ := fun i => World.cell?_of_block (a := ⟨br, i, none⟩) hs
  have f : ∀ i, w'.frozen? ⟨br, i, none⟩ = w.frozen? ⟨br, i, none⟩ := fun i => World.frozen?_of_block (a := ⟨br, i, none⟩) hs
  exact ⟨Nat.lt_of_lt_of_le h0 hz, (c 0).trans c0, (c 1).trans c1, (c 2).trans c2, (c 3).trans c3, (c 4).trans c4, (c 5).trans c5, (c 6).trans c6, (c 7).trans c7, (f 2).trans f2, (f 4).trans f4, (f 6).trans f6, (f 7).trans f7⟩
theorem BxR.set {w : World} {br : Nat} {vt : Value} {ar : Int} {gd gf gt N : Nat} {vin v' : Value} (h : BxR w br vt ar gd gf gt N vin) : BxR (w.setCell ⟨br, 2, none⟩ v') br vt ar gd gf gt N v' := by
  obtain ⟨h0, c0, c1, c2, c3, c4, c5, c6, c7, f2, f4, f6, f7⟩ := h
  have c : ∀ i, i ≠ 2 → (w.setCell ⟨br, 2, none⟩ v').cell? ⟨br, i, none⟩ = w.cell? ⟨br, i, none⟩ := fun _ hi => World.cell?_setCell_other _ _ _ _ (fun e => hi (congrArg Addr.off e.symm))
  have f : ∀ i, (w.setCell ⟨br, 2, none⟩ v').frozen? ⟨br, i, none⟩ = w.frozen? ⟨br, i, none⟩ := fun i => World.frozen?_setCell _ _ _ _
  exact ⟨by simpa [World.setCell] using h0, (c 0 (by decide)).trans c0, (c 1 (by decide)).trans c1, World.cell?_setCell_same _ _ _ c2, (c 3 (by decide)).trans c3, (c 4 (by decide)).trans c4, (c 5 (by decide)).trans c5, (c 6 (by decide)).trans c6, (c 7 (by decide)).trans c7, (f 2).trans f2, (f 4).trans f4, (f 6).trans f6, (f 7).trans f7⟩
/-- what the making of the search keeps -/
def RnI (base : Nat) (W : World) (vt : Value) (ar : Int) (N br gd gf gt : Nat) (of0 ot0 : Option Obj) (L : List (Int × List Int)) (I : List (List Bool)) (us : Nat → Value) (vin : Value) (Z : List ZP) (vs : List Value) (wr : World) : Prop :=
  FinS Ty.setp 288 289 140 base N wr gd us vin Z vs I ∧ Z.map (·.1) = L ∧ BxR wr br vt ar gd gf gt N vin ∧ (gf < wr.heap.size ∧ gt < wr.heap.size ∧ wr.heap[gf]? = of0 ∧ wr.heap[gt]? = ot0) ∧ Below W.heap.size W wr ∧ base ≤ wr.heap.size
theorem RnI.below {base : Nat} {W wr wx : World} {vt : Value} {ar : Int} {N br gd gf gt : Nat} {of0 ot0 : Option Obj} {L : List (Int × List Int)} {I : List (List Bool)} {us : Nat → Value} {vin : Value} {Z : List ZP} {vs : List Value} (h : RnI base W vt ar N br gd gf gt of0 ot0 L I us vin Z vs wr) (hb : Below wr.heap.size wr wx) : RnI base W vt ar N br gd gf gt of0 ot0 L I us vin Z vs wx := by
  obtain ⟨h1, h2, h3, ⟨h4, h4', h4f, h4t⟩, h5, h6⟩ := h
  have := hb.size
  exact ⟨h1.below h6 hb, h2, h3.same (hb.block br h3.1) hb.size, ⟨by omega, by omega, (hb.block gf h4).trans h4f, (hb.block gt h4').trans h4t⟩, bthen h5 hb, by omega⟩
theorem elCond : ElT Tryz.prog 289 288 2 32 := .mk (z := .agg #[.int .i64 0, .slice none 0 0]) Tryz.underlying289 (by kernel_rfl) rfl (by decide)
/-- what adding leaves -/
def AdR (base : Nat) (W : World) (vt : Value) (ar : Int) (N br gd gf gt : Nat) (of0 ot0 : Option Obj) (L : List (Int × List Int)) (I : List (List Bool)) (vin : Value) (vs : List Value) (w' : World) : Prop := ∃ us Z, RnI base W vt ar N br gd gf gt of0 ot0 L I us vin Z vs w'
set_option maxHeartbeats 12800000 in
set_option maxRecDepth 100000 in
theorem add_any (w : World) {base : Nat} {W : World} {t : Tpl} {vt : Value} (hPt : tplT.Pt W vt t) (hT : tplOk t) {ar : Int} (har : 1 ≤ ar ∧ ar ≤ 3) {N br gd gf gt : Nat} {of0 ot0 : Option Obj} {k : Nat} {I : List (List Bool)} {us : Nat → Value} {vin : Value} {Z : List ZP} {vs : List Value}
    (hlim : limF t ar.toNat = false) (hN : t.1 ^ ar.toNat = (N : Int)) (hN64 : N ≤ 64) (hkl : k < t.2.length) (hbase : W.heap.size ≤ base) (hbr : br ≠ gd ∧ br < base ∧ W.heap.size ≤ gd) (hgf : gf ≠ gd ∧ gf < base) (hgt : gt ≠ gd ∧ gt < base) (h : RnI base W vt ar N br gd gf gt of0 ot0 (looksT t ar.toNat k) I us vin Z vs w) :
    Calls Tryz.prog 230 #[.pointer (some ⟨br, 0, none⟩), .int .i64 (k : Int)] w fun e w' => e = .returned (.tuple #[]) ∧ AdR base W vt ar N br gd gf gt of0 ot0 (looksT t ar.toNat (k + 1)) I vin vs w' := by
  have H0 := Lib.hid h
  obtain ⟨tq, tf, ra, rc, rfl, htq, -, p0, p1, hrls⟩ := pt_pair hPt
  obtain ⟨_, _, he, -, -, hrce⟩ := pairs_ex hrls
  simp only [List.cons.injEq, Value.slice.injEq, and_true, true_and] at he
  obtain ⟨rfl, rfl⟩ := he
  obtain ⟨b, o, rfl, hb, hce⟩ := hrce (by omega)
  obtain ⟨ur, hur, -, g0, g1⟩ := hce k hkl
  obtain ⟨ua, uc, hue, -, -, huc⟩ := slices_ex hur
  obtain rfl : ur = _ := by simpa using hue
  have HUC := Lib.hid huc
  have hr := hT.2.2 _ (List.getElem_mem hkl)
  have HR := Lib.hid hr
  have hm := hr.2.1
  have hs := hT.1
  unfold sizeOk at hm hs
  have hk6 := hT.2.1
  have hrl2 := (rel_len_le hr).1
  have hrl3 := (rel_len_le hr).2
  obtain ⟨n, hn⟩ : ∃ n, (t.2[k]).2.length = n := ⟨_, rfl⟩
  obtain ⟨M, hM⟩ : ∃ M, powN n ar.toNat = M := ⟨_, rfl⟩
  have HMC : Hid ((n : Int) ^ ar.toNat = (M : Int)) := by unfold Hid; rw [← hM, powN_cast]
  have hZM : (looksT t ar.toNat k).length + M ≤ 4000 := by have := looksT_le' hlim hkl; rw [hn, hM] at this; exact this
  have hn256 : n ≤ 256 := by omega
  have HNC := Lib.hid hn
  have HMN := Lib.hid hM
  have HNN := Lib.hid hN
  have hbw := h.2.2.2.2.1
  have hbr0 := h.2.2.1.1
  have HLS : Hid (looksT t ar.toNat k ++ looksR t.1 ar.toNat k t.2[k] M = looksT t ar.toNat (k + 1)) := by
    unfold Hid
    rw [looksT_succ, relAt_nat hkl, hn, hM]
  rw [hn] at g1
  clear hPt hT hrls hrce hce hur hue huc hr hrl2 hrl3 hlim hN hn hM
  have q0 := (hbw.cell (p := ⟨tq, tf, none⟩) htq).trans p0
  have q1 := (hbw.cell (p := ⟨tq, tf + 1, none⟩) htq).trans p1
  have q2 := (cellB hbw hb).trans g0
  have q3 := (cellB hbw hb).trans g1
  obtain ⟨-, x0, x1, -, x3, -⟩ := h.2.2.1
  clear h
  go_enter Tryz.func230, Tryz.ntmps230
  go_wp2_with fail
  go_loopw [6] (fun i wr => ∃ (c : Nat) (us' : Nat → Value) (Z' : List ZP), c ≤ M ∧ i = .int .i64 c ∧ RnI base W (.pointer (some ⟨tq, tf, none⟩)) ar N br gd gf gt of0 ot0 (looksT t ar.toNat k ++ looksR t.1 ar.toNat k t.2[k] c) I us' vin Z' vs wr) (fun i _ => M - (intOf i).toNat)
  case atStart => exact ⟨0, us, Z, Nat.zero_le _, rfl, by rw [looksR_zero, List.append_nil]; exact H0.out⟩
  case round =>
    obtain ⟨c, us', Z', hc, rfl, hRn⟩ := hrel
    have HRN := Lib.hid hRn
    have hbW := hRn.2.2.2.2.1
    have hz6 := hRn.2.2.2.2.2
    obtain ⟨hbr1, x0, x1, -, x3, -⟩ := hRn.2.2.1
    have q0 := (hbW.cell (p := ⟨tq, tf, none⟩) htq).trans p0
    have q2 := (cellB hbW hb).trans g0
    have q3 := (cellB hbW hb).trans g1
    clear hRn H0
    obtain ⟨wi, rfl⟩ : ∃ wi : World, wi = wr := ⟨_, rfl⟩
    go_wp2_with fail
    refine (l01Power_any _ (n : Int) ar (by omega) (by omega) (by omega)).mono ?_
    rintro e _ ⟨rfl, rfl⟩
    rw [HMC.out]
    by_cases hcl : c < M
    · have hn1 : 1 ≤ n := by
        rcases Nat.eq_zero_or_pos n with h | h
        · have h2 := HMN.out
          unfold powN at h2
          rw [h, Nat.zero_pow (by omega)] at h2
          omega
        · exact h
      have hcl' : (c : Int) < (M : Int) := by omega
      obtain ⟨a8, o8, rfl, haa, hce⟩ := HUC.out (by have := HNC.out; omega)
      have HCE := Lib.hid hce
      have HTU := Lib.hid (picks_tups (ar := ar.toNat) (i := (c : Int)) HR.out (by have := HNC.out; omega))
      clear hce
      go_wp2_with fail
      have hlist := l01Digits_any wi (n : Int) (c : Int) ar.toNat (by omega) (by omega) (by omega) (by omega) (by omega)
      rw [show ((ar.toNat : Nat) : Int) = ar by omega] at hlist
      refine hlist.mono ?_
      rintro e wl ⟨ul, rfl, hfl, hbl⟩
      obtain ⟨la, lc, rfl⟩ := fr_slice hfl
      obtain ⟨_, _, hle, -, -, hlc⟩ := ints_ex hfl.rd
      simp only [List.cons.injEq, Value.slice.injEq, and_true, true_and] at hle
      obtain ⟨rfl, rfl⟩ := hle
      have HLC := Lib.hid hlc
      have hzl := hbl.size
      have HDL := Lib.hid (digL_len (s := (n : Int)) (idx := (c : Int)) (n := ar.toNat))
      have hdl5 : (digL (n : Int) (c : Int) ar.toNat).length ≤ 3 := by rw [digL_len]; omega
      have hbW2 := bthen hbW hbl
      have htqi : tq < wi.heap.size := by have := hbW.size; omega
      have hbi0 : b < wi.heap.size := by have := hbW.size; omega
      replace x0 := (cellB hbl (by omega)).trans x0
      replace x1 := (cellB hbl (by omega)).trans x1
      replace x3 := (cellB hbl (by omega)).trans x3
      replace q0 := (cellB hbl (by omega)).trans q0
      replace q2 := (cellB hbl (by omega)).trans q2
      replace q3 := (cellB hbl (by omega)).trans q3
      clear hfl hlc hlist
      go_wp2_with fail
      generalize hWo : World.alloc wl _ = wo
      have hbo : Below wl.heap.size wl wo := hWo ▸ bA
      have hso : wl.heap.size + 1 ≤ wo.heap.size := by rw [← hWo]; simp
      have o0 : wo.cell? ⟨wl.heap.size, 0, none⟩ = some (.int .i64 (k : Int)) := by rw [← hWo]; simp [go_sem]
      have o1 : wo.cell? ⟨wl.heap.size, 1, none⟩ = some (.slice none 0 0) := by rw [← hWo]; simp [go_sem]
      have om : wo.frozen? ⟨wl.heap.size, 1, none⟩ = false := by rw [← hWo]; simp [go_sem]
      replace x0 := (cellB hbo (by omega)).trans x0
      replace x1 := (cellB hbo (by omega)).trans x1
      replace x3 := (cellB hbo (by omega)).trans x3
      replace q0 := (cellB hbo (by omega)).trans q0
      replace q2 := (cellB hbo (by omega)).trans q2
      replace q3 := (cellB hbo (by omega)).trans q3
      have hbio := bthen hbl hbo
      clear hWo
      have X0 := x0
      have X1 := x1
      have X3 := x3
      have Q0 := q0
      have Q2 := q2
      have Q3 := q3
      clear x0 x1 x3 q0 q2 q3
      go_loopw [10, 9] (fun i la wp => ∃ (p : Nat) (vc : Value), p ≤ (t.2[k]).1.toNat ∧ i = .int .i64 p ∧ la = .int .i64 (topI ((cellsL t.1 ar.toNat t.2[k] c).take p)) ∧ Bl Ty.int 2 wo.heap.size wp.heap.size wp vc ((cellsL t.1 ar.toNat t.2[k] c).take p) ∧ wp.cell? ⟨wl.heap.size, 0, none⟩ = some (.int .i64 (k : Int)) ∧ wp.cell? ⟨wl.heap.size, 1, none⟩ = some vc ∧ wp.frozen? ⟨wl.heap.size, 1, none⟩ = false ∧ TchP (fun q => q = wl.heap.size) wo wp) (fun i _ _ => (t.2[k]).1.toNat - (intOf i).toNat)
      case atStart => exact ⟨0, _, Nat.zero_le _, rfl, by rw [cellsL_zero]; rfl, by rw [cellsL_zero]; exact Bl.nil, o0, o1, om, TchP.refl _ _⟩
      case round =>
        obtain ⟨p, vc, hp, rfl, rfl, hBl, o0, o1, om, htp⟩ := hrel
        have HBL := Lib.hid hBl
        have HTP := Lib.hid htp
        have hzp := htp.size
        have hbip : Below wi.heap.size wi wr := hbio.trans (htp.below (B := wi.heap.size) (by omega) (fun q hq e => by omega))
        have hobl : wl.heap.size < wr.heap.size := by omega
        have x0 := (htp.cell (i := 0) (show br < wo.heap.size by omega) (by omega)).trans X0
        have x1 := (htp.cell (i := 1) (show br < wo.heap.size by omega) (by omega)).trans X1
        have x3 := (htp.cell (i := 3) (show br < wo.heap.size by omega) (by omega)).trans X3
        have q0 := (htp.cell (i := tf) (show tq < wo.heap.size by omega) (by omega)).trans Q0
        have q2 := (htp.cell (i := o + k * 2) (show b < wo.heap.size by omega) (by omega)).trans Q2
        have q3 := (htp.cell (i := o + k * 2 + 1) (show b < wo.heap.size by omega) (by omega)).trans Q3
        have hbwp : Below W.heap.size W wr := bthen hbW hbip
        clear hBl htp
        obtain ⟨wp, rfl⟩ : ∃ wp : World, wp = wr := ⟨_, rfl⟩
        by_cases hpl : p < (t.2[k]).1.toNat
        · have hpI : (p : Int) < (t.2[k]).1 := by omega
          go_wp2_with fail
          generalize hWe : World.alloc wp _ = we
          have hbe : Below wp.heap.size wp we := hWe ▸ bA
          have hse : wp.heap.size + 1 ≤ we.heap.size := by rw [← hWe]; simp
          have HB0 : Hid (Bl Ty.int 2 wp.heap.size we.heap.size we (.slice (some ⟨wp.heap.size, 0, none⟩) 0 0) []) := by
            unfold Hid
            rw [← hWe]
            simpa using Bl.lit0 (E := Ty.int) (e := 2) (base := wp.heap.size) (w := wp) (Nat.le_refl _)
          clear hWe
          go_loopw [12, 11] (fun i v wq => ∃ q : Nat, q ≤ ar.toNat ∧ i = .int .i64 q ∧ Bl Ty.int 2 wp.heap.size wq.heap.size wq v ((colL (picks (t.2[k]).2 ar.toNat (c : Int)) p).take q) ∧ Below wp.heap.size wp wq) (fun i _ _ => ar.toNat - (intOf i).toNat)
          case atStart => exact ⟨0, Nat.zero_le _, rfl, by rw [List.take_zero]; exact HB0.out, hbe⟩
          case round =>
            obtain ⟨q, hq, rfl, hBq, hbq⟩ := hrel
            have HBQ := Lib.hid hBq
            have hzq := hbq.size
            clear hBq HB0
            have hlc3 : ((colL (picks (t.2[k]).2 ar.toNat (c : Int)) p).take q).length ≤ 3 := by rw [List.length_take, colL_len, picks_len]; omega
            obtain ⟨va4, vn4, vc4, rfl⟩ := ex_slice (HBQ.out.fr (by unfold capMax; omega))
            replace x0 := (cellB hbq (by omega)).trans x0
            replace x1 := (cellB hbq (by omega)).trans x1
            replace x3 := (cellB hbq (by omega)).trans x3
            replace q0 := (cellB hbq (by omega)).trans q0
            replace q2 := (cellB hbq (by omega)).trans q2
            replace q3 := (cellB hbq (by omega)).trans q3
            replace o0 := (cellB hbq (by omega)).trans o0
            replace o1 := (cellB hbq (by omega)).trans o1
            replace om := (frozenB hbq (by omega)).trans om
            obtain ⟨wq, rfl⟩ : ∃ wq : World, wq = wr := ⟨_, rfl⟩
            by_cases hql : q < ar.toNat
            · have hqI : (q : Int) < ar := by omega
              have hqd : q < (digL (n : Int) (c : Int) ar.toNat).length := by rw [digL_len]; exact hql
              obtain ⟨b7, o7, rfl, hb7, hc7⟩ := HLC.out (by omega)
              have e7 := (hc7 q hqd).2
              obtain ⟨dn, hdn⟩ : ∃ dn : Nat, (digL (n : Int) (c : Int) ar.toNat)[q] = (dn : Int) := ⟨((digL (n : Int) (c : Int) ar.toNat)[q]).toNat, by have := dig_mem (n := (n : Int)) (by omega) (List.getElem_mem hqd); omega⟩
              have hdn2 := dig_mem (n := (n : Int)) (by omega) (List.getElem_mem hqd)
              rw [hdn] at e7 hdn2
              have hdnn : dn < n := by omega
              have hdnl : dn < (t.2[k]).2.length := by have := HNC.out; omega
              obtain ⟨ud, hud, hcd⟩ := HCE.out dn hdnl
              have hdr := (HR.out.2.2 dn hdnl).1
              have hpd : p < ((t.2[k]).2[dn]).length := by have := hdr.1; omega
              obtain ⟨da, dc, hde, -, -, hdc⟩ := ints_ex hud
              obtain rfl : ud = _ := by simpa using hde
              obtain ⟨b9, o9, rfl, hb9, hc9⟩ := hdc (by omega)
              have e9 := (hc9 p hpd).2
              have hbWq := bthen hbwp hbq
              have f7 := (cellB hbq (show b7 < wp.heap.size by omega)).trans ((HTP.out.cell (show b7 < wo.heap.size by omega) (show ¬ (b7 = wl.heap.size) by omega)).trans ((cellB hbo hb7).trans e7))
              have f8 := (cellB hbWq haa).trans hcd
              have f9 := (cellB hbWq hb9).trans e9
              have hqc : q < (colL (picks (t.2[k]).2 ar.toNat (c : Int)) p).length := by rw [colL_len, picks_len]; exact hql
              have HSN : Hid ((colL (picks (t.2[k]).2 ar.toNat (c : Int)) p).take q ++ [((t.2[k]).2[dn])[p]] = (colL (picks (t.2[k]).2 ar.toNat (c : Int)) p).take (q + 1)) := by
                unfold Hid
                rw [List.take_succ_eq_append_getElem hqc, col_at HNC.out hqd hdn hdnl hpd hqc]
              have hxi := hdr.2 _ (List.getElem_mem hpd)
              have hI : I64 (((t.2[k]).2[dn])[p]) := I64.small (by omega) (by omega)
              clear hdn hc7 hcd hdr hdc hc9 hud hde e7 e9 hxi
              generalize ((t.2[k]).2[dn])[p] = xv at *
              go_wp2_with fail
              refine wp_region_T (fun w' => w'.cell? ⟨b, o + k * 2 + 1, none⟩ = some (.slice (some ⟨a8, o8, none⟩) n uc) ∧ w'.cell? ⟨b7, o7 + q, none⟩ = some (.int .i64 (dn : Int)) ∧ w'.cell? ⟨a8, o8 + dn, none⟩ = some (.slice (some ⟨b9, o9, none⟩) ((t.2[k]).2[dn]).length dc) ∧ w'.cell? ⟨b9, o9 + p, none⟩ = some (.int .i64 xv)) [15] (by kernel_rfl) ⟨q3, f7, f8, f9⟩ (fun hHeld => ?_)
              refine wpAnyT_take (i := 0) (v := ?_) rfl (by kernel_rfl) (fun _ _ _ h => h) (Or.inl ⟨by rfl, ?_⟩) (by assumption) ?_
              rotate_left
              · (intro w hSw; (try dsimp only at hSw); go_simp <;> with_reducible rfl)
              go_simp
              refine wpAnyT_take (i := 1) (v := ?_) rfl (by kernel_rfl) (fun _ _ _ h => h) (Or.inl ⟨by rfl, ?_⟩) (by assumption) ?_
              rotate_left
              · (intro w hSw; (try dsimp only at hSw); go_simp <;> with_reducible rfl)
              go_simp
              refine wpAnyT_take (i := 2) (v := ?_) rfl (by kernel_rfl) (fun _ _ _ h => h) (Or.inl ⟨by rfl, ?_⟩) (by assumption) ?_
              rotate_left
              · (intro w hSw; (try dsimp only at hSw); go_simp <;> with_reducible rfl)
              go_simp
              refine wpAnyT_take (i := 3) (v := ?_) rfl (by kernel_rfl) (fun _ _ _ h => h) (Or.inl ⟨by rfl, ?_⟩) (by assumption) ?_
              rotate_left
              · (intro w hSw; (try dsimp only at hSw); go_simp <;> with_reducible rfl)
              go_simp
              refine wpAnyT_take (i := 4) (v := ?_) rfl (by kernel_rfl) (fun _ _ _ h => h) (Or.inl ⟨by rfl, ?_⟩) (by assumption) ?_
              rotate_left
              · (intro w hSw; (try dsimp only at hSw); go_simp <;> with_reducible rfl)
              go_simp
              refine wpAnyT_take (i := 5) (v := ?_) rfl (by kernel_rfl) (fun _ _ _ h => h) (Or.inl ⟨by rfl, ?_⟩) (by assumption) ?_
              rotate_left
              · (intro w hSw; (try dsimp only at hSw); go_simp <;> with_reducible rfl)
              go_simp
              refine wpAnyT_take (i := 6) (v := ?_) rfl (by kernel_rfl) (fun _ _ _ h => h) (Or.inl ⟨by rfl, ?_⟩) (by assumption) ?_
              rotate_left
              · (intro w hSw; (try dsimp only at hSw); go_simp <;> with_reducible rfl)
              go_simp
              refine wpAnyT_take (i := 7) (v := ?_) rfl (by kernel_rfl) (fun _ _ _ h => h) (Or.inl ⟨by rfl, ?_⟩) (by assumption) ?_
              rotate_left
              · (intro w hSw; (try dsimp only at hSw); go_simp <;> with_reducible rfl)
              go_simp
              refine wpAnyT_take (i := 8) (v := ?_) rfl (by kernel_rfl) (fun _ _ _ h => h) (Or.inl ⟨by rfl, ?_⟩) (by assumption) ?_
              rotate_left
              · (intro w hSw; (try dsimp only at hSw); go_simp <;> with_reducible rfl)
              go_simp
              refine wpAnyT_take (i := 9) (v := ?_) rfl (by kernel_rfl) (fun _ _ _ h => h) (Or.inl ⟨by rfl, ?_⟩) (by assumption) ?_
              rotate_left
              · (intro w hSw; (try dsimp only at hSw); go_simp <;> with_reducible rfl)
              go_simp
              refine wpAnyT_take (i := 10) (v := ?_) rfl (by kernel_rfl) (fun _ _ _ h => h) (Or.inl ⟨by rfl, ?_⟩) (by assumption) ?_
              rotate_left
              · (intro w hSw; (try dsimp only at hSw); go_simp <;> with_reducible rfl)
              go_simp
              refine wpAnyT_take (i := 11) (v := ?_) rfl (by kernel_rfl) (fun _ _ _ h => h) (Or.inl ⟨by rfl, ?_⟩) (by assumption) ?_
              rotate_left
              · (intro w hSw; (try dsimp only at hSw); go_simp <;> with_reducible rfl)
              go_simp
              refine wpAnyT_take (i := 12) (v := ?_) rfl (by kernel_rfl) (fun _ _ _ h => h) (Or.inl ⟨by rfl, ?_⟩) (by assumption) ?_
              rotate_left
              · (intro w hSw; (try dsimp only at hSw); go_simp <;> with_reducible rfl)
              go_simp
              refine wpAnyT_take (i := 13) (v := ?_) rfl (by kernel_rfl) (fun _ _ _ h => h) (Or.inl ⟨by rfl, ?_⟩) (by assumption) ?_
              rotate_left
              · (intro w hSw; (try dsimp only at hSw); go_simp <;> with_reducible rfl)
              go_simp
              refine wpAnyT_one (i := 14) rfl (by kernel_rfl) (fun K hK => ?_)
              go_simp
              refine hK.out _ _ ⟨by go_keep, by go_keep, by go_keep, by go_keep⟩ (fun hHeld => ?_)
              clear hK K
              refine wpAnyT_last (i := 15) rfl (by kernel_rfl) (by kernel_rfl) (fun K hK => ?_)
              have hbX : ∀ ob : Obj, Below wq.heap.size wq (wq.drew.alloc ob) := fun ob => (Below.refl _ wq).drew.alloc (by simp) ob
              refine step_push (E := Ty.int) _ rfl _ _ 38 2 rfl elInt rfl (HBQ.out.below (hbX _) (Nat.le_refl _)) rfl news1 (fr_int hI) (by omega) (by decide) (by omega) (by first | (simp; done) | (simp; omega)) ?_
              intro v5 w5 hB5 hg5 hown
              have hb5 : Below wp.heap.size wp w5 := (hbq.trans ((hbX _).mono (by omega))).grown hg5 (by first | (simp; done) | (simp; omega)) (fun q hq => HBQ.out.ge hq)
              rw [HSN.out] at hB5
              have HB5 := Lib.hid hB5
              clear hB5 hg5 hown
              refine hK.out _ _ ?_
              clear hK K
              refine wpAnyT_last (i := 16) rfl (by kernel_rfl) (by kernel_rfl) (fun K hK => ?_)
              go_simp
              refine hK.out _ _ ?_
              clear hK K
              refine wpAnyT_done (by kernel_rfl) ?_ _
              go_simp
              go_wp2_with fail
              go_roundw
              case rel => exact ⟨q + 1, by omega, by go_num, HB5.out, hb5⟩
              case measure => simp [intOf]; omega
            · have hnq : ¬ (q : Int) < ar := by omega
              have HCOL : Hid (Bl Ty.int 2 wp.heap.size wq.heap.size wq (.slice va4 vn4 vc4) (colL (picks (t.2[k]).2 ar.toNat (c : Int)) p)) := by
                have h1 := HBQ.out
                rw [List.take_of_length_le (by rw [colL_len, picks_len]; omega)] at h1
                exact h1
              have hcl3 : (colL (picks (t.2[k]).2 ar.toNat (c : Int)) p).length ≤ 5 := by rw [colL_len, picks_len]; omega
              have HCRD := Lib.hid (HCOL.out.fr (by unfold capMax; omega)).rd
              have HCIN := Lib.hid (colL_in HTU.out hpl)
              have hix := idx_lt (s := t.1) (by omega) (xs := colL (picks (t.2[k]).2 ar.toNat (c : Int)) p) (m := ar.toNat) (by rw [colL_len, picks_len]) (colL_in HTU.out hpl)
              rw [HNN.out] at hix
              have HCG := Lib.hid (cells_get (s := t.1) (ar := ar.toNat) (r := t.2[k]) (i := (c : Int)) hpl)
              have hpc : p < (cellsL t.1 ar.toNat t.2[k] (c : Int)).length := by rw [cells_len]; exact hpl
              have HTS : Hid (topI ((cellsL t.1 ar.toNat t.2[k] (c : Int)).take (p + 1)) = max (topI ((cellsL t.1 ar.toNat t.2[k] (c : Int)).take p)) (idxL t.1 0 (colL (picks (t.2[k]).2 ar.toNat (c : Int)) p))) := by
                unfold Hid
                rw [topI_take hpc]
                congr 1
                simp [cellsL]
              have hI : I64 (idxL t.1 0 (colL (picks (t.2[k]).2 ar.toNat (c : Int)) p)) := I64.small (by omega) (by omega)
              have HBLq := Lib.hid ((HBL.out.below hbq (Nat.le_refl _)).mono hbq.size)
              obtain ⟨va5, vn5, vc5, rfl⟩ := ex_slice (HBLq.out.fr (by rw [List.length_take, cells_len]; unfold capMax; omega))
              have hlv : ((cellsL t.1 ar.toNat t.2[k] (c : Int)).take p).length ≤ 4 := by rw [List.length_take, cells_len]; omega
              have HVO : Hid ((Value.slice va5 vn5 vc5).ownBlock ≠ some wl.heap.size) := fun e => by have := HBLq.out.ge e; omega
              have hobq : wl.heap.size < wq.heap.size := by omega
              clear hpc
              go_wp2_with fail
              refine (l01Code_any _ t.1 HCRD.out (by omega) (by omega) hcl3 HCIN.out).mono ?_
              rintro e _ ⟨rfl, rfl⟩
              generalize hat : idxL t.1 0 (colL (picks (t.2[k]).2 ar.toNat (c : Int)) p) = at0 at *
              go_upto_region 18 with (at_builtin; go_loud (refine wpList_push (E := Ty.int) _ rfl _ _ 38 2 rfl elInt rfl (HBLq.out.below bA (Nat.le_refl _)) rfl news1 (fr_int hI) (by omega) (by decide) (by omega) (by first | (simp; done) | (simp; omega)) ?_; intro v5 w5 hB5 hg5 hown; obtain ⟨a5, n5, c5, rfl⟩ := ex_slice (hB5.fr (by rw [List.length_append]; unfold capMax; simp only [List.length_singleton]; omega)); have i1 := (grown_cell' (i := 1) hg5 (show wl.heap.size < _ by first | (simp; done) | (simp; omega)) HVO.out).trans ((cellB (bA (w := wq)) hobq).trans o1); have j1 := (World.frozen?_of_block (a := ⟨wl.heap.size, 1, none⟩) (hg5.block wl.heap.size (by first | (simp; done) | (simp; omega)) (fun e => HVO.out e.symm))).trans ((frozenB (bA (w := wq)) hobq).trans om); have i0 := (grown_cell' (i := 0) hg5 (show wl.heap.size < _ by first | (simp; done) | (simp; omega)) HVO.out).trans ((cellB (bA (w := wq)) hobq).trans o0)))
              have hbj : ∀ ob : Obj, Below wq.heap.size wq (wq.alloc ob) := fun _ => bA
              have hg6 : (wq.alloc (.cells #[.int .i64 at0] 2)).grownBy w5 (Value.slice va5 vn5 vc5).ownBlock := hg5
              have hown6 : (Value.slice a5 n5 c5).ownBlock = (Value.slice va5 vn5 vc5).ownBlock ∨ (Value.slice a5 n5 c5).ownBlock = some (wq.alloc (.cells #[.int .i64 at0] 2)).heap.size := hown
              have hV5 : (Value.slice a5 n5 c5).ownBlock ≠ some wl.heap.size := fun e => by
                rcases hown6 with h | h
                · rw [h] at e; exact HVO.out e
                · rw [h] at e; simp at e; omega
              rw [HCG.out] at hB5
              have ht5 : TchP (fun q => (Value.slice va5 vn5 vc5).ownBlock = some q) wq w5 := (TchP.of_below (hbj _) _).then (TchP.grown hg6 (fun q h => h)) (fun q _ h => h)
              have ht6 : TchP (fun q => q = wl.heap.size) wo (w5.setCell ⟨wl.heap.size, 1, none⟩ (.slice a5 n5 c5)) := ((HTP.out.then (TchP.of_below hbq (fun _ => False)) (fun q _ h => h.elim)).then ht5 (fun q hq h => by have := HBLq.out.ge h; omega)).then (TchP.set (O := fun q => q = wl.heap.size) rfl) (fun q _ h => h)
              have HB6 := Lib.hid (bl_int_same (w' := w5.setCell ⟨wl.heap.size, 1, none⟩ (.slice a5 n5 c5)) (top' := (w5.setCell ⟨wl.heap.size, 1, none⟩ (.slice a5 n5 c5)).heap.size) hB5 (fun b hb => Below.heap_setCell _ _ _ _ (fun e => hV5 (by rw [hb]; simp at e; rw [e]))) (by simp [World.setCell]))
              have k0 : (w5.setCell ⟨wl.heap.size, 1, none⟩ (.slice a5 n5 c5)).cell? ⟨wl.heap.size, 0, none⟩ = some (.int .i64 (k : Int)) := (World.cell?_setCell_other _ _ _ _ (by simp)).trans i0
              have k1 : (w5.setCell ⟨wl.heap.size, 1, none⟩ (.slice a5 n5 c5)).cell? ⟨wl.heap.size, 1, none⟩ = some (.slice a5 n5 c5) := World.cell?_setCell_same _ _ _ i1
              have km : (w5.setCell ⟨wl.heap.size, 1, none⟩ (.slice a5 n5 c5)).frozen? ⟨wl.heap.size, 1, none⟩ = false := (World.frozen?_setCell _ _ _ _).trans j1
              clear hB5 hg5 hown hg6 hown6 hV5 ht5 i0 i1 j1 hat
              generalize w5.setCell ⟨wl.heap.size, 1, none⟩ (.slice a5 n5 c5) = w6' at *
              go_wp2_with fail
              refine (l00Max_any _ _ _).mono ?_
              rintro e _ ⟨rfl, rfl⟩
              go_wp2_with fail
              go_roundw
              case rel => exact ⟨p + 1, .slice a5 n5 c5, by omega, by go_num, by rw [HTS.out], HB6.out, k0, k1, km, ht6⟩
              case measure => simp [intOf]; omega
        · have hnp : ¬ (p : Int) < (t.2[k]).1 := by omega
          obtain ⟨C, hC⟩ : ∃ C, cellsL t.1 ar.toNat t.2[k] (c : Int) = C := ⟨_, rfl⟩
          have hCl : C.length = (t.2[k]).1.toNat := by rw [← hC, cells_len]
          have hC4 : 1 ≤ C.length ∧ C.length ≤ 4 := by omega
          have HCN : Hid (∀ x ∈ C, 0 ≤ x ∧ x < (N : Int)) := by unfold Hid; rw [← hC]; exact cells_in (by omega) HR.out (by have := HNC.out; omega) HNN.out
          have hCT : (cellsL t.1 ar.toNat t.2[k] (c : Int)).take p = C := by rw [hC, List.take_of_length_le (by omega)]
          have HBF : Hid (Bl Ty.int 2 wo.heap.size wp.heap.size wp vc C) := by
            have h1 := HBL.out
            rw [hCT] at h1
            exact h1
          rw [hCT]
          obtain ⟨qa, qc, rfl⟩ := rd_slice (HBF.out.fr (by unfold capMax; omega)).rd
          obtain ⟨l, hl⟩ : ∃ l : Nat, topI C = l := ⟨(topI C).toNat, by have := topI_nn (xs := C); omega⟩
          have hlN : l < N := by
            have hN1 := HCN.out C[0] (List.getElem_mem (by omega))
            have h0 : topI C ≤ (N : Int) - 1 := topI_le (by omega) (fun x hx => by have := HCN.out x hx; omega)
            omega
          have HL := Lib.hid hl
          have HCC := Lib.hid hC
          have HN7 := Lib.hid (HRN.out.below hbip)
          have HFS := Lib.hid HN7.out.1
          have HFB := Lib.hid HN7.out.2.2.1
          have f4 := HFS.out.du.cell hlN
          have f5 := HFS.out.du.free l
          have hbsp := HFB.out.1
          have hgdp := HFS.out.lt
          have hzl4 : Z'.length ≤ 4000 := by
            have h1 := congrArg List.length HRN.out.2.1
            rw [List.length_map, List.length_append, looksR_len] at h1
            omega
          have hzf := zF_len (Z := Z') (v := l)
          obtain ⟨ua2, un2, uc2, hul⟩ := ex_slice ((HFS.out.du.2.2.1 l hlN).fr (by rw [List.length_map]; unfold capMax; omega))
          have HUL := Lib.hid hul
          rw [hul] at f4
          have HBl : Hid (Bl pvT 288 base wp.heap.size wp (.slice ua2 un2 uc2) ((zF Z' l).map (·.2))) := by unfold Hid; rw [← hul]; exact HFS.out.du.2.2.1 l hlN
          have hOL : ∀ q, (Value.slice ua2 un2 uc2).ownBlock = some q → base ≤ q ∧ q < wi.heap.size := fun q hq => ⟨HBl.out.ge hq, by rw [← hul] at hq; exact (HRN.out.1.du.2.2.1 l hlN).lt_top hq⟩
          have HOL := Lib.hid hOL
          have hI : I64 (k : Int) := I64.small (by omega) (by omega)
          have hzp3 : base ≤ wp.heap.size := Nat.le_trans hz6 hbip.size
          rw [hl]
          clear hC hl hul hOL hCl hCT x0 x1 q0 q3 X0 X1 X3 Q0 Q2 Q3
          go_wp2_with fail
          refine wp_region_T (fun w' => w'.cell? ⟨br, 3, none⟩ = some (.slice (some ⟨gd, 0, none⟩) N N) ∧ w'.cell? ⟨gd, l, none⟩ = some (.slice ua2 un2 uc2) ∧ w'.cell? ⟨wl.heap.size, 0, none⟩ = some (.int .i64 (k : Int)) ∧ w'.cell? ⟨wl.heap.size, 1, none⟩ = some (.slice qa C.length qc)) [16] (by kernel_rfl) ⟨x3, f4, o0, o1⟩ (fun hHeld => ?_)
          refine wpAnyT_take (i := 0) (v := ?_) rfl (by kernel_rfl) (fun _ _ _ h => h) (Or.inl ⟨by rfl, ?_⟩) (by assumption) ?_
          rotate_left
          · (intro w hSw; (try dsimp only at hSw); go_simp <;> with_reducible rfl)
          go_simp
          refine wpAnyT_take (i := 1) (v := ?_) rfl (by kernel_rfl) (fun _ _ _ h => h) (Or.inl ⟨by rfl, ?_⟩) (by assumption) ?_
          rotate_left
          · (intro w hSw; (try dsimp only at hSw); go_simp <;> with_reducible rfl)
          go_simp
          refine wpAnyT_take (i := 2) (v := ?_) rfl (by kernel_rfl) (fun _ _ _ h => h) (Or.inl ⟨by rfl, ?_⟩) (by assumption) ?_
          rotate_left
          · (intro w hSw; (try dsimp only at hSw); go_simp <;> with_reducible rfl)
          go_simp
          refine wpAnyT_take (i := 3) (v := ?_) rfl (by kernel_rfl) (fun _ _ _ h => h) (Or.inl ⟨by rfl, ?_⟩) (by assumption) ?_
          rotate_left
          · (intro w hSw; (try dsimp only at hSw); go_simp <;> with_reducible rfl)
          go_simp
          refine wpAnyT_take (i := 4) (v := ?_) rfl (by kernel_rfl) (fun _ _ _ h => h) (Or.inl ⟨by rfl, ?_⟩) (by assumption) ?_
          rotate_left
          · (intro w hSw; (try dsimp only at hSw); go_simp <;> with_reducible rfl)
          go_simp
          refine wpAnyT_take (i := 5) (v := ?_) rfl (by kernel_rfl) (fun _ _ _ h => h) (Or.inl ⟨by rfl, ?_⟩) (by assumption) ?_
          rotate_left
          · (intro w hSw; (try dsimp only at hSw); go_simp <;> with_reducible rfl)
          go_simp
          refine wpAnyT_take (i := 6) (v := ?_) rfl (by kernel_rfl) (fun _ _ _ h => h) (Or.inl ⟨by rfl, ?_⟩) (by assumption) ?_
          rotate_left
          · (intro w hSw; (try dsimp only at hSw); go_simp <;> with_reducible rfl)
          go_simp
          refine wpAnyT_take (i := 7) (v := ?_) rfl (by kernel_rfl) (fun _ _ _ h => h) (Or.inl ⟨by rfl, ?_⟩) (by assumption) ?_
          rotate_left
          · (intro w hSw; (try dsimp only at hSw); go_simp <;> with_reducible rfl)
          go_simp
          refine wpAnyT_take (i := 8) (v := ?_) rfl (by kernel_rfl) (fun _ _ _ h => h) (Or.inl ⟨by rfl, ?_⟩) (by assumption) ?_
          rotate_left
          · (intro w hSw; (try dsimp only at hSw); go_simp <;> with_reducible rfl)
          go_simp
          refine wpAnyT_take (i := 9) (v := ?_) rfl (by kernel_rfl) (fun _ _ _ h => h) (Or.inl ⟨by rfl, ?_⟩) (by assumption) ?_
          rotate_left
          · (intro w hSw; (try dsimp only at hSw); go_simp <;> with_reducible rfl)
          go_simp
          refine wpAnyT_take (i := 10) (v := ?_) rfl (by kernel_rfl) (fun _ _ _ h => h) (Or.inl ⟨by rfl, ?_⟩) (by assumption) ?_
          rotate_left
          · (intro w hSw; (try dsimp only at hSw); go_simp <;> with_reducible rfl)
          go_simp
          refine wpAnyT_take (i := 11) (v := ?_) rfl (by kernel_rfl) (fun _ _ _ h => h) (Or.inl ⟨by rfl, ?_⟩) (by assumption) ?_
          rotate_left
          · (intro w hSw; (try dsimp only at hSw); go_simp <;> with_reducible rfl)
          go_simp
          refine wpAnyT_take (i := 12) (v := ?_) rfl (by kernel_rfl) (fun _ _ _ h => h) (Or.inl ⟨by rfl, ?_⟩) (by assumption) ?_
          rotate_left
          · (intro w hSw; (try dsimp only at hSw); go_simp <;> with_reducible rfl)
          go_simp
          refine wpAnyT_one (i := 13) rfl (by kernel_rfl) (fun K hK => ?_)
          go_simp
          refine hK.out _ _ ⟨by go_keep, by go_keep, by go_keep, by go_keep⟩ (fun hHeld => ?_)
          clear hK K
          refine wpAnyT_one (i := 14) rfl (by kernel_rfl) (fun K hK => ?_)
          have hbX : ∀ o : Obj, Below wp.heap.size wp (wp.drew.alloc o) := fun o => (Below.refl _ wp).drew.alloc (by simp) o
          refine step_push (E := pvT) _ rfl _ _ 289 288 rfl elCond rfl (HBl.out.below (hbX _) (Nat.le_refl _)) rfl news2 (fr_pv (x := .slice qa C.length qc) hI rfl) (by rw [List.length_map]; omega) (by decide) (by omega) (by first | (simp; done) | (simp; omega)) ?_
          intro v5 w5 hB5 hg5 hown
          obtain ⟨a5, n5, c5, rfl⟩ := ex_slice (hB5.fr (by rw [List.length_append, List.length_map]; unfold capMax; simp only [List.length_singleton]; omega))
          have hg6 : ((wp.alloc (.cells #[.int .i64 (k : Int), .slice qa C.length qc] 288)).drew).grownBy w5 (Value.slice ua2 un2 uc2).ownBlock := hg5
          have hown6 : (Value.slice a5 n5 c5).ownBlock = (Value.slice ua2 un2 uc2).ownBlock ∨ (Value.slice a5 n5 c5).ownBlock = some ((wp.alloc (.cells #[.int .i64 (k : Int), .slice qa C.length qc] 288)).drew).heap.size := hown
          have hbX2 : Below wp.heap.size wp ((wp.alloc (.cells #[.int .i64 (k : Int), .slice qa C.length qc] 288)).drew) := hbX _
          clear hg5 hown
          generalize hWX : (wp.alloc (.cells #[.int .i64 (k : Int), .slice qa C.length qc] 288)).drew = wx at hg6 hown6 hbX2
          have hxs := hbX2.size
          have HZ : Hid (pvR (okN base N us' vin) wx (((k : Int), C), ((k : Int), .slice qa C.length qc))) := by
            refine ⟨rfl, hI, ?_⟩
            obtain ⟨fp, h1, h2, h3, h4⟩ := HBF.out.fr (by unfold capMax; omega)
            exact Ty.RdP.below ⟨fp, h1, fun q hq => ⟨by have := h3 q hq; omega, fun v hv e => by have := h3 q hq; have := (HRN.out.1.du.2.2.1 v hv).lt_top e; omega, fun e => by have := h3 q hq; have := HRN.out.1.vi.lt_top e; omega⟩⟩ hbX2
          have HD5 := Lib.hid (FinS.pushDue (z := (((k : Int), C), ((k : Int), .slice qa C.length qc))) (HFS.out.below hzp3 hbX2) (by omega) hlN HL.out hB5 (by rw [HUL.out]; exact hg6) (by rw [HUL.out]; exact hown6) HZ.out)
          have ht5 : TchP (fun q => (Value.slice ua2 un2 uc2).ownBlock = some q) wp w5 := (TchP.of_below hbX2 _).then (TchP.grown hg6 (fun q h => h)) (fun q _ h => h)
          have ht6 : TchP (fun q => q = gd ∨ (Value.slice ua2 un2 uc2).ownBlock = some q) wp (w5.setCell ⟨gd, l, none⟩ (.slice a5 n5 c5)) := (ht5.mono (fun q _ h => .inr h)).then (TchP.set (O := fun q => q = gd) rfl) (fun q _ h => .inl h)
          have hnO : ∀ q, (q < base ∨ wi.heap.size ≤ q) → (Value.slice ua2 un2 uc2).ownBlock ≠ some q := fun q hq e => by have := HOL.out q e; omega
          have hgd0 : gd < base := HFS.out.du.2.1
          have i3 := (ht5.cell (i := 3) hbsp (hnO br (by omega))).trans x3
          have i4 := (ht5.cell (i := l) hgdp (hnO gd (by omega))).trans f4
          have i5 := (ht5.frozen (i := l) hgdp (hnO gd (by omega))).trans f5
          have j0 := (ht5.cell (i := 0) hobl (hnO _ (by omega))).trans o0
          have j1 := (ht5.cell (i := 1) hobl (hnO _ (by omega))).trans o1
          have HNN7 : Hid (RnI base W (.pointer (some ⟨tq, tf, none⟩)) ar N br gd gf gt of0 ot0 (looksT t ar.toNat k ++ looksR t.1 ar.toNat k t.2[k] (c + 1)) I (fun v => if v = l then .slice a5 n5 c5 else us' v) vin (Z' ++ [(((k : Int), C), ((k : Int), .slice qa C.length qc))]) vs (w5.setCell ⟨gd, l, none⟩ (.slice a5 n5 c5))) := by
            have hnn : ∀ q, q ≠ gd → (q < base ∨ wi.heap.size ≤ q) → ¬ (q = gd ∨ (Value.slice ua2 un2 uc2).ownBlock = some q) := fun q h1 h2 h => by
              rcases h with h | h
              · exact h1 h
              · exact hnO q h2 h
            obtain ⟨y1, y2, y3, y4⟩ := HN7.out.2.2.2.1
            have hzz := ht6.size
            refine ⟨HD5.out, ?_, HFB.out.same (ht6.block br hbsp (hnn br hbr.1 (by omega))) ht6.size, ⟨by omega, by omega, (ht6.block gf y1 (hnn gf hgf.1 (by omega))).trans y3, (ht6.block gt y2 (hnn gt hgt.1 (by omega))).trans y4⟩, HN7.out.2.2.2.2.1.trans (ht6.below (by have := HN7.out.2.2.2.2.1.size; omega) (fun q hq h => by
              rcases h with h | h
              · omega
              · have := HOL.out q h; omega)), by omega⟩
            rw [List.map_append, HN7.out.2.1, looksR_succ, ← List.append_assoc, HCC.out]
            rfl
          have hz7 := ht6.size
          clear hB5 hg6 hown6 hWX HZ HD5 ht5 hnO HFS HFB
          refine hK.out _ _ ⟨i3, i4, j0, j1⟩ (fun hHeld => ?_)
          clear hK K
          refine wpAnyT_take (i := 15) (v := ?_) rfl (by kernel_rfl) (fun _ _ _ h => h) (Or.inl ⟨by rfl, ?_⟩) (by assumption) ?_
          rotate_left
          · (intro w hSw; (try dsimp only at hSw); go_simp <;> with_reducible rfl)
          go_simp
          refine wpAnyT_last (i := 16) rfl (by kernel_rfl) (by kernel_rfl) (fun K hK => ?_)
          go_simp
          refine hK.out _ _ ?_
          clear hK K
          refine wpAnyT_done (by kernel_rfl) ?_ _
          go_simp
          clear i3 i4 i5 j0 j1 hHeld ht6
          generalize w5.setCell ⟨gd, l, none⟩ (.slice a5 n5 c5) = w7 at *
          go_wp2_with fail
          go_roundw
          case rel => exact ⟨c + 1, _, _, by omega, by go_num, HNN7.out⟩
          case measure => simp [intOf]; omega
    · obtain rfl : c = M := by omega
      have HEND : Hid (AdR base W (.pointer (some ⟨tq, tf, none⟩)) ar N br gd gf gt of0 ot0 (looksT t ar.toNat (k + 1)) I vin vs wi) := ⟨us', Z', by rw [← HLS.out]; exact HRN.out⟩
      go_wp2_with fail
      exact bodyPost_end (v := .tuple #[]) (by simp [results, Tryz.results230, go_sem]) rfl ⟨rfl, HEND.out⟩
end Go.Proofs.YtajmjfbejfiipaaGreat
