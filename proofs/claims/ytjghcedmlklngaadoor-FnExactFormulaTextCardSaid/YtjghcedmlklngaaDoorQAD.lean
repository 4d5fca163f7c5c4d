/-
Contracts: the program's InstanceText and FormulaText.
Contracts: valid instances and formulas, the reference's.
Contracts: the reference's InstanceText and FormulaText.
Contracts: the reference's FormulaText.
-/
import Derived.Test.YtjghcedmlklngaaDoorQAC
namespace Go.Proofs.YtjghcedmlklngaaDoor
open Go.RowKit Go.Sort
theorem shI_any {x : Int × List (Int × List Int)} (h1 : 1 ≤ x.1 ∧ x.1 ≤ 10) (h2 : x.2.length ≤ 24) : (!anyB (fun c => !tb (shC x.1 0 c)) x.2) = tb (shI x) := by
  rw [Bool.eq_iff_iff, tb_iff]
  simp only [anyB, shI, h1, h2, true_and, Bool.not_eq_true', List.any_eq_false, Bool.not_eq_false, tb_iff, and_self]
theorem shF_any {x : Int × Int × List (Int × List Int)} (h1 : frameOk x) : (!anyB (fun c => !tb (shC x.2.1 (-1) c)) x.2.2) = tb (shF x) := by
  rw [Bool.eq_iff_iff, tb_iff]
  simp only [anyB, shF, h1, true_and, Bool.not_eq_true', List.any_eq_false, Bool.not_eq_false, tb_iff]
theorem not_tb {p q : Bool} (h : (!p) = q) : p = !q := by rw [← h, Bool.not_not]
theorem Bl.str3 {w : World} {e : Nat} {a b c : List UInt8} {n : Nat} (hn : n = w.heap.size) : Bl Ty.str e w.heap.size (w.heap.size + 1) (w.alloc (.cells #[.string ⟨a.toArray⟩, .string ⟨b.toArray⟩, .string ⟨c.toArray⟩] e)) (.slice (some ⟨n, 0, none⟩) 3 3) [a, b, c] := by
  subst hn
  refine ⟨[.string ⟨a.toArray⟩, .string ⟨b.toArray⟩, .string ⟨c.toArray⟩], fun _ => [], World.ownsRow_lit w _ 3 (Nat.le_refl _) (by decide) rfl, fun i h => ?_, (List.nodup_nil : ([] : List Nat).Nodup), fun b hb => absurd (show b ∈ ([] : List Nat) from hb) (by simp), by simp [Value.ownBlock], fun b hb => absurd (show b ∈ ([] : List Nat) from hb) (by simp)⟩
  have h' : i < 3 := h
  match i, h' with
  | 0, _ => exact ⟨[.string ⟨a.toArray⟩], ⟨rfl, rfl⟩, fun j hj => by simp at hj; subst hj; rfl⟩
  | 1, _ => exact ⟨[.string ⟨b.toArray⟩], ⟨rfl, rfl⟩, fun j hj => by simp at hj; subst hj; rfl⟩
  | 2, _ => exact ⟨[.string ⟨c.toArray⟩], ⟨rfl, rfl⟩, fun j hj => by simp at hj; subst hj; rfl⟩
set_option maxHeartbeats 3200000 in
set_option maxRecDepth 100000 in
theorem InstanceText_any (w : World) {cs : Array Value} {x : Int × List (Int × List Int)} (h : instT.Rd w cs.toList x) :
    Calls Tryd.prog 8 #[.agg cs] w fun e w' => e = .returned (.string ⟨(itV x).toArray⟩) ∧ Below w.heap.size w w' := by
  have hx := h
  obtain ⟨v, hv, hI, hy⟩ := pair_ex h
  obtain rfl := agg_of hv
  obtain ⟨ad, cap, rfl⟩ := rd_slice hy
  have p0 : instT.Pt (w.alloc (.cells #[.int .i64 x.1, .slice ad x.2.length cap] 29)) (.pointer (some ⟨w.heap.size, 0, none⟩)) x := pt_box hx
  have hyb := hy.below (bA (o := .cells #[.int .i64 x.1, .slice ad x.2.length cap] 29))
  have HY := Lib.hid hyb
  have HP := Lib.hid p0
  clear h hv hx hy hyb p0
  cases hn : inB x.1 1 10
  · have HN : Hid (itV x = []) := it_no fun hh => by have := inB_true.2 hh.1; rw [hn] at this; cases this
    go_enter Tryd.func8, Tryd.ntmps8
    go_wp2_with (go_at_call 19; refine (isVars_any _ _).mono ?_; rintro e w' ⟨rfl, rfl⟩; rw [hn])
    go_ret
    exact ⟨by rw [HN.out]; rfl, bA⟩
  have hn' := inB_true.1 hn
  by_cases hl : x.2.length ≤ 24
  rotate_left
  · have hl2 : decide ((24 : Int) < x.2.length) = true := by simp; omega
    have HN : Hid (itV x = []) := it_no fun hh => hl hh.2.1
    clear hl hn'
    go_enter Tryd.func8, Tryd.ntmps8
    go_wp2_with (go_at_call 19; refine (isVars_any _ _).mono ?_; rintro e w' ⟨rfl, rfl⟩; rw [hn])
    go_ret
    exact ⟨by rw [HN.out]; rfl, bA⟩
  have hl2 : decide ((24 : Int) < x.2.length) = false := by simp; omega
  have HL := Lib.hid hl
  have HN' := Lib.hid hn'
  have HQ := Lib.hid (not_tb (shI_any hn' hl))
  clear hl hn'
  cases hS : tb (shI x)
  · have HN : Hid (itV x = []) := it_no fun hh => by rw [tb_true hh] at hS; cases hS
    unfold Hid at HQ
    rw [hS] at HQ
    go_enter Tryd.func8, Tryd.ntmps8
    go_wp2_with (go_at_call 19; refine (isVars_any _ _).mono ?_; rintro e w' ⟨rfl, rfl⟩; rw [hn])
    refine (ContainsFuncCon_any _ HY.out (fun c => !tb (shC x.1 0 c)) 21 #[.pointer (some ⟨w.heap.size, 0, none⟩)] (enters Tryd.func21 (by kernel_rfl) rfl) (fun W hW k hk cs hcs => InstanceText1_any W hcs (HP.out.below hW) (by have := HN'.out.1; omega) (by have := HN'.out.2; omega))).mono ?_
    rintro e w2 ⟨rfl, hb2⟩
    rw [HQ]
    go_wp2_with fail
    go_ret
    exact ⟨by rw [HN.out]; rfl, bthen bA hb2⟩
  have hsh := tb_iff.1 hS
  have HSH := Lib.hid hsh
  have HN := Lib.hid (it_yes hsh)
  unfold Hid at HQ
  rw [hS] at HQ
  have HTL := Lib.hid fun k => txI_len hsh k
  clear hsh hS
  go_enter Tryd.func8, Tryd.ntmps8
  go_wp2_with (go_at_call 19; refine (isVars_any _ _).mono ?_; rintro e w' ⟨rfl, rfl⟩; rw [hn])
  refine (ContainsFuncCon_any _ HY.out (fun c => !tb (shC x.1 0 c)) 21 #[.pointer (some ⟨w.heap.size, 0, none⟩)] (enters Tryd.func21 (by kernel_rfl) rfl) (fun W hW k hk cs hcs => InstanceText1_any W hcs (HP.out.below hW) (by have := HN'.out.1; omega) (by have := HN'.out.2; omega))).mono ?_
  rintro e w2 ⟨rfl, hb2⟩
  rw [HQ]
  have hB2 : Below w.heap.size w w2 := bthen bA hb2
  have hz2 := hb2.size
  have z2 : w.heap.size < w2.heap.size := by simp at hz2; omega
  have c0 : w2.cell? ⟨w.heap.size, 0, none⟩ = some (.int .i64 x.1) := (cellB hb2 (by simp)).trans (by simp [go_sem])
  have c1 : w2.cell? ⟨w.heap.size, 1, none⟩ = some (.slice ad x.2.length cap) := (cellB hb2 (by simp)).trans (by simp [go_sem])
  have HY2 := Lib.hid (HY.out.below hb2)
  have hd := @dec_len x.1 (by have := HN'.out; omega)
  have ha1 : ∀ W : World, (Op.stringOp .add ⟨#[105, 110, 115, 116, 97, 110, 99, 101, 32]⟩ ⟨(decB x.1).toArray⟩).run Tryd.prog W = .ok (.string ⟨(cat [105, 110, 115, 116, 97, 110, 99, 101, 32] (decB x.1)).toArray⟩) W := fun W => add_cat W _ _ (by simp; omega)
  have ha2 : ∀ W : World, (Op.stringOp .add ⟨(cat [105, 110, 115, 116, 97, 110, 99, 101, 32] (decB x.1)).toArray⟩ ⟨#[10]⟩).run Tryd.prog W = .ok (.string ⟨(txH x.1).toArray⟩) W := fun W => add_cat W _ _ (by rw [cat_len]; simp; omega)
  clear hd hb2 hz2 HP HY HQ hl2 hn
  go_wp2_with (go_at_call 25; refine (dec_any _ (by have := HN'.out; omega) (by have := HN'.out; omega)).mono ?_; rintro e w' ⟨rfl, rfl⟩)
  clear ha1 ha2
  go_loopw [3, 30] (fun c i wr => ∃ k : Nat, k ≤ x.2.length ∧ i = .int .i64 k ∧ c = .string ⟨(catL txC (txH x.1) (x.2.take k)).toArray⟩ ∧ Below w2.heap.size w2 wr) (fun _ i _ => x.2.length - (intOf i).toNat)
  case atStart => exact ⟨0, Nat.zero_le _, rfl, by rw [catL_zero], Below.refl _ _⟩
  case round =>
    obtain ⟨k, hk, rfl, rfl, hbr⟩ := hrel
    obtain ⟨wv, rfl⟩ : ∃ wv : World, wv = wr := ⟨_, rfl⟩
    by_cases hkl : k < x.2.length
    · obtain ⟨b, o, rfl, hp⟩ := rd_elem HY2.out hkl
      have hp' : opT.Pt w2 (.pointer (some ⟨b, o + k * 2, none⟩)) x.2[k] := hp
      obtain ⟨_, _, a1, k1, hbo, hb1, hI1, f0, f1, hs⟩ := pt_pair hp'
      simp only [Value.pointer.injEq, Option.some.injEq, Addr.mk.injEq, and_true] at hbo
      obtain ⟨rfl, rfl⟩ := hbo
      have g0 := (cellB hbr hb1).trans f0
      have g1 := (cellB hbr hb1).trans f1
      have hs' := hs.below hbr
      have hck := HSH.out.2.2 _ (List.getElem_mem hkl)
      have HST := Lib.hid (catL_succ (f := txC) (hd := txH x.1) hkl)
      have hTL := HTL.out k
      have hlc := txC_len hck HN'.out.2
      have hdl := (@dec_len (x.2[k]).1 (by have := hck.1; omega)).2
      have hjl := join_len (xs := (x.2[k]).2.map decB) (B := 2) fun y hy => by
        obtain ⟨a, ha, rfl⟩ := List.mem_map.1 hy
        exact (@dec_len a (by have := shC_dec hck HN'.out.2 a ha; omega)).2
      rw [List.length_map] at hjl
      have hsc := hck.2.1
      have hin : ∀ a ∈ (x.2[k]).2, 0 ≤ a ∧ a < 100 := fun a ha => by have := shC_dec hck HN'.out.2 a ha; omega
      have HJ := Lib.hid (con_join (c := x.2[k]) hck.2.1.1)
      have hrel := hck.1
      generalize x.2[k] = c at *
      have hl3 : c.2.length ≤ 1000 := by omega
      have hjl' : (Lib.join (c.2.map decB) [32]).length ≤ 100 := by omega
      generalize catL txC (txH x.1) (x.2.take k) = C at *
      have ha1 : ∀ W : World, (Op.stringOp .add ⟨(decB c.1).toArray⟩ ⟨#[32]⟩).run Tryd.prog W = .ok (.string ⟨(cat (decB c.1) [32]).toArray⟩) W := fun W => add_cat W _ _ (by simp; omega)
      have ha2 : ∀ W : World, (Op.stringOp .add ⟨(cat (decB c.1) [32]).toArray⟩ ⟨(Lib.join (c.2.map decB) [32]).toArray⟩).run Tryd.prog W = .ok (.string ⟨(cat (cat (decB c.1) [32]) (Lib.join (c.2.map decB) [32])).toArray⟩) W := fun W => add_cat W _ _ (by rw [cat_len]; simp; omega)
      have ha3 : ∀ W : World, (Op.stringOp .add ⟨(cat (cat (decB c.1) [32]) (Lib.join (c.2.map decB) [32])).toArray⟩ ⟨#[10]⟩).run Tryd.prog W = .ok (.string ⟨(txC c).toArray⟩) W := fun W => by
        rw [← HJ.out]; exact add_cat W _ _ (by rw [cat_len, cat_len]; simp; omega)
      have ha4 : ∀ W : World, (Op.stringOp .add ⟨C.toArray⟩ ⟨(txC c).toArray⟩).run Tryd.prog W = .ok (.string ⟨(cat C (txC c)).toArray⟩) W := fun W => add_cat W _ _ (by omega)
      have HIN := Lib.hid hin
      have HR := Lib.hid hrel
      have HJL := Lib.hid hjl'
      have HS' := Lib.hid hs'
      have HL3 := Lib.hid hl3
      clear hp hp' f0 f1 hs hck hlc hdl hjl hjl' hsc hin hrel hl3 hs' hTL
      go_wp2_with fail
      generalize hW : World.alloc wv _ = wr
      have hB : Below wv.heap.size wv wr := hW ▸ bA
      have e0 : wr.cell? ⟨wv.heap.size, 0, none⟩ = some (.int .i64 c.1) := by rw [← hW]; simp [go_sem]
      have e1 : wr.cell? ⟨wv.heap.size, 1, none⟩ = some (.slice a1 c.2.length k1) := by rw [← hW]; simp [go_sem]
      clear hW g0 g1
      have k0 := cell_regrown e0
      have k1' := cell_regrown e1
      have cD : ∀ d os, Calls Tryd.prog 25 #[.int .i64 c.1] (grow (redrawn wr d) os) fun e w'' => e = .returned (.string ⟨(decB c.1).toArray⟩) ∧ ∃ p : Regrown, w'' = grow (redrawn wr p.d) p.os := fun d os =>
        Calls.regrown_of (pure_below (dec_any _ (by have := HR.out; omega) (by have := HR.out; omega)))
      have cS : ∀ d os, Calls Tryd.prog 26 #[.slice a1 c.2.length k1] (grow (redrawn wr d) os) fun e w'' => e = .returned (.string ⟨(Lib.join (c.2.map decB) [32]).toArray⟩) ∧ ∃ p : Regrown, w'' = grow (redrawn wr p.d) p.os := fun d os =>
        Calls.regrown_of (spaced_any _ (HS'.out.below (hB.trans ((below_regrown _ d os).mono hB.size))) HIN.out HL3.out (by have := HJL.out; omega))
      refine wp_region_quiet_below (by kernel_rfl) (by kernel_rfl) ?_
      repeat (go_big_quiet_step (first | exact cD _ _ | exact cS _ _))
      refine wpQuiet_nil ?_
      rintro w3 ⟨p, rfl⟩
      have hb3 := below_regrown wr p.d p.os
      have hl24 := HL.out
      go_wp2_with fail
      go_roundw
      case rel => exact ⟨k + 1, by omega, by go_num, by rw [HST.out], hbr.trans ((bthen hB hb3).mono hbr.size)⟩
      case measure => simp [intOf]; omega
    · obtain rfl : k = x.2.length := by omega
      have HF : Hid (catL txC (txH x.1) (x.2.take x.2.length) = itV x) := by unfold Hid; rw [List.take_length, HN.out]; rfl
      go_wp2_with fail
      go_ret
      exact ⟨by rw [HF.out]; rfl, bthen hB2 hbr⟩
set_option maxHeartbeats 3200000 in
set_option maxRecDepth 100000 in
theorem isWritten_any (w : World) {cs : Array Value} {x : Int × Int × List (Int × List Int)} (h : frmT.Rd w cs.toList x) :
    Calls Tryd.prog 32 #[.agg cs] w fun e w' => e = .returned (.bool (tb (shF x))) ∧ Below w.heap.size w w' := by
  have hx := h
  obtain ⟨v, hv, hI, hI2, hy⟩ := trip_ex h
  obtain rfl := agg_of hv
  obtain ⟨ad, cap, rfl⟩ := rd_slice hy
  have HP : Hid (frmT.Pt (w.alloc (.cells #[.int .i64 x.1, .int .i64 x.2.1, .slice ad x.2.2.length cap] 40)) (.pointer (some ⟨w.heap.size, 0, none⟩)) x) := pt_box hx
  have HX := Lib.hid (hx.below (bA (o := .cells #[.int .i64 x.1, .int .i64 x.2.1, .slice ad x.2.2.length cap] 40)))
  have HY := Lib.hid (hy.below (bA (o := .cells #[.int .i64 x.1, .int .i64 x.2.1, .slice ad x.2.2.length cap] 40)))
  clear h hv hx hy
  cases hF : tb (frameOk x)
  · have HN : Hid (false = tb (shF x)) := (tb_false fun hh => by rw [tb_true hh.1] at hF; cases hF).symm
    go_enter Tryd.func32, Tryd.ntmps32
    go_wp2_with fail
    refine (isFrame_any _ HX.out).mono ?_
    rintro e w1 ⟨rfl, hb1⟩
    rw [hF]
    go_wp2_with fail
    go_ret
    exact ⟨ret_bool HN.out, bthen bA hb1⟩
  have hF' := tb_iff.1 hF
  have HQ := Lib.hid (shF_any hF')
  have HV := Lib.hid (shF_v hF')
  clear hF'
  go_enter Tryd.func32, Tryd.ntmps32
  go_wp2_with fail
  refine (isFrame_any _ HX.out).mono ?_
  rintro e w1 ⟨rfl, hb1⟩
  rw [hF]
  have c2 : w1.cell? ⟨w.heap.size, 2, none⟩ = some (.slice ad x.2.2.length cap) := (cellB hb1 (by simp)).trans (by simp [go_sem])
  go_wp2_with fail
  refine (ContainsFuncAtom_any _ (HY.out.below hb1) (fun c => !tb (shC x.2.1 (-1) c)) 53 #[.pointer (some ⟨w.heap.size, 0, none⟩)] (enters Tryd.func53 (by kernel_rfl) rfl) (fun W hW k hk cs hcs => isWritten1_any W hcs ((HP.out.below hb1).below hW) HV.out.2.2.1 (by have := HV.out; omega))).mono ?_
  rintro e w2 ⟨rfl, hb2⟩
  go_wp2_with fail
  go_ret
  exact ⟨ret_bool HQ.out, bthen (bthen bA hb1) hb2⟩
set_option maxHeartbeats 3200000 in
set_option maxRecDepth 100000 in
theorem FormulaText_any (w : World) {cs : Array Value} {x : Int × Int × List (Int × List Int)} (h : frmT.Rd w cs.toList x) :
    Calls Tryd.prog 13 #[.agg cs] w fun e w' => e = .returned (.string ⟨(ftV x).toArray⟩) ∧ Below w.heap.size w w' := by
  have hx := h
  obtain ⟨v, hv, hI, hI2, hy⟩ := trip_ex h
  obtain rfl := agg_of hv
  obtain ⟨ad, cap, rfl⟩ := rd_slice hy
  have HX := Lib.hid (hx.below (bA (o := .cells #[.int .i64 x.1, .int .i64 x.2.1, .slice ad x.2.2.length cap] 40)))
  have HY := Lib.hid (hy.below (bA (o := .cells #[.int .i64 x.1, .int .i64 x.2.1, .slice ad x.2.2.length cap] 40)))
  clear h hv hx hy
  cases hS : tb (shF x)
  · have HN : Hid (ftV x = []) := ft_no fun hh => by rw [tb_true hh] at hS; cases hS
    go_enter Tryd.func13, Tryd.ntmps13
    go_wp2_with fail
    refine (isWritten_any _ HX.out).mono ?_
    rintro e w1 ⟨rfl, hb1⟩
    rw [hS]
    go_wp2_with fail
    go_ret
    exact ⟨by rw [HN.out]; rfl, bthen bA hb1⟩
  have hsh := tb_iff.1 hS
  have HSH := Lib.hid hsh
  have HN := Lib.hid (ft_yes hsh)
  have HV := Lib.hid (shF_v hsh.1)
  clear hsh
  go_enter Tryd.func13, Tryd.ntmps13
  go_wp2_with fail
  refine (isWritten_any _ HX.out).mono ?_
  rintro e w1 ⟨rfl, hb1⟩
  rw [hS]
  have hB1 : Below w.heap.size w w1 := bthen bA hb1
  have c0 : w1.cell? ⟨w.heap.size, 0, none⟩ = some (.int .i64 x.1) := (cellB hb1 (by simp)).trans (by simp [go_sem])
  have c1 : w1.cell? ⟨w.heap.size, 1, none⟩ = some (.int .i64 x.2.1) := (cellB hb1 (by simp)).trans (by simp [go_sem])
  have c2 : w1.cell? ⟨w.heap.size, 2, none⟩ = some (.slice ad x.2.2.length cap) := (cellB hb1 (by simp)).trans (by simp [go_sem])
  have z1 : w.heap.size < w1.heap.size := by have := hb1.size; simp at this; omega
  have HY1 := Lib.hid (HY.out.below hb1)
  clear hb1 HX HY hS
  go_wp2_with fail
  refine wp_region_T (fun w' => w'.cell? ⟨w.heap.size, 0, none⟩ = some (.int .i64 x.1) ∧ w'.cell? ⟨w.heap.size, 1, none⟩ = some (.int .i64 x.2.1)) [6] (by kernel_rfl) ⟨c0, c1⟩ (fun hHeld => ?_)
  refine wpAnyT_take (i := 0) (v := ?_) rfl (by kernel_rfl) (fun _ _ _ h => h) (Or.inl ⟨by rfl, ?_⟩) (by assumption) ?_
  rotate_left
  · (intro w hSw; (try dsimp only at hSw); go_simp <;> with_reducible rfl)
  try simp only [Act.put]
  refine wpAnyT_take (i := 1) (v := ?_) rfl (by kernel_rfl) (fun _ _ _ h => h) (Or.inl ⟨by rfl, ?_⟩) (by assumption) ?_
  rotate_left
  · (intro w hSw; (try dsimp only at hSw); go_simp <;> with_reducible rfl)
  try simp only [Act.put]
  refine wpAnyT_take (i := 3) (v := ?_) rfl (by kernel_rfl) (fun _ _ _ h => h) (Or.inl ⟨by rfl, ?_⟩) (by assumption) ?_
  rotate_left
  · (intro w hSw; (try dsimp only at hSw); go_simp <;> with_reducible rfl)
  try simp only [Act.put]
  refine wpAnyT_take (i := 4) (v := ?_) rfl (by kernel_rfl) (fun _ _ _ h => h) (Or.inl ⟨by rfl, ?_⟩) (by assumption) ?_
  rotate_left
  · (intro w hSw; (try dsimp only at hSw); go_simp <;> with_reducible rfl)
  try simp only [Act.put]
  refine wpAnyT_one (i := 2) rfl (by kernel_rfl) (fun K hK => ?_)
  go_simp
  go_at_call 25
  refine (dec_any _ (by have := HV.out; omega) (by have := HV.out; omega)).mono ?_
  rintro e w' ⟨rfl, rfl⟩
  dsimp only
  refine hK.out _ _ ⟨c0, c1⟩ (fun hHeld => ?_)
  clear hK K
  refine wpAnyT_one (i := 5) rfl (by kernel_rfl) (fun K hK => ?_)
  go_simp
  go_at_call 25
  refine (dec_any _ (by have := HV.out; omega) (by have := HV.out; omega)).mono ?_
  rintro e w' ⟨rfl, rfl⟩
  dsimp only
  refine hK.out _ _ ⟨c0, c1⟩ (fun hHeld => ?_)
  clear hK K
  refine wpAnyT_last (i := 6) rfl (by kernel_rfl) (by kernel_rfl) (fun K hK => ?_)
  go_simp
  refine hK.out _ _ ?_
  clear hK K
  refine wpAnyT_any (i := 7) (v := ?_) rfl (by kernel_rfl) (fun _ _ _ h => h) (Or.inl ⟨by rfl, ?_⟩) (by first | exact fun _ => by assumption | (intro hp; exact absurd hp (by rw [show pastB _ _ = true by kernel_rfl]; simp))) ?_
  rotate_left
  · (intro w hSw; (try dsimp only at hSw); go_simp <;> with_reducible rfl)
  try simp only [Act.put]
  refine wpAnyT_done (by kernel_rfl) ?_ _
  go_simp
  generalize hW : World.drew (World.alloc w1 _) = w3
  have hb3 : Below w1.heap.size w1 w3 := hW ▸ (bA.drew)
  have HB3 : Hid (Bl Ty.str 9 w1.heap.size w3.heap.size w3 (.slice (some ⟨w1.heap.size, 0, none⟩) 3 3) [[102, 111, 114, 109, 117, 108, 97], decB x.1, decB x.2.1]) := by
    rw [← hW]
    exact ((Bl.str3 (w := w1) rfl).below bD (by simp)).mono (by simp)
  replace c0 := (cellB hb3 (by omega)).trans c0
  replace c1 := (cellB hb3 (by omega)).trans c1
  replace c2 := (cellB hb3 (by omega)).trans c2
  have hz3 := hb3.size
  have hl16 : x.2.2.length ≤ 16 := HV.out.2.2.2.2
  clear hW
  go_wp2_with fail
  go_loopw [3, 20] (fun s i wr => ∃ k : Nat, k ≤ x.2.2.length ∧ i = .int .i64 k ∧ Bl Ty.str 9 w1.heap.size wr.heap.size wr s ([[102, 111, 114, 109, 117, 108, 97], decB x.1, decB x.2.1] ++ (x.2.2.take k).map wdT) ∧ Below w1.heap.size w1 wr) (fun _ i _ => x.2.2.length - (intOf i).toNat)
  case atStart => exact ⟨0, Nat.zero_le _, rfl, by simpa using HB3.out, hb3⟩
  case round =>
    obtain ⟨k, hk, rfl, hBl, hbr⟩ := hrel
    obtain ⟨wv, rfl⟩ : ∃ wv : World, wv = wr := ⟨_, rfl⟩
    have HB := Lib.hid hBl
    have hzr := hbr.size
    have hlt : (x.2.2.take k).length ≤ 16 := by rw [List.length_take]; omega
    obtain ⟨wa, nw, cw, rfl⟩ := ex_sl (hBl.fr (by simp; unfold capMax; omega))
    clear hBl
    by_cases hkl : k < x.2.2.length
    · obtain ⟨b, o, rfl, hp⟩ := rd_elem HY1.out hkl
      have hp' : opT.Pt w1 (.pointer (some ⟨b, o + k * 2, none⟩)) x.2.2[k] := hp
      obtain ⟨_, _, a1, k1, hbo, hb1, hI1, f0, f1, hs⟩ := pt_pair hp'
      simp only [Value.pointer.injEq, Option.some.injEq, Addr.mk.injEq, and_true] at hbo
      obtain ⟨rfl, rfl⟩ := hbo
      have g0 := (cellB hbr hb1).trans f0
      have g1 := (cellB hbr hb1).trans f1
      have HS' := Lib.hid (hs.below hbr)
      have hck := HSH.out.2 _ (List.getElem_mem hkl)
      have hx8 : x.2.1 ≤ 10 := by have := HV.out; omega
      have HSN : Hid ((x.2.2.take k).map wdT ++ [wdT x.2.2[k]] = (x.2.2.take (k + 1)).map wdT) := by
        unfold Hid
        rw [← take_snoc hkl, List.map_append]
        rfl
      have HIN : Hid (∀ a ∈ (x.2.2[k]).2, 0 ≤ a ∧ a < 100) := fun a ha => by have := shC_dec hck hx8 a ha; omega
      have HRL : Hid (-1 ≤ (x.2.2[k]).1 ∧ (x.2.2[k]).1 ≤ 5) := hck.1
      have HL3 : Hid ((x.2.2[k]).2.length ≤ 1000) := by unfold Hid; have := hck.2.1; omega
      have HDL : Hid ((catL decB [] (x.2.2[k]).2).length ≤ 1000) := by
        unfold Hid
        have h1 := catL_len (f := decB) (hd := []) (xs := (x.2.2[k]).2) (B := 2) fun a ha => (@dec_len a (by have := shC_dec hck hx8 a ha; omega)).2
        have := hck.2.1
        simp at h1; omega
      clear hp hp' f0 f1 hs hck
      generalize x.2.2[k] = c at *
      cases hr : (c.1 != -1)
      · have HWD : Hid (wdT c = cat (cat [61] [58]) (catL decB [] c.2)) := by unfold Hid wdT wdP; rw [hr]
        have ha1 : ∀ W : World, (Op.stringOp .add ⟨#[61]⟩ ⟨#[58]⟩).run Tryd.prog W = .ok (.string ⟨(cat [61] [58]).toArray⟩) W := fun W => add_cat W _ _ (by decide)
        have ha2 : ∀ W : World, (Op.stringOp .add ⟨(cat [61] [58]).toArray⟩ ⟨(catL decB [] c.2).toArray⟩).run Tryd.prog W = .ok (.string ⟨(wdT c).toArray⟩) W := fun W => by
          rw [HWD.out]; exact add_cat W _ _ (by rw [cat_len]; have := HDL.out; (simp; omega))
        go_wp2_with (first | (go_at_call 25; refine (dec_any _ (by have := HRL.out; omega) (by have := HRL.out; omega)).mono ?_; rintro e w' ⟨rfl, rfl⟩) | (go_at_call 33; refine (digits_any _ (HS'.out.below bA) HIN.out HL3.out).mono ?_; rintro e w' ⟨rfl, rfl⟩) | (at_builtin; go_loud (refine wpList_push (E := Ty.str) _ rfl _ _ 66 9 rfl elStr rfl (HB.out.below (bA.alloc (by simp) _) (Nat.le_refl _)) rfl (news1s (by simp)) fr_str (by simp; omega) (by decide) (by omega) (by first | (simp; done) | (simp; omega)) ?_; intro v1 w5 hB1 hg1 _)))
        have hb5 : RowKit.Below w1.heap.size w1 w5 := ((hbr.alloc hbr.size _).alloc (by simp; omega) _).grown hg1 (by simp; omega) (fun q hq => HB.out.own hq)
        rw [List.append_assoc, HSN.out] at hB1
        have HB1 := Lib.hid hB1
        clear hB1 hg1
        go_wp2_with fail
        go_roundw
        case rel => exact ⟨k + 1, by omega, by go_num, HB1.out, hb5⟩
        case measure => simp [intOf]; omega
      · have hne : c.1 ≠ -1 := by simpa using hr
        have HRL : Hid (0 ≤ c.1 ∧ c.1 ≤ 5) := by have := HRL.out; unfold Hid; omega
        have HWD : Hid (wdT c = cat (cat (cat [82] (decB c.1)) [58]) (catL decB [] c.2)) := by unfold Hid wdT wdP; rw [hr]
        have hd2 := (@dec_len c.1 (by have := HRL.out; omega)).2
        have ha0 : ∀ W : World, (Op.stringOp .add ⟨#[82]⟩ ⟨(decB c.1).toArray⟩).run Tryd.prog W = .ok (.string ⟨(cat [82] (decB c.1)).toArray⟩) W := fun W => add_cat W _ _ (by simp; omega)
        clear hne
        have ha1 : ∀ W : World, (Op.stringOp .add ⟨(cat [82] (decB c.1)).toArray⟩ ⟨#[58]⟩).run Tryd.prog W = .ok (.string ⟨(cat (cat [82] (decB c.1)) [58]).toArray⟩) W := fun W => add_cat W _ _ (by (rw [cat_len]; simp; omega))
        have ha2 : ∀ W : World, (Op.stringOp .add ⟨(cat (cat [82] (decB c.1)) [58]).toArray⟩ ⟨(catL decB [] c.2).toArray⟩).run Tryd.prog W = .ok (.string ⟨(wdT c).toArray⟩) W := fun W => by
          rw [HWD.out]; exact add_cat W _ _ (by rw [cat_len]; have := HDL.out; (rw [cat_len]; simp; omega))
        go_wp2_with (first | (go_at_call 25; refine (dec_any _ (by have := HRL.out; omega) (by have := HRL.out; omega)).mono ?_; rintro e w' ⟨rfl, rfl⟩) | (go_at_call 33; refine (digits_any _ (HS'.out.below bA) HIN.out HL3.out).mono ?_; rintro e w' ⟨rfl, rfl⟩) | (at_builtin; go_loud (refine wpList_push (E := Ty.str) _ rfl _ _ 66 9 rfl elStr rfl (HB.out.below (bA.alloc (by simp) _) (Nat.le_refl _)) rfl (news1s (by simp)) fr_str (by simp; omega) (by decide) (by omega) (by first | (simp; done) | (simp; omega)) ?_; intro v1 w5 hB1 hg1 _)))
        have hb5 : RowKit.Below w1.heap.size w1 w5 := ((hbr.alloc hbr.size _).alloc (by simp; omega) _).grown hg1 (by simp; omega) (fun q hq => HB.out.own hq)
        rw [List.append_assoc, HSN.out] at hB1
        have HB1 := Lib.hid hB1
        clear hB1 hg1
        go_wp2_with fail
        go_roundw
        case rel => exact ⟨k + 1, by omega, by go_num, HB1.out, hb5⟩
        case measure => simp [intOf]; omega
    · obtain rfl : k = x.2.2.length := by omega
      have HF := Lib.hid (HB.out.fr (by simp; unfold capMax; omega)).rd
      have HT : Hid ([[102, 111, 114, 109, 117, 108, 97], decB x.1, decB x.2.1] ++ (x.2.2.take x.2.2.length).map wdT = [102, 111, 114, 109, 117, 108, 97] :: decB x.1 :: decB x.2.1 :: x.2.2.map wdT) := by unfold Hid; rw [List.take_length]; rfl
      unfold Hid at HF
      rw [HT.out] at HF
      have HF' := Lib.hid HF
      have HTX : Hid (Lib.join ([102, 111, 114, 109, 117, 108, 97] :: decB x.1 :: decB x.2.1 :: x.2.2.map wdT) [32] = ftV x) := by rw [HN.out]; exact frm_join x
      have HTL : Hid ((Lib.join ([102, 111, 114, 109, 117, 108, 97] :: decB x.1 :: decB x.2.1 :: x.2.2.map wdT) [32]).length ≤ 1000000000) := by
        unfold Hid
        rw [HTX.out, HN.out]
        have := txF_len HSH.out x.2.2.length
        rw [List.take_length] at this
        exact Nat.le_trans this (by omega)
      clear HF HB
      go_wp2_with (go_at_call 34; refine (Join_any _ HF'.out [32] HTL.out).mono ?_; rintro e w6 ⟨rfl, hb6⟩; rw [HTX.out])
      go_ret
      exact ⟨rfl, bthen hB1 (bthen hbr hb6)⟩
end Go.Proofs.YtjghcedmlklngaaDoor
namespace Go.Proofs.YtjghcedmlklngaaDoor
open Go.RowKit Go.Sort
theorem pure_drawn {P : Program} {f : FuncId} {args : Array Value} {w : World} {n : Nat} {v : Value} (h : Calls P f args (w.drewN n) fun e w' => e = .returned v ∧ w.drewN n = w') :
    Calls P f args (w.drewN n) fun e w'' => e = .returned v ∧ ∃ m, w'' = w.drewN m := h.mono fun _ _ ⟨he, hw⟩ => ⟨he, n, hw.symm⟩
theorem noneB_all {α : Type} {p : α → Prop} {xs : List α} (h : noneB (fun c => !tb (p c)) (xs.take xs.length)) : ∀ c ∈ xs, p c := fun c hc => by
  have := h c (by rw [List.take_length]; exact hc)
  simpa [tb_iff] using this
end Go.Proofs.YtjghcedmlklngaaDoor
namespace Go.Proofs.YtjghcedmlklngaaDoor
open Go.RowKit Go.Sort
theorem catL_cat {α : Type} {f : α → List UInt8} {C d : List UInt8} {xs : List α} : catL f (cat C d) xs = cat C (catL f d xs) := by simp [catL, cat]
theorem cat_assoc {a b c : List UInt8} : cat (cat a b) c = cat a (cat b c) := by simp [cat]
set_option maxHeartbeats 1600000 in
set_option maxRecDepth 100000 in
theorem l05Shown_quiet (w : World) {vx : Value} {x : Int × List (Int × List Int)} (hxp : instT.Pt w vx x) :
    Calls Tryd.prog 16 #[vx] w fun e w' => e = .returned (.bool (tb (shI x))) ∧ Quiet w w' := by
  obtain ⟨b', o', ad', cap', rfl, hb', -, c0', c1', hx⟩ := pt_pair hxp
  obtain ⟨_, _, e1, hle', hle2', hcell⟩ := pairs_ex hx
  simp only [List.cons.injEq, Value.slice.injEq, and_true, true_and] at e1
  obtain ⟨rfl, rfl⟩ := e1
  clear hxp
  cases hn : inB x.1 1 10
  · go_enter Tryd.func16, Tryd.ntmps16
    go_wp2_with (go_at_call 37; refine (l00In_any _ _ _ _).mono ?_; rintro e w' ⟨rfl, rfl⟩; rw [hn])
    go_ret
    exact ⟨ret_bool (tb_false (fun hh => by have := inB_true.2 hh.1; rw [hn] at this; cases this)).symm, Quiet.refl _⟩
  have hn' := inB_true.1 hn
  by_cases hl : x.2.length ≤ 24
  rotate_left
  · have hl2 : decide (24 < (x.2.length : Int)) = true := by simp; omega
    have HL := Lib.hid hl
    clear hl hn'
    go_enter Tryd.func16, Tryd.ntmps16
    go_wp2_with (go_at_call 37; refine (l00In_any _ _ _ _).mono ?_; rintro e w' ⟨rfl, rfl⟩; rw [hn])
    go_ret
    exact ⟨ret_bool (tb_false (fun hr => HL.out hr.2.1)).symm, Quiet.refl _⟩
  have hl2 : decide (24 < (x.2.length : Int)) = false := by simp; omega
  have HN := Lib.hid hn'
  have HL := Lib.hid hl
  clear hn' hl
  go_enter Tryd.func16, Tryd.ntmps16
  go_wp2_with (go_at_call 37; refine (l00In_any _ _ _ _).mono ?_; rintro e w' ⟨rfl, rfl⟩; rw [hn])
  go_loopw [3, 4] (fun i _ wr => ∃ k : Nat, k ≤ x.2.length ∧ i = .int .i64 k ∧ noneB (fun c => !tb (shC x.1 0 c)) (x.2.take k) ∧ Quiet w wr) (fun i _ _ => x.2.length - (intOf i).toNat)
  case atStart => exact ⟨0, Nat.zero_le _, rfl, noneB_zero _ _, Quiet.refl _⟩
  case round =>
    obtain ⟨k, hk, rfl, hne, hqw⟩ := hrel
    have HNE := Lib.hid hne
    have g0 := (hqw.below.cell hb').trans c0'
    have g1 := (hqw.below.cell hb').trans c1'
    clear hne c0' c1'
    by_cases hkl : k < x.2.length
    · obtain ⟨a, q, rfl, haa, hce⟩ := hcell (by omega)
      obtain ⟨u, hu, hI, f0, f1⟩ := hce k hkl
      have e0 := (hqw.below.cell haa).trans f0
      have e1 := (hqw.below.cell haa).trans f1
      obtain ⟨_, _, hu0, -, hlu, -⟩ := ints_ex hu
      simp only [List.cons.injEq, and_true] at hu0
      subst hu0
      clear hcell hce f0 f1
      have cW : ∀ n, Calls Tryd.prog 37 #[.int .i64 (x.2[k]).1, .int .i64 0, .int .i64 5] (wr.drewN n) fun e w'' => e = .returned (.bool (inB (x.2[k]).1 0 5)) ∧ ∃ m, w'' = wr.drewN m := fun n => pure_drawn (l00In_any _ _ _ _)
      cases hi : inB (x.2[k]).1 0 5
      · rw [hi] at cW
        go_wp2_with fail
        go_quiet (exact cW _)
        go_wp2_with fail
        go_ret
        exact ⟨ret_bool (tb_false (fun hh => by have := inB_true.2 (hh.2.2 _ (List.getElem_mem hkl)).1; rw [hi] at this; cases this)).symm, hqw.then (by first | exact Quiet.refl _ | exact Quiet.drewN _ _ | exact (Quiet.drewN _ _).then (Quiet.drewN _ _) | exact ((Quiet.drewN _ _).then (Quiet.drewN _ _)).then (Quiet.drewN _ _))⟩
      have HI := Lib.hid (inB_true.1 hi)
      rw [hi] at cW
      have cA : ∀ n, Calls Tryd.prog 38 #[.int .i64 ((x.2[k]).2.length : Int)] (wr.drewN n) fun e w'' => e = .returned (.bool (inB ((x.2[k]).2.length : Int) 1 4)) ∧ ∃ m, w'' = wr.drewN m := fun n => pure_drawn (l01Arity_any _ _)
      cases hm : inB ((x.2[k]).2.length : Int) 1 4
      · rw [hm] at cA
        go_wp2_with fail
        go_quiet (first | exact cW _ | exact cA _)
        go_wp2_with fail
        go_ret
        exact ⟨ret_bool (tb_false (fun hh => by have := inB_true.2 (hh.2.2 _ (List.getElem_mem hkl)).2.1; rw [hm] at this; cases this)).symm, hqw.then (by first | exact Quiet.refl _ | exact Quiet.drewN _ _ | exact (Quiet.drewN _ _).then (Quiet.drewN _ _) | exact ((Quiet.drewN _ _).then (Quiet.drewN _ _)).then (Quiet.drewN _ _))⟩
      have HM := Lib.hid (inB_true.1 hm)
      rw [hm] at cA
      have hu' := hu.below hqw.below
      have h0 : 0 ≤ x.1 := by have := HN.out.1; omega
      have h1 : x.1 ≤ 1000000000000 := by have := HN.out.2; omega
      have cV : ∀ n, Calls Tryd.prog 39 #[.slice _ _ _, .int .i64 x.1] (wr.drewN n) fun e w'' => e = .returned (.bool (tb (rowOk x.1 (x.2[k]).2.length (x.2[k]).2))) ∧ ∃ m, w'' = wr.drewN m := fun n => pure_drawn (l01Places_any _ _ (hu'.below (Quiet.drewN wr n).below) h0 h1)
      clear h0 h1
      cases hv : tb (rowOk x.1 (x.2[k]).2.length (x.2[k]).2)
      · rw [hv] at cV
        go_wp2_with fail
        go_quiet (first | exact cW _ | exact cA _ | exact cV _)
        go_wp2_with fail
        go_ret
        exact ⟨ret_bool (tb_false (fun hh => by have := tb_true (hh.2.2 _ (List.getElem_mem hkl)).2.2; rw [hv] at this; cases this)).symm, hqw.then (by first | exact Quiet.refl _ | exact Quiet.drewN _ _ | exact (Quiet.drewN _ _).then (Quiet.drewN _ _) | exact ((Quiet.drewN _ _).then (Quiet.drewN _ _)).then (Quiet.drewN _ _))⟩
      have HV := Lib.hid (tb_iff.1 hv)
      rw [hv] at cV
      have HS : Hid ((!tb (shC x.1 0 x.2[k])) = false) := by unfold Hid; rw [tb_true ⟨HI.out, HM.out, HV.out⟩]; rfl
      have hl24 := HL.out
      go_wp2_with fail
      go_quiet (first | exact cW _ | exact cA _ | exact cV _)
      go_wp2_with fail
      go_roundw
      case rel => exact ⟨k + 1, by omega, by go_num, noneB_succ hkl HNE.out HS.out, hqw.then (by first | exact Quiet.refl _ | exact Quiet.drewN _ _ | exact (Quiet.drewN _ _).then (Quiet.drewN _ _) | exact ((Quiet.drewN _ _).then (Quiet.drewN _ _)).then (Quiet.drewN _ _))⟩
      case measure => simp [intOf]; omega
    · obtain rfl : k = x.2.length := by omega
      go_wp2_with fail
      go_ret
      exact ⟨ret_bool (tb_true ⟨HN.out, HL.out, noneB_all HNE.out⟩).symm, hqw⟩
set_option maxHeartbeats 3200000 in
set_option maxRecDepth 100000 in
theorem l05Text_any (w : World) {vx : Value} {x : Int × List (Int × List Int)} (hxp : instT.Pt w vx x) (hsh : shI x) :
    Calls Tryd.prog 17 #[vx] w fun e w' => e = .returned (.string ⟨(txI x).toArray⟩) ∧ Below w.heap.size w w' := by
  obtain ⟨b', o', ad', cap', rfl, hb', -, c0, c1, hx⟩ := pt_pair hxp
  have HX := Lib.hid hx
  have HSH := Lib.hid hsh
  have HL : Hid (x.2.length ≤ 24) := hsh.2.1
  have HN : Hid (1 ≤ x.1 ∧ x.1 ≤ 10) := hsh.1
  have HTL := Lib.hid fun k => txI_len hsh k
  have hd := @dec_len x.1 (by have := HN.out; omega)
  have ha1 : ∀ W : World, (Op.stringOp .add ⟨#[105, 110, 115, 116, 97, 110, 99, 101, 32]⟩ ⟨(decB x.1).toArray⟩).run Tryd.prog W = .ok (.string ⟨(cat [105, 110, 115, 116, 97, 110, 99, 101, 32] (decB x.1)).toArray⟩) W := fun W => add_cat W _ _ (by simp; omega)
  have ha2 : ∀ W : World, (Op.stringOp .add ⟨(cat [105, 110, 115, 116, 97, 110, 99, 101, 32] (decB x.1)).toArray⟩ ⟨#[10]⟩).run Tryd.prog W = .ok (.string ⟨(txH x.1).toArray⟩) W := fun W => add_cat W _ _ (by rw [cat_len]; simp; omega)
  clear hxp hx hsh hd
  go_enter Tryd.func17, Tryd.ntmps17
  go_wp2_with (go_at_call 40; refine (Decimal_any _ (by have := HN.out; omega) (by have := HN.out; omega)).mono ?_; rintro e w1 ⟨rfl, hb1⟩)
  clear ha1 ha2
  go_loopw [3, 4] (fun c i wr => ∃ k : Nat, k ≤ x.2.length ∧ i = .int .i64 k ∧ c = .string ⟨(catL txC (txH x.1) (x.2.take k)).toArray⟩ ∧ Below w.heap.size w wr) (fun _ i _ => x.2.length - (intOf i).toNat)
  case atStart => exact ⟨0, Nat.zero_le _, rfl, by rw [catL_zero], hb1⟩
  case round =>
    obtain ⟨k, hk, rfl, rfl, hbr⟩ := hrel
    obtain ⟨wv, rfl⟩ : ∃ wv : World, wv = wr := ⟨_, rfl⟩
    have hl24 := HL.out
    have g0 := (cellB hbr hb').trans c0
    have g1 := (cellB hbr hb').trans c1
    by_cases hkl : k < x.2.length
    · obtain ⟨b, o, rfl, hp⟩ := rd_elem HX.out hkl
      have hp' : opT.Pt w (.pointer (some ⟨b, o + k * 2, none⟩)) x.2[k] := hp
      obtain ⟨_, _, a1, k1, hbo, hbb, hI1, f0, f1, hs⟩ := pt_pair hp'
      simp only [Value.pointer.injEq, Option.some.injEq, Addr.mk.injEq, and_true] at hbo
      obtain ⟨rfl, rfl⟩ := hbo
      have e0 := (cellB hbr hbb).trans f0
      have e1 := (cellB hbr hbb).trans f1
      have hck := HSH.out.2.2 _ (List.getElem_mem hkl)
      have HST := Lib.hid (catL_succ (f := txC) (hd := txH x.1) hkl)
      have hTL := HTL.out k
      have HIN : Hid (∀ a ∈ (x.2[k]).2, 0 ≤ a ∧ a < 10) := shC_dec hck HN.out.2
      have HRL : Hid (0 ≤ (x.2[k]).1 ∧ (x.2[k]).1 ≤ 5) := hck.1
      have hl4 : (x.2[k]).2.length ≤ 4 := by have := hck.2.1; omega
      obtain ⟨_, _, hs0, -, -, hsc⟩ := ints_ex hs
      simp only [List.cons.injEq, Value.slice.injEq, and_true, true_and] at hs0
      obtain ⟨rfl, rfl⟩ := hs0
      have HTC : Hid (txC x.2[k] = cat (catL (fun a => cat [32] (decB a)) (decB (x.2[k]).1) (x.2[k]).2) [10]) := rfl
      have hdl := (@dec_len (x.2[k]).1 (by have := HRL.out; omega)).2
      clear hp hp' hck hs
      generalize x.2[k] = c at *
      generalize catL txC (txH x.1) (x.2.take k) = C at *
      have ha1 : ∀ W : World, (Op.stringOp .add ⟨C.toArray⟩ ⟨(decB c.1).toArray⟩).run Tryd.prog W = .ok (.string ⟨(cat C (decB c.1)).toArray⟩) W := fun W => add_cat W _ _ (by omega)
      go_wp2_with (go_at_call 40; refine (Decimal_any _ (by have := HRL.out; omega) (by have := HRL.out; omega)).mono ?_; rintro e w2 ⟨rfl, hb2⟩)
      have hB2 := bthen hbr hb2
      clear ha1 g0 g1 e0 e1 hb2 hbr
      have hcl : (cat C (decB c.1)).length ≤ 2000 := by rw [cat_len]; omega
      have HCC : Hid (cat (catL (fun a => cat [32] (decB a)) (cat C (decB c.1)) c.2) [10] = cat C (txC c)) := by unfold Hid; rw [HTC.out, catL_cat, cat_assoc]
      go_loopw [3, 5] (fun s i wr => ∃ j : Nat, j ≤ c.2.length ∧ i = .int .i64 j ∧ s = .string ⟨(catL (fun a => cat [32] (decB a)) (cat C (decB c.1)) (c.2.take j)).toArray⟩ ∧ Below w.heap.size w wr) (fun _ i _ => c.2.length - (intOf i).toNat)
      case atStart => exact ⟨0, Nat.zero_le _, rfl, by rw [catL_zero], hB2⟩
      case round =>
        obtain ⟨j, hj, rfl, rfl, hbs⟩ := hrel
        have g0 := (cellB hbs hb').trans c0
        have g1 := (cellB hbs hb').trans c1
        have e1 := (cellB hbs hbb).trans f1
        by_cases hjl : j < c.2.length
        · obtain ⟨bs, os, rfl, hbs2, hse⟩ := hsc (by omega)
          obtain ⟨hIj, hcj⟩ := hse j hjl
          have e2 := (cellB hbs hbs2).trans hcj
          have hin := HIN.out _ (List.getElem_mem hjl)
          have HS2 := Lib.hid (catL_succ (f := fun a => cat [32] (decB a)) (hd := cat C (decB c.1)) hjl)
          have hlen := catL_len (f := fun a => cat [32] (decB a)) (hd := cat C (decB c.1)) (xs := c.2.take j) (B := 3) fun y hy => by
            show (cat [32] (decB y)).length ≤ 3
            rw [cat_len]
            have := (@dec_len y (by have := HIN.out y (List.mem_of_mem_take hy); omega)).2
            simp; omega
          rw [List.length_take] at hlen
          have hlen' : (catL (fun a => cat [32] (decB a)) (cat C (decB c.1)) (c.2.take j)).length ≤ 3000 := by
            have : min j c.2.length ≤ 4 := by omega
            omega
          generalize catL (fun a => cat [32] (decB a)) (cat C (decB c.1)) (c.2.take j) = D at *
          generalize hz : c.2[j] = z at *
          have hdz := (@dec_len z (by omega)).2
          have ha3 : ∀ W : World, (Op.stringOp .add ⟨#[32]⟩ ⟨(decB z).toArray⟩).run Tryd.prog W = .ok (.string ⟨(cat [32] (decB z)).toArray⟩) W := fun W => add_cat W _ _ (by simp; omega)
          have ha4 : ∀ W : World, (Op.stringOp .add ⟨D.toArray⟩ ⟨(cat [32] (decB z)).toArray⟩).run Tryd.prog W = .ok (.string ⟨(cat D (cat [32] (decB z))).toArray⟩) W := fun W => add_cat W _ _ (by rw [cat_len]; simp; omega)
          clear hz hlen hlen' hcj hse hdz hsc
          go_wp2_with (go_at_call 40; refine (Decimal_any _ (by omega) (by omega)).mono ?_; rintro e w3 ⟨rfl, hb3⟩)
          have hB3 := bthen hbs hb3
          go_roundw
          case rel => exact ⟨j + 1, by omega, by go_num, by rw [HS2.out], hB3⟩
          case measure => simp [intOf]; omega
        · obtain rfl : j = c.2.length := by omega
          have HF : Hid (catL (fun a => cat [32] (decB a)) (cat C (decB c.1)) (c.2.take c.2.length) = catL (fun a => cat [32] (decB a)) (cat C (decB c.1)) c.2) := by unfold Hid; rw [List.take_length]
          rw [HF.out]
          have hlen := catL_len (f := fun a => cat [32] (decB a)) (hd := cat C (decB c.1)) (xs := c.2) (B := 3) fun y hy => by
            show (cat [32] (decB y)).length ≤ 3
            rw [cat_len]
            have := (@dec_len y (by have := HIN.out y hy; omega)).2
            simp; omega
          have hlen' : (catL (fun a => cat [32] (decB a)) (cat C (decB c.1)) c.2).length ≤ 3000 := by omega
          generalize catL (fun a => cat [32] (decB a)) (cat C (decB c.1)) c.2 = D at *
          have ha5 : ∀ W : World, (Op.stringOp .add ⟨D.toArray⟩ ⟨#[10]⟩).run Tryd.prog W = .ok (.string ⟨(cat C (txC c)).toArray⟩) W := fun W => by rw [← HCC.out]; exact add_cat W _ _ (by simp; omega)
          clear hlen hlen' hsc
          go_wp2_with fail
          go_roundw
          case rel => exact ⟨k + 1, by omega, by go_num, by rw [HST.out], hbs⟩
          case measure => simp [intOf]; omega
    · obtain rfl : k = x.2.length := by omega
      have HF : Hid (catL txC (txH x.1) (x.2.take x.2.length) = txI x) := by unfold Hid; rw [List.take_length]; rfl
      go_wp2_with fail
      go_ret
      exact ⟨by rw [HF.out]; rfl, hbr⟩
set_option maxHeartbeats 1600000 in
set_option maxRecDepth 100000 in
theorem specInstanceText_any (w : World) {cs : Array Value} {x : Int × List (Int × List Int)} (h : instT.Rd w cs.toList x) :
    Calls Tryd.prog 6 #[.agg cs] w fun e w' => e = .returned (.string ⟨(itV x).toArray⟩) ∧ Below w.heap.size w w' := by
  have hx := h
  obtain ⟨v, hv, hI, hy⟩ := pair_ex h
  obtain rfl := agg_of hv
  have HP : Hid (instT.Pt (w.alloc (.cells #[.int .i64 x.1, v] 29)) (.pointer (some ⟨w.heap.size, 0, none⟩)) x) := pt_box hx
  clear h hv hx hy
  cases hS : tb (shI x)
  · have HN : Hid (itV x = []) := it_no fun hh => by rw [tb_true hh] at hS; cases hS
    go_enter Tryd.func6, Tryd.ntmps6
    go_wp2_with fail
    refine (l05Shown_quiet _ HP.out).mono ?_
    rintro e w1 ⟨rfl, hq1⟩
    rw [hS]
    go_wp2_with fail
    go_ret
    exact ⟨by rw [HN.out]; rfl, bthen bA hq1.below⟩
  have HSH := Lib.hid (tb_iff.1 hS)
  have HN := Lib.hid (it_yes (tb_iff.1 hS))
  go_enter Tryd.func6, Tryd.ntmps6
  go_wp2_with fail
  refine (l05Shown_quiet _ HP.out).mono ?_
  rintro e w1 ⟨rfl, hq1⟩
  rw [hS]
  go_wp2_with fail
  refine (l05Text_any _ (HP.out.below hq1.below) HSH.out).mono ?_
  rintro e w2 ⟨rfl, hb2⟩
  go_wp2_with fail
  go_ret
  exact ⟨by rw [HN.out]; rfl, bthen (bthen bA hq1.below) hb2⟩
end Go.Proofs.YtjghcedmlklngaaDoor
namespace Go.Proofs.YtjghcedmlklngaaDoor
open Go.RowKit Go.Sort
theorem atP_eq {a : Int × List Int} (h : (a.1 == -1) = true) : atP a = [32, 61, 58] := by unfold atP; rw [h]
theorem atP_ne {a : Int × List Int} (h : (a.1 == -1) = false) : atP a = cat (cat [32, 82] (decB a.1)) [58] := by unfold atP; rw [h]
set_option maxHeartbeats 1600000 in
set_option maxRecDepth 100000 in
theorem l03Shown_quiet (w : World) {vx : Value} {x : Int × Int × List (Int × List Int)} (hxp : frmT.Pt w vx x) :
    Calls Tryd.prog 29 #[vx] w fun e w' => e = .returned (.bool (tb (shF x))) ∧ Quiet w w' := by
  have HP := Lib.hid hxp
  obtain ⟨b', o', ad', cap', rfl, hb', -, -, c0', c1', c2', hx⟩ := pt_trip hxp
  obtain ⟨_, _, e1, hle', hle2', hcell⟩ := pairs_ex hx
  simp only [List.cons.injEq, Value.slice.injEq, and_true, true_and] at e1
  obtain ⟨rfl, rfl⟩ := e1
  clear hxp
  cases hF : tb (frameOk x)
  · go_enter Tryd.func29, Tryd.ntmps29
    go_wp2_with fail
    refine (l03Counts_quiet _ HP.out).mono ?_
    rintro e w1 ⟨rfl, hq1⟩
    rw [hF]
    go_wp2_with fail
    go_ret
    exact ⟨ret_bool (tb_false (fun hh => by have := tb_true hh.1; rw [hF] at this; cases this)).symm, hq1⟩
  have HN := Lib.hid (tb_iff.1 hF)
  have HV := Lib.hid (shF_v (tb_iff.1 hF))
  go_enter Tryd.func29, Tryd.ntmps29
  go_wp2_with fail
  refine (l03Counts_quiet _ HP.out).mono ?_
  rintro e w1 ⟨rfl, hq1⟩
  rw [hF]
  go_wp2_with fail
  go_loopw [3, 4] (fun i _ wr => ∃ k : Nat, k ≤ x.2.2.length ∧ i = .int .i64 k ∧ noneB (fun c => !tb (shC x.2.1 (-1) c)) (x.2.2.take k) ∧ Quiet w wr) (fun i _ _ => x.2.2.length - (intOf i).toNat)
  case atStart => exact ⟨0, Nat.zero_le _, rfl, noneB_zero _ _, hq1⟩
  case round =>
    obtain ⟨k, hk, rfl, hne, hqw⟩ := hrel
    have HNE := Lib.hid hne
    have g0 := (hqw.below.cell hb').trans c0'
    have g1 := (hqw.below.cell hb').trans c1'
    have g2 := (hqw.below.cell hb').trans c2'
    clear hne c0' c1' c2'
    by_cases hkl : k < x.2.2.length
    · obtain ⟨a, q, rfl, haa, hce⟩ := hcell (by omega)
      obtain ⟨u, hu, hI, f0, f1⟩ := hce k hkl
      have e0 := (hqw.below.cell haa).trans f0
      have e1 := (hqw.below.cell haa).trans f1
      obtain ⟨_, _, hu0, -, hlu, -⟩ := ints_ex hu
      simp only [List.cons.injEq, and_true] at hu0
      subst hu0
      clear hcell hce f0 f1
      have cW : ∀ n, Calls Tryd.prog 37 #[.int .i64 (x.2.2[k]).1, .int .i64 (-1), .int .i64 5] (wr.drewN n) fun e w'' => e = .returned (.bool (inB (x.2.2[k]).1 (-1) 5)) ∧ ∃ m, w'' = wr.drewN m := fun n => pure_drawn (l00In_any _ _ _ _)
      cases hi : inB (x.2.2[k]).1 (-1) 5
      · rw [hi] at cW
        go_wp2_with fail
        go_quiet (exact cW _)
        go_wp2_with fail
        go_ret
        exact ⟨ret_bool (tb_false (fun hh => by have := inB_true.2 (hh.2 _ (List.getElem_mem hkl)).1; rw [hi] at this; cases this)).symm, hqw.then (by first | exact Quiet.refl _ | exact Quiet.drewN _ _ | exact (Quiet.drewN _ _).then (Quiet.drewN _ _) | exact ((Quiet.drewN _ _).then (Quiet.drewN _ _)).then (Quiet.drewN _ _))⟩
      have HI := Lib.hid (inB_true.1 hi)
      rw [hi] at cW
      have cA : ∀ n, Calls Tryd.prog 38 #[.int .i64 ((x.2.2[k]).2.length : Int)] (wr.drewN n) fun e w'' => e = .returned (.bool (inB ((x.2.2[k]).2.length : Int) 1 4)) ∧ ∃ m, w'' = wr.drewN m := fun n => pure_drawn (l01Arity_any _ _)
      cases hm : inB ((x.2.2[k]).2.length : Int) 1 4
      · rw [hm] at cA
        go_wp2_with fail
        go_quiet (first | exact cW _ | exact cA _)
        go_wp2_with fail
        go_ret
        exact ⟨ret_bool (tb_false (fun hh => by have := inB_true.2 (hh.2 _ (List.getElem_mem hkl)).2.1; rw [hm] at this; cases this)).symm, hqw.then (by first | exact Quiet.refl _ | exact Quiet.drewN _ _ | exact (Quiet.drewN _ _).then (Quiet.drewN _ _) | exact ((Quiet.drewN _ _).then (Quiet.drewN _ _)).then (Quiet.drewN _ _))⟩
      have HM := Lib.hid (inB_true.1 hm)
      rw [hm] at cA
      have hu' := hu.below hqw.below
      have h0 : 0 ≤ x.2.1 := HV.out.2.2.1
      have h1 : x.2.1 ≤ 1000000000000 := by have := HV.out; omega
      have cV : ∀ n, Calls Tryd.prog 39 #[.slice _ _ _, .int .i64 x.2.1] (wr.drewN n) fun e w'' => e = .returned (.bool (tb (rowOk x.2.1 (x.2.2[k]).2.length (x.2.2[k]).2))) ∧ ∃ m, w'' = wr.drewN m := fun n => pure_drawn (l01Places_any _ _ (hu'.below (Quiet.drewN wr n).below) h0 h1)
      clear h0 h1
      cases hv : tb (rowOk x.2.1 (x.2.2[k]).2.length (x.2.2[k]).2)
      · rw [hv] at cV
        go_wp2_with fail
        go_quiet (first | exact cW _ | exact cA _ | exact cV _)
        go_wp2_with fail
        go_ret
        exact ⟨ret_bool (tb_false (fun hh => by have := tb_true (hh.2 _ (List.getElem_mem hkl)).2.2; rw [hv] at this; cases this)).symm, hqw.then (by first | exact Quiet.refl _ | exact Quiet.drewN _ _ | exact (Quiet.drewN _ _).then (Quiet.drewN _ _) | exact ((Quiet.drewN _ _).then (Quiet.drewN _ _)).then (Quiet.drewN _ _))⟩
      have HV2 := Lib.hid (tb_iff.1 hv)
      rw [hv] at cV
      have HS : Hid ((!tb (shC x.2.1 (-1) x.2.2[k])) = false) := by unfold Hid; rw [tb_true ⟨HI.out, HM.out, HV2.out⟩]; rfl
      have hl24 := HV.out.2.2.2.2
      go_wp2_with fail
      go_quiet (first | exact cW _ | exact cA _ | exact cV _)
      go_wp2_with fail
      go_roundw
      case rel => exact ⟨k + 1, by omega, by go_num, noneB_succ hkl HNE.out HS.out, hqw.then (by first | exact Quiet.refl _ | exact Quiet.drewN _ _ | exact (Quiet.drewN _ _).then (Quiet.drewN _ _) | exact ((Quiet.drewN _ _).then (Quiet.drewN _ _)).then (Quiet.drewN _ _))⟩
      case measure => simp [intOf]; omega
    · obtain rfl : k = x.2.2.length := by omega
      go_wp2_with fail
      go_ret
      exact ⟨ret_bool (tb_true ⟨HN.out, noneB_all HNE.out⟩).symm, hqw⟩
set_option maxHeartbeats 3200000 in
set_option maxRecDepth 100000 in
theorem l03Text_any (w : World) {vx : Value} {x : Int × Int × List (Int × List Int)} (hxp : frmT.Pt w vx x) (hsh : shF x) :
    Calls Tryd.prog 30 #[vx] w fun e w' => e = .returned (.string ⟨(txF x).toArray⟩) ∧ Below w.heap.size w w' := by
  obtain ⟨b', o', ad', cap', rfl, hb', -, -, c0, c1, c2, hx⟩ := pt_trip hxp
  have HX := Lib.hid hx
  have HSH := Lib.hid hsh
  have HV := Lib.hid (shF_v hsh.1)
  have HTL := Lib.hid fun k => txF_len hsh k
  have hd := (@dec_len x.1 (by have := HV.out; omega)).2
  have hd' := (@dec_len x.2.1 (by have := HV.out; omega)).2
  have ha1 : ∀ W : World, (Op.stringOp .add ⟨#[102, 111, 114, 109, 117, 108, 97, 32]⟩ ⟨(decB x.1).toArray⟩).run Tryd.prog W = .ok (.string ⟨(cat [102, 111, 114, 109, 117, 108, 97, 32] (decB x.1)).toArray⟩) W := fun W => add_cat W _ _ (by simp; omega)
  have ha2 : ∀ W : World, (Op.stringOp .add ⟨(cat [102, 111, 114, 109, 117, 108, 97, 32] (decB x.1)).toArray⟩ ⟨#[32]⟩).run Tryd.prog W = .ok (.string ⟨(cat (cat [102, 111, 114, 109, 117, 108, 97, 32] (decB x.1)) [32]).toArray⟩) W := fun W => add_cat W _ _ (by rw [cat_len]; simp; omega)
  have ha3 : ∀ W : World, (Op.stringOp .add ⟨(cat (cat [102, 111, 114, 109, 117, 108, 97, 32] (decB x.1)) [32]).toArray⟩ ⟨(decB x.2.1).toArray⟩).run Tryd.prog W = .ok (.string ⟨(fmH x).toArray⟩) W := fun W => add_cat W _ _ (by rw [cat_len, cat_len]; simp; omega)
  clear hxp hx hsh hd hd'
  have k0 := cell_regrown c0
  have k1 := cell_regrown c1
  have cD : ∀ d os, Calls Tryd.prog 40 #[.int .i64 x.1] (grow (redrawn w d) os) fun e w'' => e = .returned (.string ⟨(decB x.1).toArray⟩) ∧ ∃ p : Regrown, w'' = grow (redrawn w p.d) p.os := fun d os =>
    Calls.regrown_of (Decimal_any _ (by have := HV.out; omega) (by have := HV.out; omega))
  have cD' : ∀ d os, Calls Tryd.prog 40 #[.int .i64 x.2.1] (grow (redrawn w d) os) fun e w'' => e = .returned (.string ⟨(decB x.2.1).toArray⟩) ∧ ∃ p : Regrown, w'' = grow (redrawn w p.d) p.os := fun d os =>
    Calls.regrown_of (Decimal_any _ (by have := HV.out; omega) (by have := HV.out; omega))
  go_enter Tryd.func30, Tryd.ntmps30
  go_wp2_with fail
  refine wp_region_quiet_below (by kernel_rfl) (by kernel_rfl) ?_
  repeat (go_big_quiet_step (first | with_reducible exact cD _ _ | with_reducible exact cD' _ _))
  refine wpQuiet_nil ?_
  rintro w1 ⟨p, rfl⟩
  have hb1 := below_regrown w p.d p.os
  generalize grow (redrawn w p.d) p.os = w1 at *
  clear ha1 ha2 ha3 cD cD' k0 k1
  go_wp2_with fail
  go_loopw [3, 4] (fun c i wr => ∃ k : Nat, k ≤ x.2.2.length ∧ i = .int .i64 k ∧ c = .string ⟨(catL atT (fmH x) (x.2.2.take k)).toArray⟩ ∧ Below w.heap.size w wr) (fun _ i _ => x.2.2.length - (intOf i).toNat)
  case atStart => exact ⟨0, Nat.zero_le _, rfl, by rw [catL_zero], hb1⟩
  case round =>
    obtain ⟨k, hk, rfl, rfl, hbr⟩ := hrel
    obtain ⟨wv, rfl⟩ : ∃ wv : World, wv = wr := ⟨_, rfl⟩
    have hl24 := HV.out.2.2.2.2
    have g0 := (cellB hbr hb').trans c0
    have g1 := (cellB hbr hb').trans c1
    have g2 := (cellB hbr hb').trans c2
    by_cases hkl : k < x.2.2.length
    · obtain ⟨b, o, rfl, hp⟩ := rd_elem HX.out hkl
      have hp' : opT.Pt w (.pointer (some ⟨b, o + k * 2, none⟩)) x.2.2[k] := hp
      obtain ⟨_, _, a1, k1, hbo, hbb, hI1, f0, f1, hs⟩ := pt_pair hp'
      simp only [Value.pointer.injEq, Option.some.injEq, Addr.mk.injEq, and_true] at hbo
      obtain ⟨rfl, rfl⟩ := hbo
      have e0 := (cellB hbr hbb).trans f0
      have e1 := (cellB hbr hbb).trans f1
      have hck := HSH.out.2 _ (List.getElem_mem hkl)
      have HST := Lib.hid (catL_succ (f := atT) (hd := fmH x) hkl)
      have hTL := HTL.out k
      have HIN : Hid (∀ a ∈ (x.2.2[k]).2, 0 ≤ a ∧ a < 10) := shC_dec hck (by have := HV.out; omega)
      have HRL : Hid (-1 ≤ (x.2.2[k]).1 ∧ (x.2.2[k]).1 ≤ 5) := hck.1
      have hl4 : (x.2.2[k]).2.length ≤ 4 := by have := hck.2.1; omega
      have hpl := atP_len (a := x.2.2[k]) hck.1.2
      obtain ⟨_, _, hs0, -, -, hsc⟩ := ints_ex hs
      simp only [List.cons.injEq, Value.slice.injEq, and_true, true_and] at hs0
      obtain ⟨rfl, rfl⟩ := hs0
      have HTC : Hid (atT x.2.2[k] = catL decB (atP x.2.2[k]) (x.2.2[k]).2) := rfl
      clear hp hp' hck hs
      generalize x.2.2[k] = c at *
      generalize catL atT (fmH x) (x.2.2.take k) = C at *
      have HCC : Hid (catL decB (cat C (atP c)) c.2 = cat C (atT c)) := by unfold Hid; rw [HTC.out, catL_cat]
      have hcl : (cat C (atP c)).length ≤ 2000 := by rw [cat_len]; omega
      cases hq : (c.1 == -1)
      · have HRL : Hid (0 ≤ c.1 ∧ c.1 ≤ 5) := by have h1 := HRL.out; have h2 : c.1 ≠ -1 := (by simpa using hq); unfold Hid; omega
        have hdl := (@dec_len c.1 (by have := HRL.out; omega)).2
        have hap := atP_ne hq
        have ha1 : ∀ W : World, (Op.stringOp .add ⟨#[32, 82]⟩ ⟨(decB c.1).toArray⟩).run Tryd.prog W = .ok (.string ⟨(cat [32, 82] (decB c.1)).toArray⟩) W := fun W => add_cat W _ _ (by simp; omega)
        have ha2 : ∀ W : World, (Op.stringOp .add ⟨(cat [32, 82] (decB c.1)).toArray⟩ ⟨#[58]⟩).run Tryd.prog W = .ok (.string ⟨(atP c).toArray⟩) W := fun W => by rw [hap]; exact add_cat W _ _ (by rw [cat_len]; simp; omega)
        have ha3 : ∀ W : World, (Op.stringOp .add ⟨C.toArray⟩ ⟨(atP c).toArray⟩).run Tryd.prog W = .ok (.string ⟨(cat C (atP c)).toArray⟩) W := fun W => add_cat W _ _ (by omega)
        clear hap hdl
        go_wp2_with (go_at_call 40; refine (Decimal_any _ (by have := HRL.out; omega) (by have := HRL.out; omega)).mono ?_; rintro e w2 ⟨rfl, hb2⟩)
        have hB2 := bthen hbr hb2
        clear ha1 ha2 ha3 g0 g1 g2 e0 e1 hb2 hbr
        go_loopw [3, 5] (fun s i wr => ∃ j : Nat, j ≤ c.2.length ∧ i = .int .i64 j ∧ s = .string ⟨(catL decB (cat C (atP c)) (c.2.take j)).toArray⟩ ∧ Below w.heap.size w wr) (fun _ i _ => c.2.length - (intOf i).toNat)
        case atStart => exact ⟨0, Nat.zero_le _, rfl, by rw [catL_zero], hB2⟩
        case round =>
          obtain ⟨j, hj, rfl, rfl, hbs⟩ := hrel
          have g0 := (cellB hbs hb').trans c0
          have g1 := (cellB hbs hb').trans c1
          have g2 := (cellB hbs hb').trans c2
          have e1 := (cellB hbs hbb).trans f1
          by_cases hjl : j < c.2.length
          · obtain ⟨bs, os, rfl, hbs2, hse⟩ := hsc (by omega)
            obtain ⟨hIj, hcj⟩ := hse j hjl
            have e2 := (cellB hbs hbs2).trans hcj
            have hin := HIN.out _ (List.getElem_mem hjl)
            have HS2 := Lib.hid (catL_succ (f := decB) (hd := cat C (atP c)) hjl)
            have hlen := catL_len (f := decB) (hd := cat C (atP c)) (xs := c.2.take j) (B := 2) fun y hy => (@dec_len y (by have := HIN.out y (List.mem_of_mem_take hy); omega)).2
            rw [List.length_take] at hlen
            have hlen' : (catL decB (cat C (atP c)) (c.2.take j)).length ≤ 3000 := by
              have : min j c.2.length ≤ 4 := by omega
              omega
            generalize catL decB (cat C (atP c)) (c.2.take j) = D at *
            generalize hz : c.2[j] = z at *
            have hdz := (@dec_len z (by omega)).2
            have ha4 : ∀ W : World, (Op.stringOp .add ⟨D.toArray⟩ ⟨(decB z).toArray⟩).run Tryd.prog W = .ok (.string ⟨(cat D (decB z)).toArray⟩) W := fun W => add_cat W _ _ (by omega)
            clear hz hlen hlen' hcj hse hdz hsc
            go_wp2_with (go_at_call 40; refine (Decimal_any _ (by omega) (by omega)).mono ?_; rintro e w3 ⟨rfl, hb3⟩)
            have hB3 := bthen hbs hb3
            go_roundw
            case rel => exact ⟨j + 1, by omega, by go_num, congrArg (fun l : List UInt8 => Value.string ⟨l.toArray⟩) HS2.out.symm, hB3⟩
            case measure => simp [intOf]; omega
          · obtain rfl : j = c.2.length := by omega
            have HF : Hid (catL decB (cat C (atP c)) (c.2.take c.2.length) = cat C (atT c)) := by unfold Hid; rw [List.take_length, HCC.out]
            rw [HF.out]
            clear hsc
            go_wp2_with fail
            go_roundw
            case rel => exact ⟨k + 1, by omega, by go_num, by rw [HST.out], hbs⟩
            case measure => simp [intOf]; omega
      · have hap := atP_eq hq
        have ha3 : ∀ W : World, (Op.stringOp .add ⟨C.toArray⟩ ⟨#[32, 61, 58]⟩).run Tryd.prog W = .ok (.string ⟨(cat C (atP c)).toArray⟩) W := fun W => by rw [hap]; exact add_cat W _ _ (by simp; omega)
        clear hap
        go_wp2_with fail
        have hB2 := hbr
        clear ha3 g0 g1 g2 e0 e1 hbr
        go_loopw [3, 5] (fun s i wr => ∃ j : Nat, j ≤ c.2.length ∧ i = .int .i64 j ∧ s = .string ⟨(catL decB (cat C (atP c)) (c.2.take j)).toArray⟩ ∧ Below w.heap.size w wr) (fun _ i _ => c.2.length - (intOf i).toNat)
        case atStart => exact ⟨0, Nat.zero_le _, rfl, by rw [catL_zero], hB2⟩
        case round =>
          obtain ⟨j, hj, rfl, rfl, hbs⟩ := hrel
          have g0 := (cellB hbs hb').trans c0
          have g1 := (cellB hbs hb').trans c1
          have g2 := (cellB hbs hb').trans c2
          have e1 := (cellB hbs hbb).trans f1
          by_cases hjl : j < c.2.length
          · obtain ⟨bs, os, rfl, hbs2, hse⟩ := hsc (by omega)
            obtain ⟨hIj, hcj⟩ := hse j hjl
            have e2 := (cellB hbs hbs2).trans hcj
            have hin := HIN.out _ (List.getElem_mem hjl)
            have HS2 := Lib.hid (catL_succ (f := decB) (hd := cat C (atP c)) hjl)
            have hlen := catL_len (f := decB) (hd := cat C (atP c)) (xs := c.2.take j) (B := 2) fun y hy => (@dec_len y (by have := HIN.out y (List.mem_of_mem_take hy); omega)).2
            rw [List.length_take] at hlen
            have hlen' : (catL decB (cat C (atP c)) (c.2.take j)).length ≤ 3000 := by
              have : min j c.2.length ≤ 4 := by omega
              omega
            generalize catL decB (cat C (atP c)) (c.2.take j) = D at *
            generalize hz : c.2[j] = z at *
            have hdz := (@dec_len z (by omega)).2
            have ha4 : ∀ W : World, (Op.stringOp .add ⟨D.toArray⟩ ⟨(decB z).toArray⟩).run Tryd.prog W = .ok (.string ⟨(cat D (decB z)).toArray⟩) W := fun W => add_cat W _ _ (by omega)
            clear hz hlen hlen' hcj hse hdz hsc
            go_wp2_with (go_at_call 40; refine (Decimal_any _ (by omega) (by omega)).mono ?_; rintro e w3 ⟨rfl, hb3⟩)
            have hB3 := bthen hbs hb3
            go_roundw
            case rel => exact ⟨j + 1, by omega, by go_num, congrArg (fun l : List UInt8 => Value.string ⟨l.toArray⟩) HS2.out.symm, hB3⟩
            case measure => simp [intOf]; omega
          · obtain rfl : j = c.2.length := by omega
            have HF : Hid (catL decB (cat C (atP c)) (c.2.take c.2.length) = cat C (atT c)) := by unfold Hid; rw [List.take_length, HCC.out]
            rw [HF.out]
            clear hsc
            go_wp2_with fail
            go_roundw
            case rel => exact ⟨k + 1, by omega, by go_num, by rw [HST.out], hbs⟩
            case measure => simp [intOf]; omega
    · obtain rfl : k = x.2.2.length := by omega
      have HF : Hid (catL atT (fmH x) (x.2.2.take x.2.2.length) = txF x) := by unfold Hid; rw [List.take_length]; rfl
      go_wp2_with fail
      go_ret
      exact ⟨by rw [HF.out]; rfl, hbr⟩
set_option maxHeartbeats 1600000 in
set_option maxRecDepth 100000 in
theorem specFormulaText_any (w : World) {cs : Array Value} {x : Int × Int × List (Int × List Int)} (h : frmT.Rd w cs.toList x) :
    Calls Tryd.prog 11 #[.agg cs] w fun e w' => e = .returned (.string ⟨(ftV x).toArray⟩) ∧ Below w.heap.size w w' := by
  have hx := h
  obtain ⟨v, hv, hI, hI2, hy⟩ := trip_ex h
  obtain rfl := agg_of hv
  have HP : Hid (frmT.Pt (w.alloc (.cells #[.int .i64 x.1, .int .i64 x.2.1, v] 40)) (.pointer (some ⟨w.heap.size, 0, none⟩)) x) := pt_box hx
  clear h hv hx hy
  cases hS : tb (shF x)
  · have HN : Hid (ftV x = []) := ft_no fun hh => by rw [tb_true hh] at hS; cases hS
    go_enter Tryd.func11, Tryd.ntmps11
    go_wp2_with fail
    refine (l03Shown_quiet _ HP.out).mono ?_
    rintro e w1 ⟨rfl, hq1⟩
    rw [hS]
    go_wp2_with fail
    go_ret
    exact ⟨by rw [HN.out]; rfl, bthen bA hq1.below⟩
  have HSH := Lib.hid (tb_iff.1 hS)
  have HN := Lib.hid (ft_yes (tb_iff.1 hS))
  go_enter Tryd.func11, Tryd.ntmps11
  go_wp2_with fail
  refine (l03Shown_quiet _ HP.out).mono ?_
  rintro e w1 ⟨rfl, hq1⟩
  rw [hS]
  go_wp2_with fail
  refine (l03Text_any _ (HP.out.below hq1.below) HSH.out).mono ?_
  rintro e w2 ⟨rfl, hb2⟩
  go_wp2_with fail
  go_ret
  exact ⟨by rw [HN.out]; rfl, bthen (bthen bA hq1.below) hb2⟩
end Go.Proofs.YtjghcedmlklngaaDoor
