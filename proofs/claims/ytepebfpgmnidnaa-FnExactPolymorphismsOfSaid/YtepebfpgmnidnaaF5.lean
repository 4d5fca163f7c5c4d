/-
  Contracts: the search for operations, told to a listener.
-/
import Derived.Test.YtepebfpgmnidnaaF4
import Derived.Test.YtepebfpgmnidnaaK32
import Derived.Deep.CutRange
namespace Go.Proofs.Ytepebfpgmnidnaa
open Go.RowKit Go.Sort
/-- what a search turns: how many steps, the values so far, in a row of its own -/
def Tb (e base : Nat) (w : World) (bs st : Nat) (v : Value) (vals : List Int) : Prop :=
  w.cell? ⟨bs, 6, none⟩ = some (.int .i64 (st : Int)) ∧ w.cell? ⟨bs, 7, none⟩ = some v ∧ w.frozen? ⟨bs, 6, none⟩ = false ∧ w.frozen? ⟨bs, 7, none⟩ = false ∧ Bl Ty.int e base w.heap.size w v vals
theorem Tb.same {e base : Nat} {w w' : World} {bs st : Nat} {v : Value} {vals : List Int} (h : Tb e base w bs st v vals) (hb : w'.heap[bs]? = w.heap[bs]?) (hs : ∀ b, v.ownBlock = some b → w'.heap[b]? = w.heap[b]?) (hz : w.heap.size ≤ w'.heap.size) : Tb e base w' bs st v vals :=
  let ⟨h1, h2, h3, h4, h5⟩ := h
  ⟨(World.cell?_of_block (a := ⟨bs, 6, none⟩) hb).trans h1, (World.cell?_of_block (a := ⟨bs, 7, none⟩) hb).trans h2, (World.frozen?_of_block (a := ⟨bs, 6, none⟩) hb).trans h3, (World.frozen?_of_block (a := ⟨bs, 7, none⟩) hb).trans h4, bl_int_same h5 hs hz⟩
theorem Tb.below {e base : Nat} {w w' : World} {bs st : Nat} {v : Value} {vals : List Int} (h : Tb e base w bs st v vals) (hl : bs < w.heap.size) (hb : Below w.heap.size w w') : Tb e base w' bs st v vals :=
  h.same (hb.block bs hl) (fun _ hq => hb.block _ (h.2.2.2.2.lt_top hq)) hb.size
/-- a listener of operations: what it keeps (I), and the blocks that are its own (O) -/
structure Yf (P : Program) (ar : Int) (g : FuncId) (caps : Array Value) (yc : List (List Int) → Int) (I : List (List Int) → (Nat → Prop) → World → Prop) : Prop where
  stable : ∀ {told O w w'}, I told O w → (∀ k, k < w.heap.size → O k → w'.heap[k]? = w.heap[k]?) → w.heap.size ≤ w'.heap.size → I told O w'
  lt : ∀ {told O w}, I told O w → ∀ k, O k → k < w.heap.size
  step : ∀ {told O w0 w u x}, I told O w0 → Below w0.heap.size w0 w → intsT.Fr w0.heap.size w [u] x → x.length ≤ 64 → told.length ≤ 2000000 →
    Calls P g (#[.agg #[.int .i64 ar, u]] ++ caps) w fun e w' => e = .returned (.int .i64 (yc (told ++ [x]))) ∧ ∃ O', I (told ++ [x]) O' w' ∧ TchP O w w' ∧ ∀ k, O' k → O k ∨ w0.heap.size ≤ k
theorem skip_at {fx : List Int} {i : Nat} {a : Int} (h : i < fx.length) : skipB fx i a = (decide (0 ≤ fx[i]) && (fx[i] != a)) := by
  unfold skipB
  rw [List.getD_eq_getElem?_getD, List.getElem?_eq_getElem h]
  rfl
/-- how a search leaves memory -/
def SrR (e base : Nat) (ok : Nat → Prop) (bs : Nat) (t : Tpl) (ar : Int) (due : List (List (Int × List Int))) (fx : List Int) (I : List (List Int) → (Nat → Prop) → World → Prop) (w : World) (v : Value) (O : Nat → Prop) (vals : List Int) (R : FR) (w' : World) : Prop :=
  ∃ v' O', Fd ok w' bs t ar due fx ∧ Tb e base w' bs R.2.1 v' vals ∧ I R.2.2 O' w' ∧ (∀ k, O' k → O k ∨ w.heap.size ≤ k) ∧ (∀ k, v'.ownBlock = some k → ¬ O' k ∧ (v.ownBlock = some k ∨ w.heap.size ≤ k)) ∧ TchP (fun k => O k ∨ k = bs ∨ v.ownBlock = some k) w w'
theorem SrR.mk {e base : Nat} {ok : Nat → Prop} {bs : Nat} {t : Tpl} {ar : Int} {due : List (List (Int × List Int))} {fx : List Int} {I : List (List Int) → (Nat → Prop) → World → Prop} {w : World} {v : Value} {O : Nat → Prop} {vals : List Int} {R : FR} {w' : World} (v' : Value) (O' : Nat → Prop)
    (h1 : Fd ok w' bs t ar due fx) (h2 : Tb e base w' bs R.2.1 v' vals) (h3 : I R.2.2 O' w') (h4 : ∀ k, O' k → O k ∨ w.heap.size ≤ k) (h5 : ∀ k, v'.ownBlock = some k → ¬ O' k ∧ (v.ownBlock = some k ∨ w.heap.size ≤ k)) (h6 : TchP (fun k => O k ∨ k = bs ∨ v.ownBlock = some k) w w') : SrR e base ok bs t ar due fx I w v O vals R w' :=
  ⟨v', O', h1, h2, h3, h4, h5, h6⟩
/-- the last value struck -/
theorem tb_cut {e base : Nat} {ok : Nat → Prop} {bs st n c : Nat} {t : Tpl} {ar : Int} {due : List (List (Int × List Int))} {fx vals : List Int} {x : Int} {w : World} {a : Option Addr} (hF : Fd ok w bs t ar due fx) (hT : Tb e base w bs st (.slice a n c) (vals ++ [x])) (hok : ¬ ok bs) (hbb : bs < base) :
    Fd ok (w.setCell ⟨bs, 7, none⟩ (.slice a vals.length c)) bs t ar due fx ∧ Tb e base (w.setCell ⟨bs, 7, none⟩ (.slice a vals.length c)) bs st (.slice a vals.length c) vals ∧ vals.length + 1 ≤ c ∧ n = vals.length + 1 ∧ ∃ g, a = some ⟨g, 0, none⟩ := by
  obtain ⟨c6, c7, f6, f7, hB⟩ := hT
  obtain ⟨h1, h2, h3, g, rfl⟩ := bl_cut hB
  refine ⟨hF.set (by omega) hok, ⟨(World.cell?_setCell_other _ _ _ _ (by simp)).trans c6, World.cell?_setCell_same _ _ _ c7, (World.frozen?_setCell _ _ _ _).trans f6, (World.frozen?_setCell _ _ _ _).trans f7, ?_⟩, h2, h3, g, rfl⟩
  exact bl_int_same h1 (fun b hb => Below.heap_setCell _ _ _ _ (by have := h1.ge hb; simp; omega)) (by simp [World.setCell])
set_option maxHeartbeats 6400000 in
set_option maxRecDepth 100000 in
theorem search_any {t : Tpl} {ar : Int} {due : List (List (Int × List Int))} {fx : List Int} (hT : tplOk t) {s N : Nat} (hs : t.1 = s) (hN : N ≤ 64) (hdl : due.length = N) (hD : ldueOk t due) (hd3 : ∀ d ∈ due, d.length ≤ 1000000) (hfx : fx.length = N) (g : Nat) (caps : Array Value) (eg : ∀ args w, (callFunc g args).run Try.prog w = .ok (.enter g args) w)
    (yc : List (List Int) → Int) (I : List (List Int) → (Nat → Prop) → World → Prop) (hY : Yf Try.prog ar g caps yc I) (bs base : Nat) (ok : Nat → Prop) (hbb : bs < base) (hok : ∀ k, ok k → k < base ∧ k ≠ bs) :
    ∀ (m : Nat) (w : World) (v : Value) (vals : List Int) (st : Nat) (told : List (List Int)) (O : Nat → Prop), vals.length + m = N → (∀ a ∈ vals, 0 ≤ a ∧ a ≤ t.1 - 1) → Fd ok w bs t ar due fx → Tb 2 base w bs st v vals → I told O w → (∀ k, ok k → ¬ O k) → ¬ O bs → (∀ k, v.ownBlock = some k → ¬ O k) → st ≤ 6000 → told.length ≤ st + 1 → base ≤ w.heap.size →
      Calls Try.prog 95 #[.pointer (some ⟨bs, 0, none⟩), .func (.func g) #[] caps] w fun e w' => e = .returned (.int .i64 (srch s (goesF t due) fx yc m vals (0, st, told)).1) ∧
        SrR 2 base ok bs t ar due fx I w v O vals (srch s (goesF t due) fx yc m vals (0, st, told)) w' := by
  have HT := Lib.hid hT
  have HD := Lib.hid hD
  have HD3 := Lib.hid hd3
  have HY := Lib.hid hY
  have HOK := Lib.hid hok
  have hs4 := hT.1
  unfold sizeOk at hs4
  have hs41 : 1 ≤ s ∧ s ≤ 4 := by omega
  clear hT hD hd3 hY hok hs4
  intro m
  induction m with
  | zero =>
    intro w v vals st told O hlen hin hF hTb hI hokO hbO hvO hst htl hbw
    have HF := Lib.hid hF
    have HTB := Lib.hid hTb
    obtain ⟨hbs, v3, v4, v5, c0, c2, c3, c4, c5, -, -, hfd⟩ := hF
    obtain ⟨c6, c7, f6, f7, hBl⟩ := hTb
    obtain ⟨va, vc, rfl⟩ := rd_slice (hBl.fr (by unfold capMax; omega)).rd
    obtain ⟨xa, xc, rfl⟩ := rdP_slice hfd
    have HV := Lib.hid (hBl.fr (by unfold capMax; omega)).rd
    have HI := Lib.hid hI
    have HOO := Lib.hid hokO
    have HVO := Lib.hid hvO
    have hl : vals.length = N := by omega
    rw [show srch s (goesF t due) fx yc 0 vals (0, st, told) = (yc (told ++ [vals]), st, told ++ [vals]) from rfl]
    simp only []
    rw [hl] at c7 HV ⊢
    rw [hfx] at c5
    have hbOH := Lib.hid hbO
    clear hI hBl hokO hvO hin hfd c0 c3 c4 c6 f6 f7 hbO
    go_enter Try.func95, Try.ntmps95
    go_wp2_with fail
    refine wp_region_T (fun w' => w'.cell? ⟨bs, 2, none⟩ = some (.int .i64 ar) ∧ w'.cell? ⟨bs, 7, none⟩ = some (.slice va N vc)) [11, 12] (by kernel_rfl) ⟨c2, c7⟩ (fun hHeld => ?_)
    refine wpAnyT_take (i := 0) (v := ?_) rfl (by kernel_rfl) (fun _ _ _ h => h) (Or.inl ⟨by rfl, ?_⟩) (by assumption) ?_
    rotate_left
    · (intro w hSw; (try dsimp only at hSw); go_simp <;> with_reducible rfl)
    go_simp
    refine wpAnyT_take (i := 1) (v := ?_) rfl (by kernel_rfl) (fun _ _ _ h => h) (Or.inl ⟨by rfl, ?_⟩) (by assumption) ?_
    rotate_left
    · (intro w hSw; (try dsimp only at hSw); go_simp <;> with_reducible rfl)
    go_simp
    refine wpAnyT_take (i := 2) (v := ?_) rfl (by kernel_rfl) (fun _ _ _ h => h) (Or.inl ⟨by rfl, ?_⟩) (by assumption) ?_
    rotate_left
    · (intro w hSw; (try dsimp only at hSw); go_simp <;> with_reducible rfl)
    go_simp
    refine wpAnyT_take (i := 3) (v := ?_) rfl (by kernel_rfl) (fun _ _ _ h => h) (Or.inl ⟨by rfl, ?_⟩) (by assumption) ?_
    rotate_left
    · (intro w hSw; (try dsimp only at hSw); go_simp <;> with_reducible rfl)
    go_simp
    refine wpAnyT_take (i := 4) (v := ?_) rfl (by kernel_rfl) (fun _ _ _ h => h) (Or.inl ⟨by rfl, ?_⟩) (by assumption) ?_
    rotate_left
    · (intro w hSw; (try dsimp only at hSw); go_simp <;> with_reducible rfl)
    go_simp
    refine wpAnyT_take (i := 5) (v := ?_) rfl (by kernel_rfl) (fun _ _ _ h => h) (Or.inl ⟨by rfl, ?_⟩) (by assumption) ?_
    rotate_left
    · (intro w hSw; (try dsimp only at hSw); go_simp <;> with_reducible rfl)
    go_simp
    refine wpAnyT_take (i := 6) (v := ?_) rfl (by kernel_rfl) (fun _ _ _ h => h) (Or.inl ⟨by rfl, ?_⟩) (by assumption) ?_
    rotate_left
    · (intro w hSw; (try dsimp only at hSw); go_simp <;> with_reducible rfl)
    go_simp
    refine wpAnyT_take (i := 7) (v := ?_) rfl (by kernel_rfl) (fun _ _ _ h => h) (Or.inl ⟨by rfl, ?_⟩) (by assumption) ?_
    rotate_left
    · (intro w hSw; (try dsimp only at hSw); go_simp <;> with_reducible rfl)
    go_simp
    refine wpAnyT_take (i := 8) (v := ?_) rfl (by kernel_rfl) (fun _ _ _ h => h) (Or.inl ⟨by rfl, ?_⟩) (by assumption) ?_
    rotate_left
    · (intro w hSw; (try dsimp only at hSw); go_simp <;> with_reducible rfl)
    go_simp
    refine wpAnyT_one (i := 9) rfl (by kernel_rfl) (fun K hK => ?_)
    go_simp
    go_at_call 119
    refine (Clone_any _ (HV.out.below bD) (by omega)).mono ?_
    rintro e w1 ⟨u, rfl, hf, hb1⟩
    have hb1' : Below w.heap.size w w1 := bthen bD hb1
    obtain ⟨ua, un, uc, rfl⟩ := ex_slice hf
    have HFR : Hid (intsT.Fr w.heap.size w1 [.slice ua un uc] vals) := hf
    replace c2 := (cellB hb1' (by omega)).trans c2
    replace c7 := (cellB hb1' (by omega)).trans c7
    clear hf hb1
    dsimp only
    refine hK.out _ _ ⟨c2, c7⟩ (fun hHeld => ?_)
    clear hK K
    refine wpAnyT_one (i := 10) rfl (by kernel_rfl) (fun K hK => ?_)
    go_simp
    refine hK.out _ _ ⟨c2, c7⟩ (fun hHeld => ?_)
    clear hK K
    refine wpAnyT_last (i := 11) rfl (by kernel_rfl) (by kernel_rfl) (fun K hK => ?_)
    go_simp
    refine (HY.out.step HI.out hb1' HFR.out (by omega) (by omega)).mono ?_
    rintro e w2 ⟨rfl, O', hI', ht, hO'⟩
    have HI2 := Lib.hid hI'
    have HO := Lib.hid hO'
    have HTC : Hid (TchP O w w2) := (TchP.of_below hb1' O).then ht (fun k _ hk => hk)
    have HW1 := Lib.hid (fun k (hk : k < w.heap.size) (hn : ¬ O k) => HTC.out.block k hk hn)
    clear hI' ht hO'
    dsimp only
    refine hK.out _ _ ?_
    clear hK K
    refine wpAnyT_last (i := 12) rfl (by kernel_rfl) (by kernel_rfl) (fun K hK => ?_)
    go_simp
    refine hK.out _ _ ?_
    clear hK K
    refine wpAnyT_done (by kernel_rfl) ?_ _
    go_simp
    go_wp2_with fail
    go_ret
    refine ⟨rfl, SrR.mk (.slice va N vc) O' ?_ ?_ HI2.out HO.out (fun k hk => ⟨fun hm => ?_, .inl hk⟩) (HTC.out.mono (fun k _ h => .inl h))⟩
    · exact HF.out.tchP HTC.out (fun k _ hk => HOO.out k hk) hbOH.out
    · rw [← hl]
      exact HTB.out.same (HTC.out.block bs hbs hbOH.out) (fun q hq => HTC.out.block q (HTB.out.2.2.2.2.lt_top hq) (HVO.out q hq)) HTC.out.size
    · rcases HO.out k hm with h | h
      · exact HVO.out k (by rw [hl]; exact hk) h
      · have := HTB.out.2.2.2.2.lt_top (g := k) (by rw [hl]; exact hk)
        omega
  | succ m ih =>
    intro w v vals st told O hlen hin hF hTb hI hokO hbO hvO hst htl hbw
    have HF := Lib.hid hF
    have HTB := Lib.hid hTb
    obtain ⟨hbs, v3, v4, v5, c0, c2, c3, c4, c5, -, -, hfd⟩ := hF
    obtain ⟨c6, c7, f6, f7, hBl⟩ := hTb
    obtain ⟨va, vc, rfl⟩ := rd_slice (hBl.fr (by unfold capMax; omega)).rd
    have HI := Lib.hid hI
    have HOO := Lib.hid hokO
    have HVO := Lib.hid hvO
    have HIN := Lib.hid hin
    have HIH := Lib.hid ih
    have hbOH := Lib.hid hbO
    have hl : vals.length < N := by omega
    have hne : ((vals.length : Int) == (N : Int)) = false := by simp; omega
    have hatf : vals.length < fx.length := by omega
    obtain ⟨_, _, hx, -, hxe⟩ := slice_exP hfd
    obtain rfl : v5 = _ := by simpa using hx
    obtain ⟨xb, xo, rfl, hxb, hxok, hxc⟩ := hxe.2 (by omega)
    obtain ⟨cs, ⟨fpc, ⟨rfl, hIx, _⟩, _⟩, hxc⟩ := hxc vals.length hatf
    have cx := hxc 0 (by simp)
    simp only [Ty.int, Nat.mul_one, Nat.add_zero, List.getElem_cons_zero] at cx
    rw [hfx] at c5
    rw [srch_succ]
    rw [hs] at c0
    clear hI hBl hokO hvO hfd c3 c4 hbO hxe hxc
    clear hin ih
    go_enter Try.func95, Try.ntmps95
    go_wp2_with fail
    go_loopw [37] (fun i wr => ∃ (k : Nat) (v' : Value) (O' : Nat → Prop), k ≤ s ∧ i = .int .i64 k ∧ (srchTo s (goesF t due) fx yc m vals k (0, st, told)).1 = 0 ∧ Fd ok wr bs t ar due fx ∧ Tb 2 base wr bs (srchTo s (goesF t due) fx yc m vals k (0, st, told)).2.1 v' vals ∧
      I (srchTo s (goesF t due) fx yc m vals k (0, st, told)).2.2 O' wr ∧ (∀ q, O' q → O q ∨ w.heap.size ≤ q) ∧ (∀ q, v'.ownBlock = some q → ¬ O' q ∧ ((Value.slice va vals.length vc).ownBlock = some q ∨ w.heap.size ≤ q)) ∧ TchP (fun q => O q ∨ q = bs ∨ (Value.slice va vals.length vc).ownBlock = some q) w wr) (fun i _ => s - (intOf i).toNat)
    case atStart => exact ⟨0, _, O, Nat.zero_le _, rfl, rfl, HF.out, HTB.out, HI.out, fun q hq => .inl hq, fun q hq => ⟨HVO.out q hq, .inl hq⟩, TchP.refl _ _⟩
    case round =>
      obtain ⟨k, v', O', hk, rfl, hz0, hF', hTb', hI', hO', hv', ht'⟩ := hrel
      have HF2 := Lib.hid hF'
      have HTB2 := Lib.hid hTb'
      have HI2 := Lib.hid hI'
      have HO2 := Lib.hid hO'
      have HV2 := Lib.hid hv'
      have HTC := Lib.hid ht'
      have HZ0 := Lib.hid hz0
      have hzr := ht'.size
      obtain ⟨hst', htl'⟩ : (srchTo s (goesF t due) fx yc m vals k (0, st, told)).2.1 ≤ 6000 ∧ (srchTo s (goesF t due) fx yc m vals k (0, st, told)).2.2.length ≤ (srchTo s (goesF t due) fx yc m vals k (0, st, told)).2.1 + 1 := by
        have h1 := srchTo_steps (s := s) (okT := goesF t due) (fx := fx) (yc := yc) (m := m) (vals := vals) (k := k) (r := (0, st, told)) hst
        have h2 := (srchTo_told (s := s) (okT := goesF t due) (fx := fx) (yc := yc) (m := m) (vals := vals) (k := k) (r := (0, st, told))).1
        simp only at h2
        omega
      have HSC := Lib.hid (srchTo_succ (s := s) (okT := goesF t due) (fx := fx) (yc := yc) (m := m) (vals := vals) (k := k) (r := (0, st, told)))
      have HST : Hid ((srchTo s (goesF t due) fx yc m vals (k + 1) (0, st, told)).1 ≠ 0 → k < s → srchTo s (goesF t due) fx yc m vals s (0, st, told) = srchTo s (goesF t due) fx yc m vals (k + 1) (0, st, told)) := fun h hk => srchTo_stop h (by omega)
      generalize hR : srchTo s (goesF t due) fx yc m vals k (0, st, told) = R at *
      obtain ⟨rc, rst, rtold⟩ := R
      simp only at hst' htl' HTB2 HI2 HZ0 hz0
      clear hF' hTb' hI' hO' hv' ht'
      by_cases hkl : k < s
      · obtain rfl : rc = 0 := HZ0.out
        obtain ⟨hbs', _, _, v5', -, -, -, -, c5', -, -, hfd'⟩ := HF2.out
        obtain ⟨_, _, hx, -, -, hxe⟩ := slice_exP hfd'
        obtain rfl : v5' = _ := by simpa using hx
        obtain ⟨xb, xo, rfl, hxb, hxok, hxc⟩ := hxe (by omega)
        obtain ⟨cs, ⟨fpc, ⟨rfl, hIx, _⟩, _⟩, hxc⟩ := hxc vals.length hatf
        have cx := hxc 0 (by simp)
        simp only [Ty.int, Nat.mul_one, Nat.add_zero, List.getElem_cons_zero] at cx
        rw [hfx] at c5'
        have HSK := Lib.hid (skip_at (a := (k : Int)) hatf)
        generalize fx[vals.length] = x at cx HSK
        obtain ⟨c6', c7', f6', f7', hBl'⟩ := HTB2.out
        obtain ⟨va', vc', rfl⟩ := rd_slice (hBl'.fr (by unfold capMax; omega)).rd
        have HBL := Lib.hid hBl'
        have HRE := Lib.hid hR
        obtain ⟨wv, rfl⟩ : ∃ wv : World, wv = wr := ⟨_, rfl⟩
        clear hxe hxc hfd' hIx hBl' hR hz0 c0 c2 c5 c6 c7 f6 f7
        go_upto_region 7 with fail
        go_cut [58] from 40 to 57 (fun v58 wx => v58 = .bool (skipB fx vals.length k) ∧ wv = wx)
        case rest =>
          obtain ⟨rfl, rfl⟩ := hcut
          cases hsk : skipB fx vals.length k
          · cases hb : ((rst : Int) == 6000)
            · have hne6 : rst ≠ 6000 := by intro e; rw [e] at hb; exact absurd hb (by decide)
              have hst6 : rst + 1 ≤ 6000 := by omega
              go_upto_region 11 with fail
              have HB1 : Hid (Bl Ty.int 2 base wv.heap.size (wv.setCell ⟨bs, 6, none⟩ (.int .i64 ((rst : Int) + 1))) (.slice va' vals.length vc') vals) := bl_int_same HBL.out (fun b hb => Below.heap_setCell _ _ _ _ (by have := HBL.out.ge hb; simp; omega)) (Nat.le_refl _)
              have hnb : ¬ O' bs := fun h => by
                rcases HO2.out bs h with h | h
                · exact hbOH.out h
                · omega
              have HOB : Hid (¬ ok bs) := fun h => (HOK.out bs h).2 rfl
              have HVB : Hid ((Value.slice va' vals.length vc').ownBlock ≠ some bs) := fun h => by have := HBL.out.ge h; omega
              have HF1 : Hid (Fd ok (wv.setCell ⟨bs, 6, none⟩ (.int .i64 ((rst : Int) + 1))) bs t ar due fx) := HF2.out.set (by omega) HOB.out
              have hs1 : TchP (fun q => q = bs) wv (wv.setCell ⟨bs, 6, none⟩ (.int .i64 ((rst : Int) + 1))) := TchP.set rfl
              have hzz : (wv.setCell ⟨bs, 6, none⟩ (.int .i64 ((rst : Int) + 1))).heap.size ≤ wv.heap.size := by simp [World.setCell]
              have HI1 : Hid (I rtold O' (wv.setCell ⟨bs, 6, none⟩ (.int .i64 ((rst : Int) + 1)))) := HY.out.stable HI2.out (fun q hq ho => hs1.block q hq (fun e => hnb (e ▸ ho))) hs1.size
              have d6 : (wv.setCell ⟨bs, 6, none⟩ (.int .i64 ((rst : Int) + 1))).cell? ⟨bs, 6, none⟩ = some (.int .i64 ((rst : Int) + 1)) := World.cell?_setCell_same _ _ _ c6'
              have d7 : (wv.setCell ⟨bs, 6, none⟩ (.int .i64 ((rst : Int) + 1))).cell? ⟨bs, 7, none⟩ = some (.slice va' vals.length vc') := (World.cell?_setCell_other _ _ _ _ (by simp)).trans c7'
              have e6 : (wv.setCell ⟨bs, 6, none⟩ (.int .i64 ((rst : Int) + 1))).frozen? ⟨bs, 6, none⟩ = false := (World.frozen?_setCell _ _ _ _).trans f6'
              have e7 : (wv.setCell ⟨bs, 6, none⟩ (.int .i64 ((rst : Int) + 1))).frozen? ⟨bs, 7, none⟩ = false := (World.frozen?_setCell _ _ _ _).trans f7'
              generalize wv.setCell ⟨bs, 6, none⟩ (.int .i64 ((rst : Int) + 1)) = w1 at *
              have hz1 := hs1.size
              have hbs1 : bs < w1.heap.size := by omega
              have hIk : I64 (k : Int) := I64.small (by omega) (by omega)
              have HT1 : Hid (TchP (fun q => O q ∨ q = bs ∨ (Value.slice va vals.length vc).ownBlock = some q) w w1) := HTC.out.then hs1 (fun q _ h => .inr (.inl h))
              have HNB := Lib.hid hnb
              have HSKF := Lib.hid hsk
              clear c6' c7' f6' f7' c5' cx hnb hsk
              go_wp2_with (at_builtin; go_loud (refine wpList_push (E := Ty.int) _ rfl _ _ 62 2 rfl elInt rfl (HB1.out.below bA (by omega)) rfl news1 (fr_int hIk) (by omega) (by decide) (by omega) (by first | (simp; done) | (simp; omega)) ?_; intro v5 w5 hB5 hg5 hown; obtain ⟨a5, n5, c5, rfl⟩ := ex_slice (hB5.fr (by rw [List.length_append]; unfold capMax; simp only [List.length_singleton]; omega)); have i7 := (grown_cell' (i := 7) hg5 (show bs < _ by first | (simp; done) | (simp; omega)) HVB.out).trans ((cellB (bA (w := w1)) hbs1).trans d7); have im := (World.frozen?_of_block (a := ⟨bs, 7, none⟩) (hg5.block bs (by first | (simp; done) | (simp; omega)) (fun e => HVB.out e.symm))).trans ((frozenB (bA (w := w1)) hbs1).trans e7)); have i6 := (grown_cell' (i := 6) hg5 (show bs < _ by first | (simp; done) | (simp; omega)) HVB.out).trans ((cellB (bA (w := w1)) hbs1).trans d6); have i8 := (World.frozen?_of_block (a := ⟨bs, 6, none⟩) (hg5.block bs (by first | (simp; done) | (simp; omega)) (fun e => HVB.out e.symm))).trans ((frozenB (bA (w := w1)) hbs1).trans e6))
              have hla : (w1.alloc (.cells #[.int .i64 (k : Int)] 2)).heap.size = w1.heap.size + 1 := by simp
              have hown6 : (Value.slice a5 n5 c5).ownBlock = (Value.slice va' vals.length vc').ownBlock ∨ (Value.slice a5 n5 c5).ownBlock = some (w1.alloc (.cells #[.int .i64 (k : Int)] 2)).heap.size := hown
              have hg6 : (w1.alloc (.cells #[.int .i64 (k : Int)] 2)).grownBy w5 (Value.slice va' vals.length vc').ownBlock := hg5
              have hOWN : ∀ q, (Value.slice a5 n5 c5).ownBlock = some q → (Value.slice va' vals.length vc').ownBlock = some q ∨ w1.heap.size ≤ q := fun q hq => by
                rcases hown6 with h | h
                · exact .inl (by rw [← h]; exact hq)
                · rw [h] at hq
                  simp at hq
                  exact .inr (by omega)
              have HOWN := Lib.hid hOWN
              have hV5 : (Value.slice a5 n5 c5).ownBlock ≠ some bs := fun h => by
                rcases hOWN bs h with h | h
                · exact HVB.out h
                · omega
              have ht5 : TchP (fun q => (Value.slice va' vals.length vc').ownBlock = some q) w1 w5 := (TchP.of_below bA _).then (TchP.grown hg6 (fun q h => h)) (fun q _ h => h)
              have ht6 : TchP (fun q => q = bs ∨ (Value.slice va' vals.length vc').ownBlock = some q) w1 (w5.setCell ⟨bs, 7, none⟩ (.slice a5 n5 c5)) := (ht5.mono (fun q _ h => .inr h)).then (TchP.set (O := fun q => q = bs) rfl) (fun q _ h => .inl h)
              have HF6 : Hid (Fd ok (w5.setCell ⟨bs, 7, none⟩ (.slice a5 n5 c5)) bs t ar due fx) := (HF1.out.tchP ht5 (fun q _ hq h => by have := HBL.out.ge h; have := (HOK.out q hq).1; omega) HVB.out).set (by omega) HOB.out
              have HI6 : Hid (I rtold O' (w5.setCell ⟨bs, 7, none⟩ (.slice a5 n5 c5))) := HY.out.stable HI1.out (fun q hq ho => ht6.block q hq (fun h => by
                rcases h with h | h
                · exact HNB.out (h ▸ ho)
                · exact (HV2.out q h).1 ho)) ht6.size
              have HTB6 : Hid (Tb 2 base (w5.setCell ⟨bs, 7, none⟩ (.slice a5 n5 c5)) bs (rst + 1) (.slice a5 n5 c5) (vals ++ [(k : Int)])) := by
                refine ⟨(World.cell?_setCell_other _ _ _ _ (by simp)).trans ?_, World.cell?_setCell_same _ _ _ i7, (World.frozen?_setCell _ _ _ _).trans i8, (World.frozen?_setCell _ _ _ _).trans im, bl_int_same hB5 (fun b hb => Below.heap_setCell _ _ _ _ (fun e => hV5 (by rw [hb]; simp at e; rw [e]))) (by simp [World.setCell])⟩
                rw [i6]
                exact congrArg some (by go_num)
              have HT6 : Hid (TchP (fun q => O q ∨ q = bs ∨ (Value.slice va vals.length vc).ownBlock = some q) w (w5.setCell ⟨bs, 7, none⟩ (.slice a5 n5 c5))) := HT1.out.then ht6 (fun q hq h => by
                rcases h with h | h
                · exact .inr (.inl h)
                · rcases (HV2.out q h).2 with h | h
                  · exact .inr (.inr h)
                  · omega)
              have hz6 := ht6.size
              clear hB5 hg5 hown hg6 hown6 hOWN hV5 ht5 ht6 i6 i7 i8 im hla d6 d7 e6 e7
              generalize w5.setCell ⟨bs, 7, none⟩ (.slice a5 n5 c5) = w6 at *
              have hls : (vals ++ [(k : Int)]).length = vals.length + 1 := by simp
              have HLS := Lib.hid hls
              have HINK : Hid (∀ a ∈ vals ++ [(k : Int)], 0 ≤ a ∧ a ≤ t.1 - 1) := fun a ha => by
                rcases List.mem_append.1 ha with ha | ha
                · exact HIN.out a ha
                · rw [List.mem_singleton.1 ha]; omega
              have HRD6 : Hid (intsT.Rd w6 [.slice a5 n5 c5] (vals ++ [(k : Int)])) := (HTB6.out.2.2.2.2.fr (by unfold capMax; omega)).rd
              clear hls
              refine (fgoes_any w6 HF6.out HTB6.out.2.1 HRD6.out HT.out HD.out HINK.out (by have := HLS.out; omega) (by have := HLS.out; omega) (by omega) HD3.out).mono ?_
              rintro e w7 ⟨rfl, hb7⟩
              have hz7 := hb7.size
              have HF7 := Lib.hid (HF6.out.below hb7)
              have HTB7 := Lib.hid (HTB6.out.below HF6.out.1 hb7)
              have HI7 : Hid (I rtold O' w7) := HY.out.stable HI6.out (fun q hq _ => hb7.block q hq) hz7
              have HT7 : Hid (TchP (fun q => O q ∨ q = bs ∨ (Value.slice va vals.length vc).ownBlock = some q) w w7) := HT6.out.then (TchP.of_below hb7 (fun _ => False)) (fun q _ h => h.elim)
              cases hg : goesF t due (vals ++ [(k : Int)])
              · have HN : Hid (srchTo s (goesF t due) fx yc m vals (k + 1) (0, st, told) = (0, rst + 1, rtold)) := by unfold Hid; rw [HSC.out, step_no rfl HSKF.out hne6 hg]
                obtain ⟨hF8, hT8, hc8, rfl, g8, rfl⟩ := tb_cut HF7.out HTB7.out HOB.out hbb
                have HF8 := Lib.hid hF8
                have HTB8 := Lib.hid hT8
                have ht8 : TchP (fun q => q = bs) w7 (w7.setCell ⟨bs, 7, none⟩ (.slice (some ⟨g8, 0, none⟩) vals.length c5)) := TchP.set rfl
                have HI8 : Hid (I rtold O' (w7.setCell ⟨bs, 7, none⟩ (.slice (some ⟨g8, 0, none⟩) vals.length c5))) := HY.out.stable HI7.out (fun q hq ho => ht8.block q hq (fun e => HNB.out (e ▸ ho))) ht8.size
                have HT8 : Hid (TchP (fun q => O q ∨ q = bs ∨ (Value.slice va vals.length vc).ownBlock = some q) w (w7.setCell ⟨bs, 7, none⟩ (.slice (some ⟨g8, 0, none⟩) vals.length c5))) := HT7.out.then ht8 (fun q _ h => .inr (.inl h))
                obtain ⟨-, j7, -, j8, -⟩ := HTB7.out
                clear hF8 hT8 ht8 hg
                go_wp2_with fail
                go_roundw
                case rel => exact ⟨k + 1, _, O', by omega, by go_num, by rw [HN.out], HF8.out, by rw [HN.out]; exact HTB8.out, by rw [HN.out]; exact HI8.out, HO2.out, fun q hq => by
                    rcases HOWN.out q hq with h | h
                    · exact HV2.out q h
                    · exact ⟨fun ho => by have := HY.out.lt HI1.out q ho; omega, .inr (by omega)⟩, HT8.out⟩
                case measure => simp [intOf]; omega
              · have HN : Hid (srchTo s (goesF t due) fx yc m vals (k + 1) (0, st, told) = srch s (goesF t due) fx yc m (vals ++ [(k : Int)]) (0, rst + 1, rtold)) := by unfold Hid; rw [HSC.out, step_yes rfl HSKF.out hne6 hg]
                clear hg
                go_wp2_with fail
                refine (HIH.out w7 _ (vals ++ [(k : Int)]) (rst + 1) rtold O' (by have := HLS.out; omega) HINK.out HF7.out HTB7.out HI7.out (fun q hq ho => by
                    rcases HO2.out q ho with h | h
                    · exact HOO.out q hq h
                    · have := (HOK.out q hq).1; omega) HNB.out (fun q hq => by
                    rcases HOWN.out q hq with h | h
                    · exact (HV2.out q h).1
                    · exact fun ho => by have := HY.out.lt HI1.out q ho; omega) (by omega) (by omega) (by omega)).mono ?_
                rintro e w8 ⟨rfl, hSr⟩
                obtain ⟨v8, O8, hF8, hTb8, hI8, hO8, hv8, ht8⟩ := hSr
                have hz8 := ht8.size
                generalize srch s (goesF t due) fx yc m (vals ++ [(k : Int)]) (0, rst + 1, rtold) = R8 at *
                obtain ⟨rc8, st8, L8⟩ := R8
                simp only at hTb8 hI8
                obtain ⟨va8, vc8, rfl⟩ := rd_slice (hTb8.2.2.2.2.fr (by have := HLS.out; unfold capMax; omega)).rd
                obtain ⟨hF9, hT9, hc9, hn9, g9, rfl⟩ := tb_cut hF8 hTb8 HOB.out hbb
                have HF9 := Lib.hid hF9
                have HTB9 := Lib.hid hT9
                have HO8 := Lib.hid hO8
                have HV8 := Lib.hid hv8
                have hnb8 : ¬ O8 bs := fun h => by
                  rcases hO8 bs h with h | h
                  · exact HNB.out h
                  · omega
                have ht9 : TchP (fun q => q = bs) w8 (w8.setCell ⟨bs, 7, none⟩ (.slice (some ⟨g9, 0, none⟩) vals.length vc8)) := TchP.set rfl
                have HI9 : Hid (I L8 O8 (w8.setCell ⟨bs, 7, none⟩ (.slice (some ⟨g9, 0, none⟩) vals.length vc8))) := HY.out.stable hI8 (fun q hq ho => ht9.block q hq (fun e => hnb8 (e ▸ ho))) ht9.size
                have HT8 : Hid (TchP (fun q => O q ∨ q = bs ∨ (Value.slice va vals.length vc).ownBlock = some q) w w8) := HT7.out.then ht8 (fun q hq h => by
                  rcases h with h | h | h
                  · rcases HO2.out q h with h | h
                    · exact .inl h
                    · omega
                  · exact .inr (.inl h)
                  · rcases HOWN.out q h with h | h
                    · rcases (HV2.out q h).2 with h | h
                      · exact .inr (.inr h)
                      · omega
                    · omega)
                have HT9 : Hid (TchP (fun q => O q ∨ q = bs ∨ (Value.slice va vals.length vc).ownBlock = some q) w (w8.setCell ⟨bs, 7, none⟩ (.slice (some ⟨g9, 0, none⟩) vals.length vc8))) := HT8.out.then ht9 (fun q _ h => .inr (.inl h))
                have HO9 : Hid (∀ q, O8 q → O q ∨ w.heap.size ≤ q) := fun q hq => by
                  rcases hO8 q hq with h | h
                  · exact HO2.out q h
                  · exact .inr (by omega)
                have HV9 : Hid (∀ q, (Value.slice (some ⟨g9, 0, none⟩) vals.length vc8).ownBlock = some q → ¬ O8 q ∧ ((Value.slice va vals.length vc).ownBlock = some q ∨ w.heap.size ≤ q)) := fun q hq => by
                  obtain ⟨h1, h2⟩ := hv8 q hq
                  refine ⟨h1, ?_⟩
                  rcases h2 with h | h
                  · rcases HOWN.out q h with h | h
                    · exact (HV2.out q h).2
                    · exact .inr (by omega)
                  · exact .inr (by omega)
                obtain ⟨-, j7, -, j8, -⟩ := hTb8
                rw [HLS.out] at j7
                simp only []
                clear hF8 hI8 hO8 hv8 ht8 hF9 hT9 ht9 hnb8 hn9
                cases hc : (rc8 != 0)
                · have hc0 : rc8 = 0 := by simpa using hc
                  have HN2 : Hid (srchTo s (goesF t due) fx yc m vals (k + 1) (0, st, told) = (0, st8, L8)) := by unfold Hid; rw [HN.out, hc0]
                  clear hc0 HN
                  go_wp2_with fail
                  go_roundw
                  case rel => exact ⟨k + 1, _, O8, by omega, by go_num, by rw [HN2.out], HF9.out, by rw [HN2.out]; exact HTB9.out, by rw [HN2.out]; exact HI9.out, HO9.out, HV9.out, HT9.out⟩
                  case measure => simp [intOf]; omega
                · have hc0 : rc8 ≠ 0 := by simpa using hc
                  have HF7' : Hid (srchTo s (goesF t due) fx yc m vals s (0, st, told) = (rc8, st8, L8)) := by unfold Hid; rw [HST.out (by rw [HN.out]; exact hc0) hkl, HN.out]
                  clear hc0
                  go_wp2_with fail
                  go_ret
                  rw [HF7'.out]
                  exact ⟨rfl, SrR.mk _ O8 HF9.out HTB9.out HI9.out HO9.out HV9.out HT9.out⟩
            · have he6 : rst = 6000 := by have : (rst : Int) = 6000 := by simpa using hb
                                          omega
              have HN : Hid (srchTo s (goesF t due) fx yc m vals (k + 1) (0, st, told) = (7, rst, rtold)) := by unfold Hid; rw [HSC.out, step_bud rfl hsk he6]
              have HF7 : Hid (srchTo s (goesF t due) fx yc m vals s (0, st, told) = (7, rst, rtold)) := by unfold Hid; rw [HST.out (by rw [HN.out]; show (7 : Int) ≠ 0; decide) hkl, HN.out]
              clear hsk he6
              go_wp2_with fail
              go_ret
              rw [HF7.out]
              exact ⟨rfl, SrR.mk _ O' HF2.out HTB2.out HI2.out HO2.out HV2.out HTC.out⟩
          · have HN : Hid (srchTo s (goesF t due) fx yc m vals (k + 1) (0, st, told) = (0, rst, rtold)) := by unfold Hid; rw [HSC.out, step_skip hsk]
            clear hsk
            go_wp2_with fail
            go_roundw
            case rel => exact ⟨k + 1, _, O', by omega, by go_num, by rw [HN.out], HF2.out, by rw [HN.out]; exact HTB2.out, by rw [HN.out]; exact HI2.out, HO2.out, HV2.out, HTC.out⟩
            case measure => simp [intOf]; omega
        cases h1 : decide (0 ≤ x)
        · go_wp2_with fail
          go_meet
          case rel => exact ⟨by rw [HSK.out, h1]; rfl, rfl⟩
        · go_wp2_with fail
          go_meet
          case rel => exact ⟨by rw [HSK.out, h1]; rfl, rfl⟩
      · obtain rfl : k = s := by omega
        go_wp2_with fail
        go_ret
        rw [hR]
        exact ⟨ret_int HZ0.out.symm, SrR.mk v' O' HF2.out HTB2.out HI2.out HO2.out HV2.out HTC.out⟩
end Go.Proofs.Ytepebfpgmnidnaa
