/-
Contracts: values that are told to a search.
Plain: a polymorphism with given values. No program is named here.
Contracts: the first operation that a search finds.
Contracts: the first operation that a search finds for which a test is true, whatever the test.
Contracts: the first operation that a search finds for which a test is true: the function itself.
Contracts: the first polymorphism with given values, the program's.
Contracts: a polymorphism with given values, the program's.
Contracts: a polymorphism with given values, the program's, whole.
-/
import Derived.Test.YthjafhjghjbdmaaGreatQAJ
import Derived.Test.YthjafhjghjbdmaaGreatQBA
import Derived.Test.YthjafhjghjbdmaaGreatQAG
namespace Go.Proofs.YthjafhjghjbdmaaGreat
open Go.RowKit Go.Sort
/-- one value told; none if it was told otherwise -/
def tellAt (s : Int) (l : List Int) (v : Int) (f : List Int) : Option (List Int) := match decide (0 ≤ f.getD (idxL s 0 l).toNat 0) && (f.getD (idxL s 0 l).toNat 0 != v) with
  | true => none
  | false => some (f.set (idxL s 0 l).toNat v)
/-- the first k values told -/
def telK (s : Int) (ls : List (List Int)) (vs : List Int) (f : List Int) : Nat → Option (List Int)
  | 0 => some f
  | k + 1 => (telK s ls vs f k).bind (tellAt s (ls.getD k []) (vs.getD k 0))
section
variable {s : Int} {ls : List (List Int)} {vs f g : List Int} {k : Nat}
theorem telK_none (h : telK s ls vs f k = none) : ∀ {n}, k ≤ n → telK s ls vs f n = none := by
  intro n hn
  obtain ⟨d, rfl⟩ : ∃ d, n = k + d := ⟨n - k, by omega⟩
  induction d with
  | zero => exact h
  | succ d ih =>
    show (telK s ls vs f (k + d)).bind _ = none
    rw [ih (by omega)]
    rfl
theorem telK_no (h : telK s ls vs f k = some g) (hk : k < ls.length) (hv : k < vs.length) (h1 : (decide (0 ≤ g.getD (idxL s 0 ls[k]).toNat 0) && (g.getD (idxL s 0 ls[k]).toNat 0 != vs[k])) = true) : telK s ls vs f (k + 1) = none := by
  show (telK s ls vs f k).bind _ = none
  rw [h]
  show tellAt s (ls.getD k []) (vs.getD k 0) g = none
  rw [List.getD_eq_getElem?_getD, List.getD_eq_getElem?_getD, List.getElem?_eq_getElem hk, List.getElem?_eq_getElem hv]
  simp only [Option.getD_some, tellAt, h1]
theorem telK_yes (h : telK s ls vs f k = some g) (hk : k < ls.length) (hv : k < vs.length) (h1 : (decide (0 ≤ g.getD (idxL s 0 ls[k]).toNat 0) && (g.getD (idxL s 0 ls[k]).toNat 0 != vs[k])) = false) : telK s ls vs f (k + 1) = some (g.set (idxL s 0 ls[k]).toNat vs[k]) := by
  show (telK s ls vs f k).bind _ = _
  rw [h]
  show tellAt s (ls.getD k []) (vs.getD k 0) g = _
  rw [List.getD_eq_getElem?_getD, List.getD_eq_getElem?_getD, List.getElem?_eq_getElem hk, List.getElem?_eq_getElem hv]
  simp only [Option.getD_some, tellAt, h1]
theorem telK_ok (h : telK s ls vs f k = some g) (hf : ∀ a ∈ f, -1 ≤ a ∧ a ≤ s - 1) (hv : ∀ a ∈ vs, 0 ≤ a ∧ a ≤ s - 1) (hs : 1 ≤ s) : g.length = f.length ∧ ∀ a ∈ g, -1 ≤ a ∧ a ≤ s - 1 := by
  induction k generalizing g with
  | zero => cases h; exact ⟨rfl, hf⟩
  | succ k ih =>
    cases h0 : telK s ls vs f k with
    | none => rw [telK_none h0 (Nat.le_succ k)] at h; cases h
    | some q =>
      obtain ⟨i1, i2⟩ := ih h0
      have h' : tellAt s (ls.getD k []) (vs.getD k 0) q = some g := by
        have h9 : (telK s ls vs f k).bind (tellAt s (ls.getD k []) (vs.getD k 0)) = some g := h
        rw [h0] at h9
        exact h9
      unfold tellAt at h'
      split at h'
      · cases h'
      · cases h'
        refine ⟨by rw [List.length_set]; exact i1, fun a ha => ?_⟩
        rcases List.mem_or_eq_of_mem_set ha with ha | rfl
        · exact i2 a ha
        · rw [List.getD_eq_getElem?_getD]
          cases h3 : vs[k]? with
          | none => simp; omega
          | some b => have := hv b (List.mem_of_getElem? h3); simp; omega
end
set_option maxHeartbeats 3200000 in
set_option maxRecDepth 100000 in
theorem tell_any (w : World) {e base bs gt N : Nat} {s : Int} {fx : List Int} {v v' : Value} {ls : List (List Int)} {vs : List Int} (hbs : bs < w.heap.size) (c0 : w.cell? ⟨bs, 0, none⟩ = some (.int .i64 s)) (c5 : w.cell? ⟨bs, 5, none⟩ = some (.slice (some ⟨gt, 0, none⟩) N N)) (hI : IR e base w gt N N fx) (hne : gt ≠ bs) (hs : 1 ≤ s ∧ s ≤ 4)
    (hl : rowsT.RdP (fun k => k ≠ gt) w [v] ls) (hv : intsT.RdP (fun k => k ≠ gt) w [v'] vs) (hlen : ls.length = vs.length) (hin : ∀ l ∈ ls, l.length ≤ 3 ∧ (∀ a ∈ l, 0 ≤ a ∧ a ≤ s - 1) ∧ idxL s 0 l < N) (hvs : ∀ a ∈ vs, 0 ≤ a ∧ a ≤ s - 1) (hfx : ∀ a ∈ fx, -1 ≤ a ∧ a ≤ s - 1) (hL : ls.length ≤ 140737488351232) :
    Calls Tryz.prog 69 #[.pointer (some ⟨bs, 0, none⟩), v, v'] w fun en w' => en = .returned (.bool (telK s ls vs fx ls.length).isSome) ∧ TchP (fun k => k = gt) w w' ∧ ∀ f, telK s ls vs fx ls.length = some f → IR e base w' gt N N f := by
  have HL := Lib.hid hl
  have HV := Lib.hid hv
  have HI := Lib.hid hI
  have HIN := Lib.hid hin
  have HVS := Lib.hid hvs
  have HFX := Lib.hid hfx
  have HLEN := Lib.hid hlen
  obtain ⟨la, lc, hx, -, -, -⟩ := slice_exP hl
  obtain rfl : v = _ := by simpa using hx
  obtain ⟨va, vc, hx', -, -, -⟩ := slice_exP hv
  obtain rfl : v' = _ := by simpa using hx'
  have HC0 := Lib.hid c0
  have HC5 := Lib.hid c5
  have hnb : bs ≠ gt := fun h => hne h.symm
  clear hl hv hI hin hvs hfx hx hx' hlen c0 c5
  go_enter Tryz.func69, Tryz.ntmps69
  go_wp2_with fail
  go_loopw [12] (fun i wr => ∃ (k : Nat) (f : List Int), k ≤ ls.length ∧ i = .int .i64 k ∧ telK s ls vs fx k = some f ∧ IR e base wr gt N N f ∧ TchP (fun q => q = gt) w wr) (fun i _ => ls.length - (intOf i).toNat)
  case atStart => exact ⟨0, fx, Nat.zero_le _, rfl, rfl, HI.out, TchP.refl _ _⟩
  case round =>
    obtain ⟨k, f, hk, rfl, htk, hIf, ht⟩ := hrel
    have HTK := Lib.hid htk
    have HIF := Lib.hid hIf
    have HT := Lib.hid ht
    obtain ⟨hfl, hfb⟩ := telK_ok htk HFX.out HVS.out hs.1
    have hfN : f.length = N := hIf.1
    have hzr := ht.size
    have b0 := (ht.cell (i := 0) hbs hnb).trans HC0.out
    have b5 := (ht.cell (i := 5) hbs hnb).trans HC5.out
    obtain ⟨wv, rfl⟩ : ∃ wv : World, wv = wr := ⟨_, rfl⟩
    clear htk hIf ht
    by_cases hkl : k < ls.length
    · have hkv : k < vs.length := by rw [← HLEN.out]; exact hkl
      obtain ⟨_, _, hx, -, -, hxe⟩ := slice_exP (HL.out.tchP HT.out (fun q _ h e => h e))
      simp only [List.cons.injEq, Value.slice.injEq, and_true] at hx
      obtain ⟨rfl, -, rfl⟩ := hx
      obtain ⟨lb, lo, rfl, hlb, -, hce⟩ := hxe (by omega)
      obtain ⟨cs, hcs, hcell⟩ := hce k hkl
      obtain ⟨ka, kc, rfl, -, -, -⟩ := slice_exP hcs
      have d0 : wv.cell? ⟨lb, lo + k, none⟩ = some (.slice ka ls[k].length kc) := by
        have := hcell 0 (by simp)
        simpa [Ty.slice] using this
      obtain ⟨_, _, hx, -, -, hxe'⟩ := slice_exP (HV.out.tchP HT.out (fun q _ h e => h e))
      simp only [List.cons.injEq, Value.slice.injEq, and_true] at hx
      obtain ⟨rfl, -, rfl⟩ := hx
      obtain ⟨vb, vo, rfl, hvb, hvg, hce'⟩ := hxe' (by omega)
      obtain ⟨cs', ⟨fp', ⟨rfl, hIv, -⟩, -⟩, hcell'⟩ := hce' k hkv
      have d1 : wv.cell? ⟨vb, vo + k, none⟩ = some (.int .i64 vs[k]) := by
        have := hcell' 0 (by simp)
        simpa [Ty.int] using this
      obtain ⟨i1, i2, i3⟩ := HIN.out ls[k] (List.getElem_mem hkl)
      have HRD := Lib.hid hcs.rd
      have hi0 := (idx_bd hs.1 i2 ls[k].length (Nat.le_refl _)).1
      rw [List.take_length] at hi0
      have HI2 := Lib.hid i2
      have HYES := Lib.hid (fun h => telK_yes (s := s) HTK.out hkl hkv h)
      have HNO := Lib.hid (fun h => telK_no (s := s) HTK.out hkl hkv h)
      have hvk := HVS.out vs[k] (List.getElem_mem hkv)
      rw [HLEN.out] at *
      clear hxe hce hcell hxe' hce' hcell' hcs i2
      go_wp2_with fail
      refine (indexOf_any _ s HRD.out hs.1 (by omega) (by omega) HI2.out).mono ?_
      rintro e' _ ⟨rfl, rfl⟩
      obtain ⟨q, hq⟩ : ∃ q : Nat, idxL s 0 ls[k] = q := ⟨_, (Int.toNat_of_nonneg hi0).symm⟩
      rw [hq] at i3 HYES HNO ⊢
      have hqN : q < N := by omega
      have hqf : q < f.length := by omega
      have dq : wv.cell? ⟨gt, q, none⟩ = some (.int .i64 f[q]) := by
        rw [World.ownsRow.cellAt HIF.out.2.2.2 q (by omega), List.getElem?_map, List.getElem?_eq_getElem hqf]
        rfl
      have fq := HIF.out.free q
      have hgd : f.getD q 0 = f[q] := by rw [List.getD_eq_getElem?_getD, List.getElem?_eq_getElem hqf]; rfl
      rw [Int.toNat_natCast, hgd] at HYES HNO
      have hgl := HIF.out.lt
      generalize hfq : f[q] = y at *
      generalize hvq : vs[k] = z at *
      clear hq hgd hfq hvq hi0
      go_wp2_with fail
      cases hd : decide (0 ≤ y)
      · have HE := Lib.hid (HYES.out (by rw [hd]; rfl))
        go_quiet (fail)
        go_wp2_with fail
        generalize hW : wv.drewN _ = wx
        have hbx : Below wv.heap.size wv wx := hW ▸ (Quiet.drewN wv _).below
        clear hW
        have hgx : gt < wx.heap.size := Nat.lt_of_lt_of_le hgl hbx.size
        have b5x := (cellB hbx (show bs < wv.heap.size by omega)).trans b5
        have d1x := (cellB hbx hvb).trans d1
        have dqx := (cellB hbx hgl).trans dq
        have fqx := (frozenB hbx hgl).trans fq
        have HIX : Hid (IR e base wx gt N N f) := HIF.out.same (hbx.block gt hgl)
        have HTX : Hid (TchP (fun q => q = gt) w wx) := HT.out.then (TchP.of_below hbx (fun q => q = gt)) (fun q _ h => h)
        clear b0 b5 d0 d1 dq fq
        refine wp_region_T (fun w' => w'.cell? ⟨bs, 5, none⟩ = some (.slice (some ⟨gt, 0, none⟩) N N) ∧ w'.cell? ⟨vb, vo + k, none⟩ = some (.int .i64 z)) [10] (by kernel_rfl) ⟨b5x, d1x⟩ (fun hHeld => ?_)
        refine wpAnyT_take (i := 0) (v := ?_) rfl (by kernel_rfl) (fun _ _ _ h => h) (Or.inl ⟨by rfl, ?_⟩) (by assumption) ?_
        rotate_left
        · (intro w hSw; (try dsimp only at hSw); go_simp <;> with_reducible rfl)
        go_simp
        refine wpAnyT_take (i := 1) (v := ?_) rfl (by kernel_rfl) (fun _ _ _ h => h) (Or.inl ⟨by rfl, ?_⟩) (by assumption) ?_
        rotate_left
        · (intro w hSw; (try dsimp only at hSw); go_simp <;> with_reducible rfl)
        go_simp
        refine wpAnyT_take (i := 2) (v := ?_) rfl (by kernel_rfl) (fun _ _ _ h => h) (Or.inl ⟨by rfl, ?_⟩) (by assumption) ?_
        rotate_left
        · (intro w hSw; (try dsimp only at hSw); go_simp <;> with_reducible rfl)
        go_simp
        refine wpAnyT_take (i := 3) (v := ?_) rfl (by kernel_rfl) (fun _ _ _ h => h) (Or.inl ⟨by rfl, ?_⟩) (by assumption) ?_
        rotate_left
        · (intro w hSw; (try dsimp only at hSw); go_simp <;> with_reducible rfl)
        go_simp
        refine wpAnyT_take (i := 4) (v := ?_) rfl (by kernel_rfl) (fun _ _ _ h => h) (Or.inl ⟨by rfl, ?_⟩) (by assumption) ?_
        rotate_left
        · (intro w hSw; (try dsimp only at hSw); go_simp <;> with_reducible rfl)
        go_simp
        refine wpAnyT_take (i := 5) (v := ?_) rfl (by kernel_rfl) (fun _ _ _ h => h) (Or.inl ⟨by rfl, ?_⟩) (by assumption) ?_
        rotate_left
        · (intro w hSw; (try dsimp only at hSw); go_simp <;> with_reducible rfl)
        go_simp
        refine wpAnyT_take (i := 6) (v := ?_) rfl (by kernel_rfl) (fun _ _ _ h => h) (Or.inl ⟨by rfl, ?_⟩) (by assumption) ?_
        rotate_left
        · (intro w hSw; (try dsimp only at hSw); go_simp <;> with_reducible rfl)
        go_simp
        refine wpAnyT_take (i := 7) (v := ?_) rfl (by kernel_rfl) (fun _ _ _ h => h) (Or.inl ⟨by rfl, ?_⟩) (by assumption) ?_
        rotate_left
        · (intro w hSw; (try dsimp only at hSw); go_simp <;> with_reducible rfl)
        go_simp
        refine wpAnyT_take (i := 8) (v := ?_) rfl (by kernel_rfl) (fun _ _ _ h => h) (Or.inl ⟨by rfl, ?_⟩) (by assumption) ?_
        rotate_left
        · (intro w hSw; (try dsimp only at hSw); go_simp <;> with_reducible rfl)
        go_simp
        refine wpAnyT_take (i := 9) (v := ?_) rfl (by kernel_rfl) (fun _ _ _ h => h) (Or.inl ⟨by rfl, ?_⟩) (by assumption) ?_
        rotate_left
        · (intro w hSw; (try dsimp only at hSw); go_simp <;> with_reducible rfl)
        go_simp
        refine wpAnyT_last (i := 10) rfl (by kernel_rfl) (by kernel_rfl) (fun K hK => ?_)
        go_simp
        have hz6 : gt < (wx.setCell ⟨gt, q, none⟩ (.int .i64 z)).heap.size := by simpa [World.setCell] using hgx
        have HI5 : Hid (IR e base (wx.setCell ⟨gt, q, none⟩ (.int .i64 z)).drew gt N N (f.set q z)) := (HIX.out.set q hIv).same (bD.block gt hz6)
        have HT5 : Hid (TchP (fun q => q = gt) w (wx.setCell ⟨gt, q, none⟩ (.int .i64 z)).drew) := (HTX.out.then (TchP.set (O := fun q => q = gt) rfl) (fun q _ h => h)).then (TchP.of_below bD (fun q => q = gt)) (fun q _ h => h)
        generalize (wx.setCell ⟨gt, q, none⟩ (.int .i64 z)).drew = w5 at *
        refine hK.out _ _ ?_
        clear hK K
        refine wpAnyT_done (by kernel_rfl) ?_ _
        go_simp
        go_wp2_with fail
        go_roundw
        case rel => exact ⟨k + 1, f.set q z, by omega, by go_num, HE.out, HI5.out, HT5.out⟩
        case measure => simp [intOf]; omega
      · cases hn : (y != z)
        · have HE := Lib.hid (HYES.out (by rw [hd, hn]; rfl))
          go_quiet (fail)
          go_wp2_with fail
          generalize hW : wv.drewN _ = wx
          have hbx : Below wv.heap.size wv wx := hW ▸ (Quiet.drewN wv _).below
          clear hW
          have hgx : gt < wx.heap.size := Nat.lt_of_lt_of_le hgl hbx.size
          have b5x := (cellB hbx (show bs < wv.heap.size by omega)).trans b5
          have d1x := (cellB hbx hvb).trans d1
          have dqx := (cellB hbx hgl).trans dq
          have fqx := (frozenB hbx hgl).trans fq
          have HIX : Hid (IR e base wx gt N N f) := HIF.out.same (hbx.block gt hgl)
          have HTX : Hid (TchP (fun q => q = gt) w wx) := HT.out.then (TchP.of_below hbx (fun q => q = gt)) (fun q _ h => h)
          clear b0 b5 d0 d1 dq fq
          refine wp_region_T (fun w' => w'.cell? ⟨bs, 5, none⟩ = some (.slice (some ⟨gt, 0, none⟩) N N) ∧ w'.cell? ⟨vb, vo + k, none⟩ = some (.int .i64 z)) [10] (by kernel_rfl) ⟨b5x, d1x⟩ (fun hHeld => ?_)
          refine wpAnyT_take (i := 0) (v := ?_) rfl (by kernel_rfl) (fun _ _ _ h => h) (Or.inl ⟨by rfl, ?_⟩) (by assumption) ?_
          rotate_left
          · (intro w hSw; (try dsimp only at hSw); go_simp <;> with_reducible rfl)
          go_simp
          refine wpAnyT_take (i := 1) (v := ?_) rfl (by kernel_rfl) (fun _ _ _ h => h) (Or.inl ⟨by rfl, ?_⟩) (by assumption) ?_
          rotate_left
          · (intro w hSw; (try dsimp only at hSw); go_simp <;> with_reducible rfl)
          go_simp
          refine wpAnyT_take (i := 2) (v := ?_) rfl (by kernel_rfl) (fun _ _ _ h => h) (Or.inl ⟨by rfl, ?_⟩) (by assumption) ?_
          rotate_left
          · (intro w hSw; (try dsimp only at hSw); go_simp <;> with_reducible rfl)
          go_simp
          refine wpAnyT_take (i := 3) (v := ?_) rfl (by kernel_rfl) (fun _ _ _ h => h) (Or.inl ⟨by rfl, ?_⟩) (by assumption) ?_
          rotate_left
          · (intro w hSw; (try dsimp only at hSw); go_simp <;> with_reducible rfl)
          go_simp
          refine wpAnyT_take (i := 4) (v := ?_) rfl (by kernel_rfl) (fun _ _ _ h => h) (Or.inl ⟨by rfl, ?_⟩) (by assumption) ?_
          rotate_left
          · (intro w hSw; (try dsimp only at hSw); go_simp <;> with_reducible rfl)
          go_simp
          refine wpAnyT_take (i := 5) (v := ?_) rfl (by kernel_rfl) (fun _ _ _ h => h) (Or.inl ⟨by rfl, ?_⟩) (by assumption) ?_
          rotate_left
          · (intro w hSw; (try dsimp only at hSw); go_simp <;> with_reducible rfl)
          go_simp
          refine wpAnyT_take (i := 6) (v := ?_) rfl (by kernel_rfl) (fun _ _ _ h => h) (Or.inl ⟨by rfl, ?_⟩) (by assumption) ?_
          rotate_left
          · (intro w hSw; (try dsimp only at hSw); go_simp <;> with_reducible rfl)
          go_simp
          refine wpAnyT_take (i := 7) (v := ?_) rfl (by kernel_rfl) (fun _ _ _ h => h) (Or.inl ⟨by rfl, ?_⟩) (by assumption) ?_
          rotate_left
          · (intro w hSw; (try dsimp only at hSw); go_simp <;> with_reducible rfl)
          go_simp
          refine wpAnyT_take (i := 8) (v := ?_) rfl (by kernel_rfl) (fun _ _ _ h => h) (Or.inl ⟨by rfl, ?_⟩) (by assumption) ?_
          rotate_left
          · (intro w hSw; (try dsimp only at hSw); go_simp <;> with_reducible rfl)
          go_simp
          refine wpAnyT_take (i := 9) (v := ?_) rfl (by kernel_rfl) (fun _ _ _ h => h) (Or.inl ⟨by rfl, ?_⟩) (by assumption) ?_
          rotate_left
          · (intro w hSw; (try dsimp only at hSw); go_simp <;> with_reducible rfl)
          go_simp
          refine wpAnyT_last (i := 10) rfl (by kernel_rfl) (by kernel_rfl) (fun K hK => ?_)
          go_simp
          have hz6 : gt < (wx.setCell ⟨gt, q, none⟩ (.int .i64 z)).heap.size := by simpa [World.setCell] using hgx
          have HI5 : Hid (IR e base (wx.setCell ⟨gt, q, none⟩ (.int .i64 z)).drew gt N N (f.set q z)) := (HIX.out.set q hIv).same (bD.block gt hz6)
          have HT5 : Hid (TchP (fun q => q = gt) w (wx.setCell ⟨gt, q, none⟩ (.int .i64 z)).drew) := (HTX.out.then (TchP.set (O := fun q => q = gt) rfl) (fun q _ h => h)).then (TchP.of_below bD (fun q => q = gt)) (fun q _ h => h)
          generalize (wx.setCell ⟨gt, q, none⟩ (.int .i64 z)).drew = w5 at *
          refine hK.out _ _ ?_
          clear hK K
          refine wpAnyT_done (by kernel_rfl) ?_ _
          go_simp
          go_wp2_with fail
          go_roundw
          case rel => exact ⟨k + 1, f.set q z, by omega, by go_num, HE.out, HI5.out, HT5.out⟩
          case measure => simp [intOf]; omega
        · have HE := Lib.hid (HNO.out (by rw [hd, hn]; rfl))
          go_quiet (fail)
          go_wp2_with fail
          go_ret
          have hno : telK s ls vs fx ls.length = none := telK_none HE.out (by omega)
          rw [hno]
          exact ⟨rfl, HT.out.then (TchP.of_below (Quiet.drewN wv _).below (fun q => q = gt)) (fun q _ h => h), fun g hg => by cases hg⟩
    · obtain rfl : k = ls.length := by omega
      have hnl : ¬ (ls.length < ls.length) := by omega
      go_wp2_with fail
      go_ret
      rw [HTK.out]
      exact ⟨rfl, HT.out, fun g hg => by cases hg; exact HIF.out⟩
/-- the reference's told values laid in -/
theorem Ru.setF {ok : Nat → Prop} {w : World} {br : Nat} {t : Tpl} {ar : Int} {due : List (List (Int × List Int))} {fx fx' : List Int} {u : Value} (h : Ru ok w br t ar due fx) (hO : ¬ ok br) (hv : intsT.RdP ok w [u] fx') : Ru ok (w.setCell ⟨br, 4, none⟩ u) br t ar due fx' := by
  obtain ⟨h1, tb, tq, v2, v3, v4, c0, htb, hk, ct, c1, c2, c3, c4, h3, h4, h5⟩ := h
  have hs : TchP (fun k => k = br) w (w.setCell ⟨br, 4, none⟩ u) := TchP.set rfl
  have hkk : ∀ k, k < w.heap.size → ok k → ¬ (k = br) := fun k _ hk e => hO (e ▸ hk)
  have hc : ∀ j, j ≠ 4 → (w.setCell ⟨br, 4, none⟩ u).cell? ⟨br, j, none⟩ = w.cell? ⟨br, j, none⟩ := fun _ hj => World.cell?_setCell_other _ _ _ _ (fun e => hj (congrArg Addr.off e.symm))
  exact ⟨by simpa [World.setCell] using h1, tb, tq, v2, v3, u, (hc 0 (by omega)).trans c0, by simpa [World.setCell] using htb, hk, (hs.cell htb (hkk tb htb hk)).trans ct, (hc 1 (by omega)).trans c1, (hc 2 (by omega)).trans c2, (hc 3 (by omega)).trans c3, World.cell?_setCell_same _ _ _ c4, h3.tchP hs hkk, h4.tchP hs hkk, hv.tchP hs hkk⟩
theorem Mc.setF {e base : Nat} {w : World} {br gt N : Nat} {T : List Int} {st : Nat} {bg : Bool} {u : Value} (h : Mc e base w br gt N T st bg) (hne : gt ≠ br) : Mc e base (w.setCell ⟨br, 4, none⟩ u) br gt N T st bg := by
  obtain ⟨h0, c5, hi, c6, c7, f6, f7⟩ := h
  have hc : ∀ j, j ≠ 4 → (w.setCell ⟨br, 4, none⟩ u).cell? ⟨br, j, none⟩ = w.cell? ⟨br, j, none⟩ := fun _ hj => World.cell?_setCell_other _ _ _ _ (fun e => hj (congrArg Addr.off e.symm))
  exact ⟨by simpa [World.setCell] using h0, (hc 5 (by omega)).trans c5, hi.same (Below.heap_setCell _ _ _ _ (by simpa using hne)), (hc 6 (by omega)).trans c6, (hc 7 (by omega)).trans c7, (World.frozen?_setCell _ _ _ _).trans f6, (World.frozen?_setCell _ _ _ _).trans f7⟩
end Go.Proofs.YthjafhjghjbdmaaGreat
namespace Go.Proofs.YthjafhjghjbdmaaGreat
open Go.RowKit Go.Sort
/-- lists and values that may be told -/
noncomputable def wOk (t : Tpl) (ar : Int) (ls : List (List Int)) (vs : List Int) : Bool := tb (rowOk t.1 ls.length vs) && ls.all fun l => tb (rowOk t.1 ar l)
/-- what is told, in all -/
noncomputable def wF (t : Tpl) (ar : Int) (ls : List (List Int)) (vs : List Int) : Option (List Int) := telK t.1 ls vs (List.replicate (tabL t ar) (-1)) ls.length
/-- the search behind it -/
noncomputable def wR (t : Tpl) (ar : Int) (ls : List (List Int)) (vs : List Int) : FR := polyF t ar ((wF t ar ls vs).getD []) fun _ => -1
noncomputable def pwC (t : Tpl) (ar : Int) (ls : List (List Int)) (vs : List Int) : Int :=
  match askC t ar == 0, wOk t ar ls vs, (wF t ar ls vs).isSome, limF t ar.toNat with
  | false, _, _, _ => askC t ar
  | true, false, _, _ => 2
  | true, true, false, _ => 4
  | true, true, true, true => 3
  | true, true, true, false => if (wR t ar ls vs).1 = -1 then 0 else if (wR t ar ls vs).1 = 0 then 6 else (wR t ar ls vs).1
noncomputable def pwV (t : Tpl) (ar : Int) (ls : List (List Int)) (vs : List Int) : Int × List Int :=
  match askC t ar == 0, wOk t ar ls vs, (wF t ar ls vs).isSome, limF t ar.toNat, (wR t ar ls vs).1 == -1 with
  | true, true, true, false, true => (ar, (wR t ar ls vs).2.2.getLastD [])
  | _, _, _, _, _ => (0, [])
section
variable {t : Tpl} {ar : Int} {ls : List (List Int)} {vs : List Int}
theorem pw_ask (h : askC t ar ≠ 0) : pwV t ar ls vs = (0, []) ∧ pwC t ar ls vs = askC t ar := by
  have : (askC t ar == 0) = false := by simpa using h
  simp [pwV, pwC, this]
theorem pw_bad (h : askC t ar = 0) (h1 : wOk t ar ls vs = false) : pwV t ar ls vs = (0, []) ∧ pwC t ar ls vs = 2 := by simp [pwV, pwC, h, h1]
theorem pw_st (h : askC t ar = 0) (h1 : wOk t ar ls vs = true) (h2 : wF t ar ls vs = none) : pwV t ar ls vs = (0, []) ∧ pwC t ar ls vs = 4 := by simp [pwV, pwC, h, h1, h2]
theorem pw_lim {f : List Int} (h : askC t ar = 0) (h1 : wOk t ar ls vs = true) (h2 : wF t ar ls vs = some f) (h3 : limF t ar.toNat = true) : pwV t ar ls vs = (0, []) ∧ pwC t ar ls vs = 3 := by simp [pwV, pwC, h, h1, h2, h3]
theorem pw_yes {f : List Int} (h : askC t ar = 0) (h1 : wOk t ar ls vs = true) (h2 : wF t ar ls vs = some f) (h3 : limF t ar.toNat = false) (h4 : (polyF t ar f fun _ => -1).1 = -1) : pwV t ar ls vs = (ar, (polyF t ar f fun _ => -1).2.2.getLastD []) ∧ pwC t ar ls vs = 0 := by
  have e : wR t ar ls vs = polyF t ar f fun _ => -1 := by unfold wR; rw [h2]; rfl
  simp [pwV, pwC, h, h1, h2, h3, e, h4]
theorem pw_non {f : List Int} (h : askC t ar = 0) (h1 : wOk t ar ls vs = true) (h2 : wF t ar ls vs = some f) (h3 : limF t ar.toNat = false) (h4 : (polyF t ar f fun _ => -1).1 = 0) : pwV t ar ls vs = (0, []) ∧ pwC t ar ls vs = 6 := by
  have e : wR t ar ls vs = polyF t ar f fun _ => -1 := by unfold wR; rw [h2]; rfl
  simp [pwV, pwC, h, h1, h2, h3, e, h4]
theorem pw_err {f : List Int} (h : askC t ar = 0) (h1 : wOk t ar ls vs = true) (h2 : wF t ar ls vs = some f) (h3 : limF t ar.toNat = false) (h4 : (polyF t ar f fun _ => -1).1 ≠ -1) (h5 : (polyF t ar f fun _ => -1).1 ≠ 0) : pwV t ar ls vs = (0, []) ∧ pwC t ar ls vs = (polyF t ar f fun _ => -1).1 := by
  have e : wR t ar ls vs = polyF t ar f fun _ => -1 := by unfold wR; rw [h2]; rfl
  simp [pwV, pwC, h, h1, h2, h3, e, h4, h5]
end
end Go.Proofs.YthjafhjghjbdmaaGreat
namespace Go.Proofs.YthjafhjghjbdmaaGreat
open Go.RowKit Go.Sort
theorem pwTrue_any (w : World) {cs : Array Value} {x : Int × List Int} (h : opT.Rd w cs.toList x) :
    Calls Tryz.prog 154 #[.agg cs] w fun e w' => e = .returned (.bool true) ∧ Below w.heap.size w w' := by
  obtain ⟨v1, hv, -, -⟩ := pair_ex h
  obtain rfl := agg_of hv
  clear h hv
  go_enter Tryz.func154, Tryz.ntmps154
  go_wp2_with fail
  go_ret
  exact ⟨rfl, bA⟩
/-- what the listener keeps: the operation told last, in box ob; the test's box ib -/
def oneF (ar : Int) (F : Value) (ib ob base : Nat) (told : List (List Int)) (O : Nat → Prop) (w : World) : Prop :=
  (∀ k, O k → k < w.heap.size ∧ base ≤ k) ∧ O ib ∧ O ob ∧ ib ≠ ob ∧ w.cell? ⟨ib, 0, none⟩ = some F ∧ w.frozen? ⟨ob, 0, none⟩ = false ∧ w.frozen? ⟨ob, 1, none⟩ = false ∧ ∃ n u, w.cell? ⟨ob, 0, none⟩ = some (.int .i64 n) ∧ w.cell? ⟨ob, 1, none⟩ = some u ∧ (told ≠ [] → n = ar ∧ (intsT.on fun k => O k ∧ k ≠ ob).Fr base w [u] (told.getLastD []))
theorem oneF.stable {ar : Int} {F : Value} {ib ob base : Nat} {told : List (List Int)} {O : Nat → Prop} {w w' : World} (h : oneF ar F ib ob base told O w) (hs : ∀ k, k < w.heap.size → O k → w'.heap[k]? = w.heap[k]?) (hz : w.heap.size ≤ w'.heap.size) : oneF ar F ib ob base told O w' := by
  obtain ⟨h1, h2, h3, h4, c0, f0, f1, n, u, d0, d1, h5⟩ := h
  have hi := hs ib (h1 ib h2).1 h2
  have ho := hs ob (h1 ob h3).1 h3
  refine ⟨fun k hk => ⟨Nat.lt_of_lt_of_le (h1 k hk).1 hz, (h1 k hk).2⟩, h2, h3, h4, (World.cell?_of_block (a := ⟨ib, 0, none⟩) hi).trans c0, (World.frozen?_of_block (a := ⟨ob, 0, none⟩) ho).trans f0, (World.frozen?_of_block (a := ⟨ob, 1, none⟩) ho).trans f1, n, u, (World.cell?_of_block (a := ⟨ob, 0, none⟩) ho).trans d0, (World.cell?_of_block (a := ⟨ob, 1, none⟩) ho).trans d1, fun ht => ?_⟩
  obtain ⟨e1, fp, ⟨g1, g2⟩, g3, g4, g5⟩ := h5 ht
  have hS : ∀ k ∈ fp, w'.heap[k]? = w.heap[k]? := fun k hk => hs k (intsT.lt g1 k hk) (g2 k hk).1
  exact ⟨e1, fp, ⟨intsT.same g1 hS, g2⟩, g3, g4, g5.same hS⟩
set_option maxHeartbeats 1600000 in
theorem first1_yf {ar : Int} (har : 1 ≤ ar ∧ ar ≤ 3) (ib ob base : Nat) : Yf Tryz.prog ar 131 #[.pointer (some ⟨ib, 0, none⟩), .pointer (some ⟨ob, 0, none⟩)] (fun _ => -1) (oneF ar (.func (.func 154) #[] #[]) ib ob base) := by
  refine ⟨fun h hs hz => h.stable hs hz, fun h k hk => (h.1 k hk).1, ?_⟩
  rintro told O w0 w u x hI hb hf - hln
  obtain ⟨ua, uc, rfl⟩ := fr_slice hf
  have hI' := hI.stable (fun k hk _ => hb.block k hk) hb.size
  obtain ⟨h1, h2, h3, h4, c0, f0, f1, n, u', d0, d1, -⟩ := hI'
  have hil := (h1 ib h2).1
  have hol := (h1 ob h3).1
  have hob := (h1 ob h3).2
  have hol0 := (hI.1 ob h3).1
  have hIa : I64 ar := I64.small (by omega) (by omega)
  have HF := Lib.hid hf
  have H1 := Lib.hid h1
  have hz0 := hb.size
  have HIa := Lib.hid hIa
  clear hI hf h1 hIa
  show Calls Tryz.prog 131 #[.agg #[.int .i64 ar, .slice ua x.length uc], .pointer (some ⟨ib, 0, none⟩), .pointer (some ⟨ob, 0, none⟩)] w _
  go_enter Tryz.func131, Tryz.ntmps131
  go_wp2_with fail
  refine (pwTrue_any _ (x := (ar, x)) (fr_cons HIa.out (HF.out.below bA)).rd).mono ?_
  rintro e w1 ⟨rfl, hb1⟩
  have hbb : Below w.heap.size w w1 := bthen bA hb1
  have hz1 := hbb.size
  have p0 : w1.cell? ⟨w.heap.size, 0, none⟩ = some (.int .i64 ar) := (cellB hb1 (by simp)).trans (by simp)
  have p1 : w1.cell? ⟨w.heap.size, 1, none⟩ = some (.slice ua x.length uc) := (cellB hb1 (by simp)).trans (by simp)
  have c01 := (cellB hbb hil).trans c0
  have d01 := (cellB hbb hol).trans d0
  have d11 := (cellB hbb hol).trans d1
  have f01 := (frozenB hbb hol).trans f0
  have f11 := (frozenB hbb hol).trans f1
  have hpl : w.heap.size < w1.heap.size := by have := hb1.size; simp at this; omega
  have HFX : Hid (intsT.Fr w0.heap.size w1 [.slice ua x.length uc] x) := HF.out.below hbb
  clear c0 d0 d1 f0 f1
  go_wp2_with fail
  go_ret
  have ht : TchP O w ((w1.setCell ⟨ob, 0, none⟩ (.int .i64 ar)).setCell ⟨ob, 1, none⟩ (.slice ua x.length uc)) := ((TchP.of_below hbb O).then (TchP.set (O := O) h3) (fun k _ h => h)).then (TchP.set (O := O) h3) (fun k _ h => h)
  refine ⟨rfl, fun k => (O k ∨ w0.heap.size ≤ k) ∧ k < w1.heap.size, ⟨fun k hk => ⟨by simpa [World.setCell] using hk.2, ?_⟩, ⟨.inl h2, by omega⟩, ⟨.inl h3, by omega⟩, h4, ?_, (World.frozen?_setCell _ _ _ _).trans ((World.frozen?_setCell _ _ _ _).trans f01), (World.frozen?_setCell _ _ _ _).trans ((World.frozen?_setCell _ _ _ _).trans f11), ar, _, (World.cell?_setCell_other _ _ _ _ (by simp)).trans (World.cell?_setCell_same _ _ _ d01), World.cell?_setCell_same _ _ _ ((World.cell?_setCell_other _ _ _ _ (by simp)).trans d11), fun _ => ⟨rfl, ?_⟩⟩, ht, fun k hk => hk.1⟩
  · rcases hk.1 with h | h
    · exact (H1.out k h).2
    · omega
  · exact (World.cell?_setCell_other _ _ _ _ (fun e => h4 (congrArg Addr.block e).symm)).trans ((World.cell?_setCell_other _ _ _ _ (fun e => h4 (congrArg Addr.block e).symm)).trans c01)
  · rw [List.getLastD_concat]
    have h9 := (HFX.out.set (a := ⟨ob, 0, none⟩) (u := .int .i64 ar) hol0).set (a := ⟨ob, 1, none⟩) (u := .slice ua x.length uc) hol0
    exact (fr_on (h9.mono (show w0.heap.size ≤ w0.heap.size from Nat.le_refl _)) (fun k hk hl => ⟨⟨.inr hk, by simpa [World.setCell] using hl⟩, by omega⟩)).mono (by omega)
theorem srch_m1 {s : Nat} {okT : List Int → Bool} {fx : List Int} {yc : List (List Int) → Int} : ∀ (m : Nat) (vals : List Int) (r : FR), (r.1 = -1 → r.2.2 ≠ []) → (srch s okT fx yc m vals r).1 = -1 → (srch s okT fx yc m vals r).2.2 ≠ []
  | 0, vals, r, _, _ => by show r.2.2 ++ [vals] ≠ []; simp
  | m + 1, vals, r, hr, h => by
    have key : ∀ (l : List Nat) (q : FR), (q.1 = -1 → q.2.2 ≠ []) → (l.foldl (stepA (srch s okT fx yc m) okT fx vals) q).1 = -1 → (l.foldl (stepA (srch s okT fx yc m) okT fx vals) q).2.2 ≠ [] := by
      intro l
      induction l with
      | nil => exact fun q h => h
      | cons a l ih =>
        intro q hq
        rw [List.foldl_cons]
        refine ih _ ?_
        by_cases h0 : q.1 = 0
        · cases h1 : skipB fx vals.length a
          · by_cases h2 : q.2.1 = 6000
            · rw [step_bud h0 h1 h2]; intro h7; exact absurd h7 (by show ¬ (7 : Int) = -1; decide)
            · cases h3 : okT (vals ++ [(a : Int)])
              · rw [step_no h0 h1 h2 h3]; intro h7; exact absurd h7 (by show ¬ (0 : Int) = -1; decide)
              · rw [step_yes h0 h1 h2 h3]; exact srch_m1 m _ _ (fun h7 => absurd h7 (by show ¬ (0 : Int) = -1; decide))
          · rw [step_skip h1]; exact hq
        · rw [step_stop h0]; exact hq
    exact key _ r hr h
theorem on_fr_set {α : Type} {E : Ty α} {O : Nat → Prop} {base : Nat} {w : World} {cs : List Value} {x : α} {a : Addr} {u : Value} (h : (E.on O).Fr base w cs x) (ha : ¬ O a.block) : (E.on O).Fr base (w.setCell a u) cs x :=
  let ⟨fp, h1, h2, h3, h4⟩ := h
  have hS : ∀ k ∈ fp, (w.setCell a u).heap[k]? = w.heap[k]? := fun k hk => Below.heap_setCell _ _ _ _ (fun e => ha (e ▸ h1.2 k hk))
  ⟨fp, ⟨E.same h1.1 hS, h1.2⟩, h2, h3, h4.same hS⟩
/-- what the first operation is, from where the search ends -/
def foV (ar : Int) (R : FR) : Int × List Int := match R.1 == -1 with
  | true => (ar, R.2.2.getLastD [])
  | false => (0, [])
def foC (R : FR) : Int := match R.1 == -1, R.1 == 0 with
  | true, _ => 0
  | false, true => 6
  | false, false => R.1
/-- how firstOf leaves memory -/
def FoR (w : World) (bs : Nat) (ar : Int) (R : FR) (e : Ending) (w' : World) : Prop :=
  ∃ cs : List Value, e = .returned (.tuple #[.agg cs.toArray, .int .i64 (foC R)]) ∧ opT.Fr w.heap.size w' cs (foV ar R) ∧ TchP (fun k => k = bs) w w'
set_option maxHeartbeats 3200000 in
set_option maxRecDepth 100000 in
theorem firstOf_any (w : World) {t : Tpl} {ar : Int} {fx : List Int} (hT : tplOk t) (har : 1 ≤ ar ∧ ar ≤ 3) (hl : limF t ar.toNat = false) {bs : Nat} (hF : Fd (fun k => k < w.heap.size ∧ k ≠ bs) w bs t ar (duesF (looksA t ar.toNat) (tabL t ar)) fx) (hTb : Tb 2 w.heap.size w bs 0 (.slice none 0 0) []) (hfx : fx.length = tabL t ar) :
    Calls Tryz.prog 51 #[.pointer (some ⟨bs, 0, none⟩), .func (.func 154) #[] #[]] w (FoR w bs ar (polyF t ar fx fun _ => -1)) := by
  have HF := Lib.hid hF
  have HTB := Lib.hid hTb
  have hbs := hF.1
  have HLK := Lib.hid (tpl_looks hT har hl)
  have hNb := tabN_bd (tabN_of hT.1 (ar := ar.toNat) (by omega) (tabL_of hT))
  have HS0 : Hid (t.1 = (t.1.toNat : Int)) := by have := hT.1; unfold sizeOk at this; unfold Hid; omega
  have HTT := Lib.hid hT
  have HFXL := Lib.hid hfx
  clear hF hTb hT hl hfx
  go_enter Tryz.func51, Tryz.ntmps51
  go_wp2_with fail
  generalize hW : World.alloc (World.alloc (World.alloc w _) _) _ = W
  have hbW : Below w.heap.size w W := hW ▸ bthen bAA bA
  have hsW : w.heap.size + 3 ≤ W.heap.size := by rw [← hW]; simp
  have r0 : W.cell? ⟨w.heap.size + 1, 0, none⟩ = some (.int .i64 0) := by rw [← hW]; simp [go_sem]
  have r1 : W.cell? ⟨w.heap.size + 1, 1, none⟩ = some (.slice none 0 0) := by rw [← hW]; simp [go_sem]
  have q0 : W.frozen? ⟨w.heap.size + 1, 0, none⟩ = false := by rw [← hW]; simp [go_sem]
  have q1 : W.frozen? ⟨w.heap.size + 1, 1, none⟩ = false := by rw [← hW]; simp [go_sem]
  have HI : Hid (oneF ar (.func (.func 154) #[] #[]) w.heap.size (w.heap.size + 1 + 1) w.heap.size [] (fun k => k = w.heap.size ∨ k = w.heap.size + 1 + 1) W) :=
    ⟨fun k hk => by omega, .inl rfl, .inr rfl, by omega, by rw [← hW]; simp [go_sem], by rw [← hW]; simp [go_sem], by rw [← hW]; simp [go_sem], 0, .slice none 0 0, by rw [← hW]; simp [go_sem], by rw [← hW]; simp [go_sem], fun h => absurd rfl h⟩
  clear hW
  refine (search_any HTT.out HS0.out (by omega) HLK.out.2.1 HLK.out.1 HLK.out.2.2 HFXL.out 131 #[.pointer (some ⟨w.heap.size, 0, none⟩), .pointer (some ⟨w.heap.size + 1 + 1, 0, none⟩)] (enters Tryz.func131 (by kernel_rfl) rfl) (fun _ => -1) (oneF ar (.func (.func 154) #[] #[]) w.heap.size (w.heap.size + 1 + 1) w.heap.size) (first1_yf har _ _ _) bs w.heap.size (fun k => k < w.heap.size ∧ k ≠ bs) hbs (fun k hk => hk) (tabL t ar) W (.slice none 0 0) [] 0 [] (fun k => k = w.heap.size ∨ k = w.heap.size + 1 + 1) (by simp) (fun a ha => by cases ha) (HF.out.below hbW) (HTB.out.below hbs hbW) HI.out (fun k hk h => by omega) (by omega) (fun k hk => by simp [Value.ownBlock] at hk) (by omega) (by simp) (by omega)).mono ?_
  rintro e w4 ⟨rfl, hsr⟩
  obtain ⟨v4, O4, -, -, hI4, hO5, -, ht4⟩ := hsr
  have HCP : Hid (srch t.1.toNat (goesF t (duesF (looksA t ar.toNat) (tabL t ar))) fx (fun _ => -1) (tabL t ar) [] (0, 0, []) = polyF t ar fx fun _ => -1) := rfl
  rw [HCP.out] at hI4 ⊢
  have HM1 : Hid ((polyF t ar fx fun _ => -1).1 = -1 → (polyF t ar fx fun _ => -1).2.2 ≠ []) := fun h => srch_m1 _ _ _ (fun h7 => absurd h7 (by show ¬ (0 : Int) = -1; decide)) h
  clear HCP
  generalize hRR : (polyF t ar fx fun _ => -1) = R at *
  have HRR := Lib.hid hRR
  clear hRR
  have hn1 : ¬ ((w.heap.size + 1 = w.heap.size ∨ w.heap.size + 1 = w.heap.size + 1 + 1) ∨ w.heap.size + 1 = bs ∨ (Value.slice none 0 0).ownBlock = some (w.heap.size + 1)) := by
    rintro (h | h | h)
    · omega
    · omega
    · simp [Value.ownBlock] at h
  have hl1 : w.heap.size + 1 < W.heap.size := by omega
  have s0 := (ht4.cell (i := 0) hl1 hn1).trans r0
  have s1 := (ht4.cell (i := 1) hl1 hn1).trans r1
  have p0 := (ht4.frozen (i := 0) hl1 hn1).trans q0
  have p1 := (ht4.frozen (i := 1) hl1 hn1).trans q1
  obtain ⟨hO4, -, hOb, -, -, -, -, n4, u4, d0, d1, hD⟩ := hI4
  have HD := Lib.hid hD
  clear hD r0 r1 q0 q1
  have hno : ¬ O4 (w.heap.size + 1) := fun h => by
    rcases hO5 _ h with (h | h) | h
    · omega
    · omega
    · omega
  have ho4 := (hO4 _ hOb).1
  have hl4 : w.heap.size + 1 < w4.heap.size := by have := ht4.size; omega
  have hIa : I64 ar := I64.small (by omega) (by omega)
  have hT4 : TchP (fun k => k = bs) w w4 := ⟨ht4.os.trans hbW.os, ht4.tape.trans hbW.tape, ht4.output.trans hbW.output, by have := ht4.size; omega, fun k hk hn => (ht4.block k (by omega) (by
    rintro ((h | h) | h | h)
    · omega
    · omega
    · exact hn h
    · simp [Value.ownBlock] at h)).trans (hbW.block k hk)⟩
  have hfin : ∀ (x y : Value), TchP (fun k => k = bs) w ((w4.setCell ⟨w.heap.size + 1, 0, none⟩ x).setCell ⟨w.heap.size + 1, 1, none⟩ y) := fun x y => ⟨hT4.os, hT4.tape, hT4.output, by have := hT4.size; simpa [World.setCell] using this, fun k hk hn => ((Below.heap_setCell _ _ _ _ (by simp; omega)).trans (Below.heap_setCell _ _ _ _ (by simp; omega))).trans (hT4.block k hk hn)⟩
  have hz0 : ∀ (x y : Value), ((w4.setCell ⟨w.heap.size + 1, 0, none⟩ x).setCell ⟨w.heap.size + 1, 1, none⟩ y).cell? ⟨w.heap.size + 1, 0, none⟩ = some x := fun x y => (World.cell?_setCell_other _ _ _ _ (by simp)).trans (World.cell?_setCell_same _ _ _ s0)
  have hz1 : ∀ (x y : Value), ((w4.setCell ⟨w.heap.size + 1, 0, none⟩ x).setCell ⟨w.heap.size + 1, 1, none⟩ y).cell? ⟨w.heap.size + 1, 1, none⟩ = some y := fun x y => World.cell?_setCell_same _ _ _ ((World.cell?_setCell_other _ _ _ _ (by simp)).trans s1)
  have HFIN := Lib.hid hfin
  have HZ0 := Lib.hid hz0
  have HZ1 := Lib.hid hz1
  have HIa := Lib.hid hIa
  clear hfin hz0 hz1 hT4 ht4 hIa hn1 hO4 hO5
  cases hc : (R.1 == -1)
  · have HV : Hid (foV ar (polyF t ar fx fun _ => -1) = (0, [])) := by unfold Hid; rw [HRR.out]; unfold foV; rw [hc]
    cases hz : (R.1 == 0)
    · have HC : Hid (foC (polyF t ar fx fun _ => -1) = R.1) := by unfold Hid; rw [HRR.out]; unfold foC; rw [hc, hz]
      go_wp2_with fail
      refine bodyPost_ret (v := .tuple #[.agg #[.int .i64 0, .slice none 0 0], .int .i64 R.1]) (by simp [results, Tryz.results51, go_sem, HZ0.out, HZ1.out]) rfl ⟨[.int .i64 0, .slice none 0 0], by rw [HC.out], ?_, HFIN.out _ _⟩
      rw [HV.out]
      exact fr_cons (I64.small (by omega) (by omega)) fr_nil
    · have HC : Hid (foC (polyF t ar fx fun _ => -1) = 6) := by unfold Hid; rw [HRR.out]; unfold foC; rw [hc, hz]
      go_wp2_with fail
      refine bodyPost_ret (v := .tuple #[.agg #[.int .i64 0, .slice none 0 0], .int .i64 6]) (by simp [results, Tryz.results51, go_sem, HZ0.out, HZ1.out]) rfl ⟨[.int .i64 0, .slice none 0 0], by rw [HC.out], ?_, HFIN.out _ _⟩
      rw [HV.out]
      exact fr_cons (I64.small (by omega) (by omega)) fr_nil
  · have HV : Hid (foV ar (polyF t ar fx fun _ => -1) = (ar, R.2.2.getLastD [])) := by unfold Hid; rw [HRR.out]; unfold foV; rw [hc]
    have HC : Hid (foC (polyF t ar fx fun _ => -1) = 0) := by unfold Hid; rw [HRR.out]; unfold foC; rw [hc]
    obtain ⟨rfl, hfr⟩ := HD.out (HM1.out (by simpa using hc))
    obtain ⟨ua, un, uc, rfl⟩ := ex_slice (on_fr1 hfr)
    have HFR := Lib.hid hfr
    clear hfr
    go_wp2_with fail
    refine bodyPost_ret (v := .tuple #[.agg #[.int .i64 n4, .slice ua un uc], .int .i64 0]) (by simp [results, Tryz.results51, go_sem, HZ0.out, HZ1.out]) rfl ⟨[.int .i64 n4, .slice ua un uc], by rw [HC.out], ?_, HFIN.out _ _⟩
    rw [HV.out]
    exact fr_cons HIa.out (on_fr1 (on_fr_set (on_fr_set HFR.out (fun h => hno h.1)) (fun h => hno h.1)))
end Go.Proofs.YthjafhjghjbdmaaGreat
namespace Go.Proofs.YthjafhjghjbdmaaGreat
open Go.RowKit Go.Sort
/-- a listener that stops at the first list for which p -/
def ycP (p : List Int → Bool) (L : List (List Int)) : Int := if p (L.getLastD []) then -1 else 0
theorem ycP_yes {p : List Int → Bool} {L : List (List Int)} {x : List Int} (h : p x = true) : ycP p (L ++ [x]) = -1 := by simp [ycP, h]
theorem ycP_no {p : List Int → Bool} {L : List (List Int)} {x : List Int} (h : p x = false) : ycP p (L ++ [x]) = 0 := by simp [ycP, h]
theorem ycP_m1 {p : List Int → Bool} {L : List (List Int)} (h : ycP p L = -1) : p (L.getLastD []) = true := by
  cases h1 : p (L.getLastD [])
  · simp only [ycP, h1] at h; exact absurd h (by decide)
  · rfl
theorem srch_m2 {s : Nat} {okT : List Int → Bool} {fx : List Int} {yc : List (List Int) → Int} : ∀ (m : Nat) (vals : List Int) (r : FR), (r.1 = -1 → r.2.2 ≠ [] ∧ yc r.2.2 = -1) → (srch s okT fx yc m vals r).1 = -1 → (srch s okT fx yc m vals r).2.2 ≠ [] ∧ yc (srch s okT fx yc m vals r).2.2 = -1
  | 0, vals, r, _, h => ⟨by show r.2.2 ++ [vals] ≠ []; simp, h⟩
  | m + 1, vals, r, hr, h => by
    have key : ∀ (l : List Nat) (q : FR), (q.1 = -1 → q.2.2 ≠ [] ∧ yc q.2.2 = -1) → (l.foldl (stepA (srch s okT fx yc m) okT fx vals) q).1 = -1 → (l.foldl (stepA (srch s okT fx yc m) okT fx vals) q).2.2 ≠ [] ∧ yc (l.foldl (stepA (srch s okT fx yc m) okT fx vals) q).2.2 = -1 := by
      intro l
      induction l with
      | nil => exact fun q h => h
      | cons a l ih =>
        intro q hq
        rw [List.foldl_cons]
        refine ih _ ?_
        by_cases h0 : q.1 = 0
        · cases h1 : skipB fx vals.length a
          · by_cases h2 : q.2.1 = 6000
            · rw [step_bud h0 h1 h2]; intro h7; exact absurd h7 (by show ¬ (7 : Int) = -1; decide)
            · cases h3 : okT (vals ++ [(a : Int)])
              · rw [step_no h0 h1 h2 h3]; intro h7; exact absurd h7 (by show ¬ (0 : Int) = -1; decide)
              · rw [step_yes h0 h1 h2 h3]; exact srch_m2 m _ _ (fun h7 => absurd h7 (by show ¬ (0 : Int) = -1; decide))
          · rw [step_skip h1]; exact hq
        · rw [step_stop h0]; exact hq
    exact key _ r hr h
/-- what the listener keeps: the operation told last, in box ob, where it passed; the test's box ib; what lay below b0 -/
def oneG (p : List Int → Bool) (ar : Int) (F : Value) (w0 : World) (b0 ib ob base : Nat) (told : List (List Int)) (O : Nat → Prop) (w : World) : Prop :=
  (∀ k, O k → k < w.heap.size ∧ (k < b0 ∨ base ≤ k)) ∧ (∀ k, k < b0 → O k ∧ w.heap[k]? = w0.heap[k]?) ∧ O ib ∧ O ob ∧ base ≤ ib ∧ base ≤ ob ∧ ib ≠ ob ∧ w.cell? ⟨ib, 0, none⟩ = some F ∧ w.frozen? ⟨ob, 0, none⟩ = false ∧ w.frozen? ⟨ob, 1, none⟩ = false ∧ ∃ n u, w.cell? ⟨ob, 0, none⟩ = some (.int .i64 n) ∧ w.cell? ⟨ob, 1, none⟩ = some u ∧ (told ≠ [] → p (told.getLastD []) = true → n = ar ∧ (intsT.on fun k => (O k ∧ base ≤ k) ∧ k ≠ ob).Fr base w [u] (told.getLastD []))
theorem oneG.stable {p : List Int → Bool} {ar : Int} {F : Value} {w0 : World} {b0 ib ob base : Nat} {told : List (List Int)} {O : Nat → Prop} {w w' : World} (h : oneG p ar F w0 b0 ib ob base told O w) (hs : ∀ k, k < w.heap.size → O k → w'.heap[k]? = w.heap[k]?) (hz : w.heap.size ≤ w'.heap.size) : oneG p ar F w0 b0 ib ob base told O w' := by
  obtain ⟨h1, hB, h2, h3, g1, g2, h4, c0, f0, f1, n, u, d0, d1, h5⟩ := h
  have hi := hs ib (h1 ib h2).1 h2
  have ho := hs ob (h1 ob h3).1 h3
  refine ⟨fun k hk => ⟨Nat.lt_of_lt_of_le (h1 k hk).1 hz, (h1 k hk).2⟩, fun k hk => ⟨(hB k hk).1, (hs k (h1 k (hB k hk).1).1 (hB k hk).1).trans (hB k hk).2⟩, h2, h3, g1, g2, h4, (World.cell?_of_block (a := ⟨ib, 0, none⟩) hi).trans c0, (World.frozen?_of_block (a := ⟨ob, 0, none⟩) ho).trans f0, (World.frozen?_of_block (a := ⟨ob, 1, none⟩) ho).trans f1, n, u, (World.cell?_of_block (a := ⟨ob, 0, none⟩) ho).trans d0, (World.cell?_of_block (a := ⟨ob, 1, none⟩) ho).trans d1, fun ht hp => ?_⟩
  obtain ⟨e1, fp, ⟨g1, g2⟩, g3, g4, g5⟩ := h5 ht hp
  have hS : ∀ k ∈ fp, w'.heap[k]? = w.heap[k]? := fun k hk => hs k (intsT.lt g1 k hk) (g2 k hk).1.1
  exact ⟨e1, fp, ⟨intsT.same g1 hS, g2⟩, g3, g4, g5.same hS⟩
set_option maxHeartbeats 1600000 in
theorem firstG1_yf {p : List Int → Bool} {V : List Int → Prop} {ar : Int} (har : 1 ≤ ar ∧ ar ≤ 3) (w00 : World) (b0 ib ob base : Nat) (hb0 : b0 ≤ base) (gi : Nat) (ic : Array Value) (eg : ∀ args w, (callFunc gi args).run Tryz.prog w = .ok (.enter gi args) w)
    (hIs : Hid (∀ W u x, (∀ k, k < b0 → W.heap[k]? = w00.heap[k]?) → intsT.Rd W [u] x → V x → Calls Tryz.prog gi (#[.agg #[.int .i64 ar, u]] ++ ic) W fun e W' => e = .returned (.bool (p x)) ∧ Below W.heap.size W W')) :
    YfV Tryz.prog ar 131 #[.pointer (some ⟨ib, 0, none⟩), .pointer (some ⟨ob, 0, none⟩)] (ycP p) V (oneG p ar (.func (.func gi) #[] ic) w00 b0 ib ob base) := by
  refine ⟨fun h hs hz => h.stable hs hz, fun h k hk => (h.1 k hk).1, ?_⟩
  rintro told O w0 w u x hI hb hf - hln hVx
  obtain ⟨ua, uc, rfl⟩ := fr_slice hf
  have hI' := hI.stable (fun k hk _ => hb.block k hk) hb.size
  have HI2 := Lib.hid hI'
  obtain ⟨h1, hB, h2, h3, hg1, hg2, h4, c0, f0, f1, n, u', d0, d1, -⟩ := hI'
  have hil := (h1 ib h2).1
  have hol := (h1 ob h3).1
  have hol0 := (hI.1 ob h3).1
  have hIa : I64 ar := I64.small (by omega) (by omega)
  have HF := Lib.hid hf
  have H1 := Lib.hid h1
  have HB := Lib.hid hB
  have hz0 := hb.size
  have HIa := Lib.hid hIa
  have HV := Lib.hid hVx
  have hbs0 : base ≤ w0.heap.size := by omega
  clear hI hf h1 hIa hVx hB
  show Calls Tryz.prog 131 #[.agg #[.int .i64 ar, .slice ua x.length uc], .pointer (some ⟨ib, 0, none⟩), .pointer (some ⟨ob, 0, none⟩)] w _
  go_enter Tryz.func131, Tryz.ntmps131
  go_wp2_with fail
  refine (hIs.out _ _ x (fun k hk => (bA.block k (by have := (H1.out k (HB.out k hk).1).1; omega)).trans (HB.out k hk).2) (HF.out.below bA).rd HV.out).mono ?_
  rintro e w1 ⟨rfl, hb1⟩
  have hbb : Below w.heap.size w w1 := bthen bA hb1
  have hz1 := hbb.size
  have p0 : w1.cell? ⟨w.heap.size, 0, none⟩ = some (.int .i64 ar) := (cellB hb1 (by simp)).trans (by simp)
  have p1 : w1.cell? ⟨w.heap.size, 1, none⟩ = some (.slice ua x.length uc) := (cellB hb1 (by simp)).trans (by simp)
  have c01 := (cellB hbb hil).trans c0
  have d01 := (cellB hbb hol).trans d0
  have d11 := (cellB hbb hol).trans d1
  have f01 := (frozenB hbb hol).trans f0
  have f11 := (frozenB hbb hol).trans f1
  have hpl : w.heap.size < w1.heap.size := by have := hb1.size; simp at this; omega
  have HFX : Hid (intsT.Fr w0.heap.size w1 [.slice ua x.length uc] x) := HF.out.below hbb
  clear c0 d0 d1 f0 f1
  cases hp : p x
  · have HY := Lib.hid (ycP_no (L := told) hp)
    have HP := Lib.hid hp
    clear hp
    go_wp2_with fail
    go_ret
    have hI1 := HI2.out.stable (fun k hk _ => hbb.block k hk) hbb.size
    obtain ⟨a1, a2, a3, a4, a5, a6, a7, a8, a9, a10, n', u'', a11, a12, -⟩ := hI1
    refine ⟨ret_int HY.out.symm, O, ⟨a1, a2, a3, a4, a5, a6, a7, a8, a9, a10, n', u'', a11, a12, fun _ hpp => ?_⟩, TchP.of_below hbb O, fun k hk => .inl hk⟩
    rw [List.getLastD_concat, HP.out] at hpp
    cases hpp
  · have HY := Lib.hid (ycP_yes (L := told) hp)
    clear hp
    go_wp2_with fail
    go_ret
    have ht : TchP (fun k => k = ob) w ((w1.setCell ⟨ob, 0, none⟩ (.int .i64 ar)).setCell ⟨ob, 1, none⟩ (.slice ua x.length uc)) := ((TchP.of_below hbb (fun k => k = ob)).then (TchP.set (O := fun k => k = ob) rfl) (fun k _ h => h)).then (TchP.set (O := fun k => k = ob) rfl) (fun k _ h => h)
    refine ⟨ret_int HY.out.symm, fun k => (O k ∨ w0.heap.size ≤ k) ∧ k < w1.heap.size, ⟨fun k hk => ⟨by simpa [World.setCell] using hk.2, ?_⟩, fun k hk => ⟨⟨.inl (HB.out k hk).1, ?_⟩, ?_⟩, ⟨.inl h2, by omega⟩, ⟨.inl h3, by omega⟩, hg1, hg2, h4, ?_, (World.frozen?_setCell _ _ _ _).trans ((World.frozen?_setCell _ _ _ _).trans f01), (World.frozen?_setCell _ _ _ _).trans ((World.frozen?_setCell _ _ _ _).trans f11), ar, _, (World.cell?_setCell_other _ _ _ _ (by simp)).trans (World.cell?_setCell_same _ _ _ d01), World.cell?_setCell_same _ _ _ ((World.cell?_setCell_other _ _ _ _ (by simp)).trans d11), fun _ _ => ⟨rfl, ?_⟩⟩, ht.mono (fun k _ h => by rw [h]; exact h3), fun k hk => hk.1⟩
    · rcases hk.1 with h | h
      · exact (H1.out k h).2
      · omega
    · have := (H1.out k (HB.out k hk).1).1; omega
    · have h9 := (H1.out k (HB.out k hk).1).1
      exact (ht.block k h9 (fun e => by omega)).trans (HB.out k hk).2
    · exact (World.cell?_setCell_other _ _ _ _ (fun e => h4 (congrArg Addr.block e).symm)).trans ((World.cell?_setCell_other _ _ _ _ (fun e => h4 (congrArg Addr.block e).symm)).trans c01)
    · rw [List.getLastD_concat]
      have h9 := (HFX.out.set (a := ⟨ob, 0, none⟩) (u := .int .i64 ar) hol0).set (a := ⟨ob, 1, none⟩) (u := .slice ua x.length uc) hol0
      exact (fr_on (h9.mono (show w0.heap.size ≤ w0.heap.size from Nat.le_refl _)) (fun k hk hl => ⟨⟨⟨.inr hk, by simpa [World.setCell] using hl⟩, by omega⟩, by omega⟩)).mono (by omega)
end Go.Proofs.YthjafhjghjbdmaaGreat
namespace Go.Proofs.YthjafhjghjbdmaaGreat
open Go.RowKit Go.Sort
set_option maxHeartbeats 3200000 in
set_option maxRecDepth 100000 in
theorem firstG_any (w : World) {p : List Int → Bool} {t : Tpl} {ar : Int} {fx : List Int} (hT : tplOk t) (har : 1 ≤ ar ∧ ar ≤ 3) (hl : limF t ar.toNat = false) {bs : Nat} {b0 : Nat} (hb0 : b0 ≤ bs) (gi : Nat) (ic : Array Value) (eg : ∀ args w, (callFunc gi args).run Tryz.prog w = .ok (.enter gi args) w)
    (hIs : Hid (∀ W u x, (∀ k, k < b0 → W.heap[k]? = w.heap[k]?) → intsT.Rd W [u] x → (x.length = tabL t ar ∧ ∀ a ∈ x, 0 ≤ a ∧ a ≤ t.1 - 1) → Calls Tryz.prog gi (#[.agg #[.int .i64 ar, u]] ++ ic) W fun e W' => e = .returned (.bool (p x)) ∧ Below W.heap.size W W'))
    (hF : Fd (fun k => (b0 ≤ k ∧ k < w.heap.size) ∧ k ≠ bs) w bs t ar (duesF (looksA t ar.toNat) (tabL t ar)) fx) (hTb : Tb 2 w.heap.size w bs 0 (.slice none 0 0) []) (hfx : fx.length = tabL t ar) :
    Calls Tryz.prog 51 #[.pointer (some ⟨bs, 0, none⟩), .func (.func gi) #[] ic] w (FoR w bs ar (polyF t ar fx (ycP p))) := by
  have HF := Lib.hid hF
  have HTB := Lib.hid hTb
  have hbs := hF.1
  have HLK := Lib.hid (tpl_looks hT har hl)
  have hNb := tabN_bd (tabN_of hT.1 (ar := ar.toNat) (by omega) (tabL_of hT))
  have HS0 : Hid (t.1 = (t.1.toNat : Int)) := by have := hT.1; unfold sizeOk at this; unfold Hid; omega
  have HTT := Lib.hid hT
  have HIS : Hid _ := hIs
  have HFXL := Lib.hid hfx
  clear hF hTb hT hl hfx hIs
  go_enter Tryz.func51, Tryz.ntmps51
  go_wp2_with fail
  generalize hW : World.alloc (World.alloc (World.alloc w _) _) _ = W
  have hbW : Below w.heap.size w W := hW ▸ bthen bAA bA
  have hsW : w.heap.size + 3 ≤ W.heap.size := by rw [← hW]; simp
  have r0 : W.cell? ⟨w.heap.size + 1, 0, none⟩ = some (.int .i64 0) := by rw [← hW]; simp [go_sem]
  have r1 : W.cell? ⟨w.heap.size + 1, 1, none⟩ = some (.slice none 0 0) := by rw [← hW]; simp [go_sem]
  have q0 : W.frozen? ⟨w.heap.size + 1, 0, none⟩ = false := by rw [← hW]; simp [go_sem]
  have q1 : W.frozen? ⟨w.heap.size + 1, 1, none⟩ = false := by rw [← hW]; simp [go_sem]
  have HI : Hid (oneG p ar (.func (.func gi) #[] ic) w b0 w.heap.size (w.heap.size + 1 + 1) w.heap.size [] (fun k => k < b0 ∨ k = w.heap.size ∨ k = w.heap.size + 1 + 1) W) :=
    ⟨fun k hk => by omega, fun k hk => ⟨.inl hk, hbW.block k (by omega)⟩, .inr (.inl rfl), .inr (.inr rfl), Nat.le_refl _, by omega, by omega, by rw [← hW]; simp [go_sem], by rw [← hW]; simp [go_sem], by rw [← hW]; simp [go_sem], 0, .slice none 0 0, by rw [← hW]; simp [go_sem], by rw [← hW]; simp [go_sem], fun h => absurd rfl h⟩
  have hIs2 : Hid (∀ W' u x, (∀ k, k < b0 → W'.heap[k]? = w.heap[k]?) → intsT.Rd W' [u] x → (x.length = tabL t ar ∧ ∀ a ∈ x, 0 ≤ a ∧ a ≤ t.1 - 1) → Calls Tryz.prog gi (#[.agg #[.int .i64 ar, u]] ++ ic) W' fun e W'' => e = .returned (.bool (p x)) ∧ Below W'.heap.size W' W'') := HIS.out
  clear hW
  refine (searchV_any HTT.out HS0.out (by omega) HLK.out.2.1 HLK.out.1 HLK.out.2.2 HFXL.out 131 #[.pointer (some ⟨w.heap.size, 0, none⟩), .pointer (some ⟨w.heap.size + 1 + 1, 0, none⟩)] (enters Tryz.func131 (by kernel_rfl) rfl) (ycP p) (oneG p ar (.func (.func gi) #[] ic) w b0 w.heap.size (w.heap.size + 1 + 1) w.heap.size) (firstG1_yf har w b0 _ _ _ (by omega) gi ic eg hIs2) (fun x h1 h2 => ⟨h1, h2⟩) bs w.heap.size (fun k => (b0 ≤ k ∧ k < w.heap.size) ∧ k ≠ bs) hbs (fun k hk => ⟨hk.1.2, hk.2⟩) (tabL t ar) W (.slice none 0 0) [] 0 [] (fun k => k < b0 ∨ k = w.heap.size ∨ k = w.heap.size + 1 + 1) (by simp) (fun a ha => by cases ha) (HF.out.below hbW) (HTB.out.below hbs hbW) HI.out (fun k hk h => by omega) (by omega) (fun k hk => by simp [Value.ownBlock] at hk) (by omega) (by simp) (by omega)).mono ?_
  rintro e w4 ⟨rfl, hsr⟩
  obtain ⟨v4, O4, -, -, hI4, hO5, -, ht4⟩ := hsr
  have HCP : Hid (srch t.1.toNat (goesF t (duesF (looksA t ar.toNat) (tabL t ar))) fx (ycP p) (tabL t ar) [] (0, 0, []) = polyF t ar fx (ycP p)) := rfl
  rw [HCP.out] at hI4 ⊢
  have HM1 : Hid ((polyF t ar fx (ycP p)).1 = -1 → (polyF t ar fx (ycP p)).2.2 ≠ [] ∧ ycP p (polyF t ar fx (ycP p)).2.2 = -1) := fun h => srch_m2 _ _ _ (fun h7 => absurd h7 (by show ¬ (0 : Int) = -1; decide)) h
  clear HCP
  generalize hRR : (polyF t ar fx (ycP p)) = R at *
  have HRR := Lib.hid hRR
  clear hRR
  have hn1 : ¬ ((w.heap.size + 1 < b0 ∨ w.heap.size + 1 = w.heap.size ∨ w.heap.size + 1 = w.heap.size + 1 + 1) ∨ w.heap.size + 1 = bs ∨ (Value.slice none 0 0).ownBlock = some (w.heap.size + 1)) := by
    rintro ((h | h | h) | h | h)
    · omega
    · omega
    · omega
    · omega
    · simp [Value.ownBlock] at h
  have hl1 : w.heap.size + 1 < W.heap.size := by omega
  have s0 := (ht4.cell (i := 0) hl1 hn1).trans r0
  have s1 := (ht4.cell (i := 1) hl1 hn1).trans r1
  have p0 := (ht4.frozen (i := 0) hl1 hn1).trans q0
  have p1 := (ht4.frozen (i := 1) hl1 hn1).trans q1
  obtain ⟨hO4, hB4, -, hOb, -, -, -, -, -, -, n4, u4, d0, d1, hD⟩ := hI4
  have HD := Lib.hid hD
  clear hD r0 r1 q0 q1
  have hno : ¬ O4 (w.heap.size + 1) := fun h => by
    rcases hO5 _ h with (h | h | h) | h
    · omega
    · omega
    · omega
    · omega
  have ho4 := (hO4 _ hOb).1
  have hl4 : w.heap.size + 1 < w4.heap.size := by have := ht4.size; omega
  have hIa : I64 ar := I64.small (by omega) (by omega)
  have hT4 : TchP (fun k => k = bs) w w4 := ⟨ht4.os.trans hbW.os, ht4.tape.trans hbW.tape, ht4.output.trans hbW.output, by have := ht4.size; omega, fun k hk hn => by
    rcases Nat.lt_or_ge k b0 with hkb | hkb
    · exact (hB4 k hkb).2
    · refine (ht4.block k (by omega) ?_).trans (hbW.block k hk)
      rintro ((h | h | h) | h | h)
      · omega
      · omega
      · omega
      · exact hn h
      · simp [Value.ownBlock] at h⟩
  have hfin : ∀ (x y : Value), TchP (fun k => k = bs) w ((w4.setCell ⟨w.heap.size + 1, 0, none⟩ x).setCell ⟨w.heap.size + 1, 1, none⟩ y) := fun x y => ⟨hT4.os, hT4.tape, hT4.output, by have := hT4.size; simpa [World.setCell] using this, fun k hk hn => ((Below.heap_setCell _ _ _ _ (by simp; omega)).trans (Below.heap_setCell _ _ _ _ (by simp; omega))).trans (hT4.block k hk hn)⟩
  have hz0 : ∀ (x y : Value), ((w4.setCell ⟨w.heap.size + 1, 0, none⟩ x).setCell ⟨w.heap.size + 1, 1, none⟩ y).cell? ⟨w.heap.size + 1, 0, none⟩ = some x := fun x y => (World.cell?_setCell_other _ _ _ _ (by simp)).trans (World.cell?_setCell_same _ _ _ s0)
  have hz1 : ∀ (x y : Value), ((w4.setCell ⟨w.heap.size + 1, 0, none⟩ x).setCell ⟨w.heap.size + 1, 1, none⟩ y).cell? ⟨w.heap.size + 1, 1, none⟩ = some y := fun x y => World.cell?_setCell_same _ _ _ ((World.cell?_setCell_other _ _ _ _ (by simp)).trans s1)
  have HFIN := Lib.hid hfin
  have HZ0 := Lib.hid hz0
  have HZ1 := Lib.hid hz1
  have HIa := Lib.hid hIa
  clear hfin hz0 hz1 hT4 ht4 hIa hn1 hO4 hO5 hB4
  cases hc : (R.1 == -1)
  · have HV : Hid (foV ar R = (0, [])) := by unfold Hid; unfold foV; rw [hc]
    cases hz : (R.1 == 0)
    · have HC : Hid (foC R = R.1) := by unfold Hid; unfold foC; rw [hc, hz]
      go_wp2_with fail
      refine bodyPost_ret (v := .tuple #[.agg #[.int .i64 0, .slice none 0 0], .int .i64 R.1]) (by simp [results, Tryz.results51, go_sem, HZ0.out, HZ1.out]) rfl ⟨[.int .i64 0, .slice none 0 0], by rw [HC.out], ?_, HFIN.out _ _⟩
      rw [HV.out]
      exact fr_cons (I64.small (by omega) (by omega)) fr_nil
    · have HC : Hid (foC R = 6) := by unfold Hid; unfold foC; rw [hc, hz]
      go_wp2_with fail
      refine bodyPost_ret (v := .tuple #[.agg #[.int .i64 0, .slice none 0 0], .int .i64 6]) (by simp [results, Tryz.results51, go_sem, HZ0.out, HZ1.out]) rfl ⟨[.int .i64 0, .slice none 0 0], by rw [HC.out], ?_, HFIN.out _ _⟩
      rw [HV.out]
      exact fr_cons (I64.small (by omega) (by omega)) fr_nil
  · have HV : Hid (foV ar R = (ar, R.2.2.getLastD [])) := by unfold Hid; unfold foV; rw [hc]
    have HC : Hid (foC R = 0) := by unfold Hid; unfold foC; rw [hc]
    have hm2 := HM1.out (by simpa using hc)
    obtain ⟨rfl, hfr⟩ := HD.out hm2.1 (ycP_m1 hm2.2)
    clear hm2
    obtain ⟨ua, un, uc, rfl⟩ := ex_slice (on_fr1 hfr)
    have HFR := Lib.hid hfr
    clear hfr
    go_wp2_with fail
    refine bodyPost_ret (v := .tuple #[.agg #[.int .i64 n4, .slice ua un uc], .int .i64 0]) (by simp [results, Tryz.results51, go_sem, HZ0.out, HZ1.out]) rfl ⟨[.int .i64 n4, .slice ua un uc], by rw [HC.out], ?_, HFIN.out _ _⟩
    rw [HV.out]
    exact fr_cons HIa.out (on_fr1 (on_fr_set (on_fr_set HFR.out (fun h => hno h.1.1)) (fun h => hno h.1.1)))
end Go.Proofs.YthjafhjghjbdmaaGreat
namespace Go.Proofs.YthjafhjghjbdmaaGreat
open Go.RowKit Go.Sort
theorem rd_rdP {α : Type} {E : Ty α} {w : World} {cs : List Value} {x : α} (h : E.Rd w cs x) : E.RdP (fun k => k < w.heap.size) w cs x := let ⟨fp, h⟩ := h; ⟨fp, h, fun k hk => E.lt h k hk⟩
noncomputable def phV (t : Tpl) (ar : Int) (ls : List (List Int)) (vs : List Int) : Int × List Int := match wF t ar ls vs with
  | none => (0, [])
  | some f => foV ar (polyF t ar f fun _ => -1)
noncomputable def phC (t : Tpl) (ar : Int) (ls : List (List Int)) (vs : List Int) : Int := match wF t ar ls vs with
  | none => 4
  | some f => foC (polyF t ar f fun _ => -1)
set_option maxHeartbeats 3200000 in
set_option maxRecDepth 100000 in
theorem polymorphismWith_any (w : World) {cs : Array Value} {t : Tpl} {v v' : Value} {ls : List (List Int)} {vs : List Int} (h : tplT.Rd w cs.toList t) (hl : rowsT.Rd w [v] ls) (hv : intsT.Rd w [v'] vs) {ar : Int} (hT : tplOk t) (har : 1 ≤ ar ∧ ar ≤ 3) (hlm : limF t ar.toNat = false) (hin : ∀ l ∈ ls, (l.length : Int) = ar ∧ ∀ a ∈ l, 0 ≤ a ∧ a ≤ t.1 - 1) (hlen : ls.length = vs.length) (hvs : ∀ a ∈ vs, 0 ≤ a ∧ a ≤ t.1 - 1) (hL : ls.length ≤ 140737488351232) :
    Calls Tryz.prog 70 #[.agg cs, .int .i64 ar, v, v'] w (RetAC opT w (phV t ar ls vs) (phC t ar ls vs)) := by
  have HT := Lib.hid h
  have HL := Lib.hid hl
  have HV := Lib.hid hv
  have HIN := Lib.hid hin
  have HVS := Lib.hid hvs
  have HLEN := Lib.hid hlen
  have HTT := Lib.hid hT
  have HLF := Lib.hid hlm
  have hs4 := hT.1
  unfold sizeOk at hs4
  obtain ⟨v1, hv1, -, -⟩ := pair_ex h
  obtain rfl := agg_of hv1
  clear h hv1 hl hv hin hvs hlen hT hlm
  go_enter Tryz.func70, Tryz.ntmps70
  go_wp2_with fail
  generalize hW : World.alloc (World.alloc w _) _ = W
  have hbW : Below w.heap.size w W := hW ▸ bAA
  have hsW : w.heap.size + 2 ≤ W.heap.size := by rw [← hW]; simp
  have r0 : W.cell? ⟨w.heap.size + 1, 0, none⟩ = some (.int .i64 0) := by rw [← hW]; simp [go_sem]
  have r1 : W.cell? ⟨w.heap.size + 1, 1, none⟩ = some (.slice none 0 0) := by rw [← hW]; simp [go_sem]
  have q0 : W.frozen? ⟨w.heap.size + 1, 0, none⟩ = false := by rw [← hW]; simp [go_sem]
  have q1 : W.frozen? ⟨w.heap.size + 1, 1, none⟩ = false := by rw [← hW]; simp [go_sem]
  clear hW
  refine (newFinder_any _ (HT.out.below hbW) HTT.out har HLF.out (tabL_of HTT.out)).mono ?_
  rintro e w3 hnf
  obtain ⟨bs, gd, gt, vin, rfl, hbs, hgt, hne, hbx, hgth, hdu, hin, hb3⟩ := hnf
  have hz3 := hb3.size
  obtain ⟨hbslt, b0, b2, b3, b4, b5, b6, b7, -, e6, e7⟩ := hbx
  have hgtl := lt_of_block hgth
  have hNb := tabN_bd (tabN_of HTT.out.1 (ar := ar.toNat) (by omega) (tabL_of HTT.out))
  have hB3 := bthen hbW hb3
  have hI3 : IR 2 W.heap.size w3 gt (tabL t ar) (tabL t ar) (List.replicate (tabL t ar) (-1)) := IR.of_mone hgth hgt (by omega)
  have HI3 := Lib.hid hI3
  have HDU := Lib.hid hdu
  have HII := Lib.hid hin
  have hix : ∀ l ∈ ls, l.length ≤ 3 ∧ (∀ a ∈ l, 0 ≤ a ∧ a ≤ t.1 - 1) ∧ idxL t.1 0 l < (tabL t ar : Int) := fun l hl => by
    obtain ⟨h1, h2⟩ := HIN.out l hl
    refine ⟨by omega, h2, ?_⟩
    have h3 := (idx_bd (by omega) h2 l.length (Nat.le_refl _)).2
    rw [List.take_length] at h3
    have h4 := tabL_of (ar := ar) HTT.out
    have h5 : ar.toNat = l.length := by omega
    rw [h5] at h4
    omega
  have HIX := Lib.hid hix
  clear hI3 hdu hin hgth hix
  go_wp2_with fail
  refine (tell_any w3 hbslt b0 b5 HI3.out hne (by omega) (((rd_rdP HL.out).below hB3).mono (fun k _ hk => by omega)) (((rd_rdP HV.out).below hB3).mono (fun k _ hk => by omega)) HLEN.out HIX.out HVS.out (fun a ha => by rw [List.eq_of_mem_replicate ha]; omega) hL).mono ?_
  rintro e w4 ⟨rfl, ht4, hI4⟩
  rw [show telK t.1 ls vs (List.replicate (tabL t ar) (-1)) ls.length = wF t ar ls vs from rfl] at hI4 ⊢
  have hz4 := ht4.size
  have hbg : bs ≠ gt := fun h => hne h.symm
  have hB4 : Below w.heap.size w w4 := hB3.trans (ht4.below (by omega) (fun k hk h => by omega))
  have s0 := (ht4.cell (i := 0) (show w.heap.size + 1 < w3.heap.size by omega) (by omega)).trans ((cellB hb3 (by omega)).trans r0)
  have s1 := (ht4.cell (i := 1) (show w.heap.size + 1 < w3.heap.size by omega) (by omega)).trans ((cellB hb3 (by omega)).trans r1)
  have p0 := (ht4.frozen (i := 0) (show w.heap.size + 1 < w3.heap.size by omega) (by omega)).trans ((frozenB hb3 (by omega)).trans q0)
  have p1 := (ht4.frozen (i := 1) (show w.heap.size + 1 < w3.heap.size by omega) (by omega)).trans ((frozenB hb3 (by omega)).trans q1)
  have hl4 : w.heap.size + 1 < w4.heap.size := by omega
  cases hw : wF t ar ls vs with
  | none =>
    have HVV : Hid (phV t ar ls vs = (0, [])) := by unfold Hid phV; rw [hw]
    have HCC : Hid (phC t ar ls vs = 4) := by unfold Hid phC; rw [hw]
    rw [show (none : Option (List Int)).isSome = false from rfl]
    clear hI4 hw r0 r1 q0 q1 b0 b2 b3 b4 b5 b6 b7 e6 e7
    have hz0 : ∀ (x y : Value), ((w4.setCell ⟨w.heap.size + 1, 0, none⟩ x).setCell ⟨w.heap.size + 1, 1, none⟩ y).cell? ⟨w.heap.size + 1, 0, none⟩ = some x := fun x y => (World.cell?_setCell_other _ _ _ _ (by simp)).trans (World.cell?_setCell_same _ _ _ s0)
    have hz1 : ∀ (x y : Value), ((w4.setCell ⟨w.heap.size + 1, 0, none⟩ x).setCell ⟨w.heap.size + 1, 1, none⟩ y).cell? ⟨w.heap.size + 1, 1, none⟩ = some y := fun x y => World.cell?_setCell_same _ _ _ ((World.cell?_setCell_other _ _ _ _ (by simp)).trans s1)
    have HZ0 := Lib.hid hz0
    have HZ1 := Lib.hid hz1
    clear hz0 hz1
    go_wp2_with fail
    refine bodyPost_ret (v := .tuple #[.agg #[.int .i64 0, .slice none 0 0], .int .i64 4]) (by simp [results, Tryz.results70, go_sem, HZ0.out, HZ1.out]) rfl ⟨[.int .i64 0, .slice none 0 0], by rw [HCC.out], ?_, ?_⟩
    · rw [HVV.out]
      exact fr_cons (I64.small (by omega) (by omega)) fr_nil
    · exact hB4.trans (((TchP.set (O := fun k => k = w.heap.size + 1) rfl).then (TchP.set (O := fun k => k = w.heap.size + 1) rfl) (fun k _ h => h)).below (by omega) (fun k hk h => by omega))
  | some f =>
    have HVV : Hid (phV t ar ls vs = foV ar (polyF t ar f fun _ => -1)) := by unfold Hid phV; rw [hw]
    have HCC : Hid (phC t ar ls vs = foC (polyF t ar f fun _ => -1)) := by unfold Hid phC; rw [hw]
    rw [show (some f : Option (List Int)).isSome = true from rfl]
    have h1 := hI4 f hw
    have HFD : Hid (Fd (fun k => k < w4.heap.size ∧ k ≠ bs) w4 bs t ar (duesF (looksA t ar.toNat) (tabL t ar)) f) := by
      refine ⟨by omega, _, _, _, (ht4.cell hbslt hbg).trans b0, (ht4.cell hbslt hbg).trans b2, (ht4.cell hbslt hbg).trans b3, (ht4.cell hbslt hbg).trans b4, (ht4.cell hbslt hbg).trans b5, (HDU.out.tchP ht4 (fun k _ hk h => hk.2.2 h)).mono (fun k h1 h2 => ⟨h1, h2.2.1⟩), (HII.out.tchP ht4 (fun k _ hk h => hk.2.2 h)).mono (fun k h1 h2 => ⟨h1, h2.2.1⟩), ?_⟩
      obtain ⟨fp, h2, -, h3, -⟩ := h1.fr (by unfold capMax; omega)
      exact ⟨fp, h2, fun k hk => ⟨intsT.lt h2 k hk, by rw [IR.fp h1 h2 k hk]; exact hne⟩⟩
    have HTB : Hid (Tb 2 w4.heap.size w4 bs 0 (.slice none 0 0) []) := ⟨(ht4.cell hbslt hbg).trans b6, (ht4.cell hbslt hbg).trans b7, (ht4.frozen hbslt hbg).trans e6, (ht4.frozen hbslt hbg).trans e7, Bl.nil⟩
    have hfl : f.length = tabL t ar := h1.1
    clear hI4 hw r0 r1 q0 q1 b0 b2 b3 b4 b5 b6 b7 e6 e7 h1
    go_wp2_with fail
    refine (firstOf_any w4 HTT.out har HLF.out HFD.out HTB.out hfl).mono ?_
    rintro e w5 ⟨cs5, rfl, hf5, ht5⟩
    generalize foV ar (polyF t ar f fun _ => -1) = V at hf5 HVV
    generalize foC (polyF t ar f fun _ => -1) = C at HCC ⊢
    obtain ⟨ad5, cap5, rfl⟩ := fr_pair hf5
    have HF5 := Lib.hid hf5
    have hnb : w.heap.size + 1 ≠ bs := by omega
    have u0 := (ht5.cell hl4 hnb).trans s0
    have u1 := (ht5.cell hl4 hnb).trans s1
    have k0 := (ht5.frozen hl4 hnb).trans p0
    have k1 := (ht5.frozen hl4 hnb).trans p1
    have hz5 := ht5.size
    have hl5 : w.heap.size + 1 < w5.heap.size := by omega
    have hB5 : Below w.heap.size w w5 := hB4.trans (ht5.below (by omega) (fun k hk h => by omega))
    have hz0 : ∀ (x y : Value), ((w5.setCell ⟨w.heap.size + 1, 0, none⟩ x).setCell ⟨w.heap.size + 1, 1, none⟩ y).cell? ⟨w.heap.size + 1, 0, none⟩ = some x := fun x y => (World.cell?_setCell_other _ _ _ _ (by simp)).trans (World.cell?_setCell_same _ _ _ u0)
    have hz1 : ∀ (x y : Value), ((w5.setCell ⟨w.heap.size + 1, 0, none⟩ x).setCell ⟨w.heap.size + 1, 1, none⟩ y).cell? ⟨w.heap.size + 1, 1, none⟩ = some y := fun x y => World.cell?_setCell_same _ _ _ ((World.cell?_setCell_other _ _ _ _ (by simp)).trans u1)
    have HZ0 := Lib.hid hz0
    have HZ1 := Lib.hid hz1
    clear hz0 hz1 s0 s1 p0 p1 hf5 ht5 ht4
    go_wp2_with fail
    refine bodyPost_ret (v := .tuple #[.agg #[.int .i64 V.1, .slice ad5 V.2.length cap5], .int .i64 C]) (by simp [results, Tryz.results70, go_sem, HZ0.out, HZ1.out]) rfl ⟨[.int .i64 V.1, .slice ad5 V.2.length cap5], by rw [HCC.out], ?_, ?_⟩
    · rw [HVV.out]
      exact ((HF5.out.set (a := ⟨w.heap.size + 1, 0, none⟩) hl4).set (a := ⟨w.heap.size + 1, 1, none⟩) hl4).mono (by omega)
    · exact hB5.trans (((TchP.set (O := fun k => k = w.heap.size + 1) rfl).then (TchP.set (O := fun k => k = w.heap.size + 1) rfl) (fun k _ h => h)).below (by omega) (fun k hk h => by omega))
end Go.Proofs.YthjafhjghjbdmaaGreat
namespace Go.Proofs.YthjafhjghjbdmaaGreat
open Go.RowKit Go.Sort
theorem pw_ph {t : Tpl} {ar : Int} {ls : List (List Int)} {vs : List Int} (h : askC t ar = 0) (h1 : wOk t ar ls vs = true) (h3 : limF t ar.toNat = false) : pwV t ar ls vs = phV t ar ls vs ∧ pwC t ar ls vs = phC t ar ls vs := by
  unfold phV phC
  cases h2 : wF t ar ls vs with
  | none => exact pw_st h h1 h2
  | some f =>
    show pwV t ar ls vs = foV ar (polyF t ar f fun _ => -1) ∧ pwC t ar ls vs = foC (polyF t ar f fun _ => -1)
    by_cases h4 : (polyF t ar f fun _ => -1).1 = -1
    · obtain ⟨e1, e2⟩ := pw_yes h h1 h2 h3 h4
      have hc : ((polyF t ar f fun _ => -1).1 == -1) = true := by simpa using h4
      rw [e1, e2]
      unfold foV foC
      rw [hc]
      exact ⟨rfl, rfl⟩
    · have hc : ((polyF t ar f fun _ => -1).1 == -1) = false := by simpa using h4
      by_cases h5 : (polyF t ar f fun _ => -1).1 = 0
      · obtain ⟨e1, e2⟩ := pw_non h h1 h2 h3 h5
        have hz : ((polyF t ar f fun _ => -1).1 == 0) = true := by simpa using h5
        rw [e1, e2]
        unfold foV foC
        rw [hc, hz]
        exact ⟨rfl, rfl⟩
      · obtain ⟨e1, e2⟩ := pw_err h h1 h2 h3 h4 h5
        have hz : ((polyF t ar f fun _ => -1).1 == 0) = false := by simpa using h5
        rw [e1, e2]
        unfold foV foC
        rw [hc, hz]
        exact ⟨rfl, rfl⟩
set_option maxHeartbeats 800000 in
theorem pw1_any (w : World) {bt ba : Nat} {s ar : Int} {u : Value} {x : List Int} (h : intsT.Rd w [u] x) (hs : 0 ≤ s ∧ s ≤ 1000) (h0 : w.cell? ⟨bt, 0, none⟩ = some (.int .i64 s)) (h1 : w.cell? ⟨ba, 0, none⟩ = some (.int .i64 ar)) :
    Calls Tryz.prog 68 #[u, .pointer (some ⟨bt, 0, none⟩), .pointer (some ⟨ba, 0, none⟩)] w fun e w' => e = .returned (.bool (!(tb (rowOk s ar x)))) ∧ Below w.heap.size w w' := by
  have HX := Lib.hid h
  obtain ⟨ad, cap, rfl⟩ := rd_slice h
  clear h
  go_enter Tryz.func68, Tryz.ntmps68
  go_wp2_with fail
  refine (areValues_any w HX.out s ar hs.1 (by omega)).mono ?_
  rintro e w1 ⟨rfl, hb1⟩
  go_wp2_with fail
  go_ret
  exact ⟨rfl, hb1⟩
end Go.Proofs.YthjafhjghjbdmaaGreat
namespace Go.Proofs.YthjafhjghjbdmaaGreat
open Go.RowKit Go.Sort
/-- a struct of two cells, laid as a result -/
theorem res2_0 {W : World} {b : Nat} {x0 x y : Value} (s0 : W.cell? ⟨b, 0, none⟩ = some x0) : ((W.setCell ⟨b, 0, none⟩ x).setCell ⟨b, 1, none⟩ y).cell? ⟨b, 0, none⟩ = some x := (World.cell?_setCell_other _ _ _ _ (by simp)).trans (World.cell?_setCell_same _ _ _ s0)
theorem res2_1 {W : World} {b : Nat} {x1 x y : Value} (s1 : W.cell? ⟨b, 1, none⟩ = some x1) : ((W.setCell ⟨b, 0, none⟩ x).setCell ⟨b, 1, none⟩ y).cell? ⟨b, 1, none⟩ = some y := World.cell?_setCell_same _ _ _ ((World.cell?_setCell_other _ _ _ _ (by simp)).trans s1)
theorem res2_b {w W : World} {B b : Nat} {x y : Value} (h : Below B w W) (hB : B ≤ b) : Below B w ((W.setCell ⟨b, 0, none⟩ x).setCell ⟨b, 1, none⟩ y) := by
  refine ⟨h.os, h.tape, h.output, by have := h.size; simpa [World.setCell] using this, fun k hk => ?_⟩
  exact ((Below.heap_setCell _ _ _ _ (by simp; omega)).trans (Below.heap_setCell _ _ _ _ (by simp; omega))).trans (h.block k hk)
theorem fr_op0 {base : Nat} {w : World} : opT.Fr base w [.int .i64 0, .slice none 0 0] (0, []) := fr_cons (I64.small (by omega) (by omega)) fr_nil
theorem wOk_no1 {t : Tpl} {ar : Int} {ls : List (List Int)} {vs : List Int} (h : tb (rowOk t.1 ls.length vs) = false) : wOk t ar ls vs = false := by unfold wOk; rw [h]; rfl
theorem wOk_any {t : Tpl} {ar : Int} {ls : List (List Int)} {vs : List Int} (h : tb (rowOk t.1 ls.length vs) = true) : wOk t ar ls vs = !(anyB (fun l => !(tb (rowOk t.1 ar l))) ls) := by
  unfold wOk anyB
  rw [h, Bool.true_and, List.not_any_eq_all_not]
  simp
theorem wOk_in {t : Tpl} {ar : Int} {ls : List (List Int)} {vs : List Int} (h : wOk t ar ls vs = true) : ls.length = vs.length ∧ (∀ l ∈ ls, (l.length : Int) = ar ∧ ∀ a ∈ l, 0 ≤ a ∧ a ≤ t.1 - 1) ∧ ∀ a ∈ vs, 0 ≤ a ∧ a ≤ t.1 - 1 := by
  unfold wOk at h
  rw [Bool.and_eq_true, List.all_eq_true] at h
  have h1 := tb_iff.1 h.1
  exact ⟨by have := h1.1; omega, fun l hl => tb_iff.1 (h.2 l hl), h1.2⟩
theorem tabL_nil {t : Tpl} {ar : Int} : tabL (t.1, []) ar = tabL t ar := rfl
theorem limF_nil {s : Int} {n : Nat} : limF (s, []) n = false := by simp [limF, manyF, sumL]
theorem tplOk_nil {t : Tpl} (h : tplOk t) : tplOk (t.1, []) := ⟨h.1, by simp, fun r hr => by cases hr⟩
set_option maxHeartbeats 3200000 in
set_option maxRecDepth 100000 in
theorem PolymorphismWith_any (w : World) {cs : Array Value} {t : Tpl} {v v' : Value} {ls : List (List Int)} {vs : List Int} (h : tplT.Rd w cs.toList t) (hl : rowsT.Rd w [v] ls) (hv : intsT.Rd w [v'] vs) {ar : Int} :
    Calls Tryz.prog 22 #[.agg cs, .int .i64 ar, v, v'] w (RetAC opT w (pwV t ar ls vs) (pwC t ar ls vs)) := by
  have HT := Lib.hid h
  have hL : ls.length ≤ 140737488351232 := by
    obtain ⟨_, _, -, -, hc, -⟩ := slices_ex hl
    exact hc
  have HL := Lib.hid hl
  have HV := Lib.hid hv
  obtain ⟨v1, hv1, -, -⟩ := pair_ex h
  obtain rfl := agg_of hv1
  obtain ⟨la, lc, rfl⟩ := rd_slice hl
  obtain ⟨va, vc, rfl⟩ := rd_slice hv
  clear h hv1 hl hv
  go_enter Tryz.func22, Tryz.ntmps22
  go_wp2_with fail
  generalize hW : World.alloc (World.alloc (World.alloc w _) _) _ = W
  have hbW : Below w.heap.size w W := hW ▸ bthen bAA bA
  have hsW : w.heap.size + 3 ≤ W.heap.size := by rw [← hW]; simp
  have t0 : W.cell? ⟨w.heap.size, 0, none⟩ = some (.int .i64 t.1) := by rw [← hW]; simp [go_sem]
  have t1 : W.cell? ⟨w.heap.size, 1, none⟩ = some v1 := by rw [← hW]; simp [go_sem]
  have a0 : W.cell? ⟨w.heap.size + 1, 0, none⟩ = some (.int .i64 ar) := by rw [← hW]; simp [go_sem]
  have r0 : W.cell? ⟨w.heap.size + 1 + 1, 0, none⟩ = some (.int .i64 0) := by rw [← hW]; simp [go_sem]
  have r1 : W.cell? ⟨w.heap.size + 1 + 1, 1, none⟩ = some (.slice none 0 0) := by rw [← hW]; simp [go_sem]
  have q0 : W.frozen? ⟨w.heap.size + 1 + 1, 0, none⟩ = false := by rw [← hW]; simp [go_sem]
  have q1 : W.frozen? ⟨w.heap.size + 1 + 1, 1, none⟩ = false := by rw [← hW]; simp [go_sem]
  clear hW
  refine (searchFault_any _ (HT.out.below hbW) ar).mono ?_
  rintro e w1 ⟨rfl, hb1⟩
  have hB1 := bthen hbW hb1
  have hz1 := hb1.size
  replace t0 := (cellB hb1 (by omega)).trans t0
  replace t1 := (cellB hb1 (by omega)).trans t1
  replace a0 := (cellB hb1 (by omega)).trans a0
  replace r0 := (cellB hb1 (by omega)).trans r0
  replace r1 := (cellB hb1 (by omega)).trans r1
  replace q0 := (frozenB hb1 (by omega)).trans q0
  replace q1 := (frozenB hb1 (by omega)).trans q1
  have hl1 : w.heap.size + 3 ≤ w1.heap.size := by omega
  cases ha : (askC t ar != 0)
  · have ha0 : askC t ar = 0 := by simpa using ha
    have HAOK := Lib.hid (ask_ok ha0)
    have HA0 := Lib.hid ha0
    have har := (ask_ok ha0).2
    have hs4 := (ask_ok ha0).1.1
    unfold sizeOk at hs4
    rw [ha0]
    clear ha ha0
    go_wp2_with fail
    refine (areValues_any _ (HV.out.below hB1) t.1 (ls.length : Int) (by omega) (by omega)).mono ?_
    rintro e w2 ⟨rfl, hb2⟩
    have hB2 := bthen hB1 hb2
    have hz2 := hb2.size
    replace t0 := (cellB hb2 (by omega)).trans t0
    replace t1 := (cellB hb2 (by omega)).trans t1
    replace a0 := (cellB hb2 (by omega)).trans a0
    replace r0 := (cellB hb2 (by omega)).trans r0
    replace r1 := (cellB hb2 (by omega)).trans r1
    replace q0 := (frozenB hb2 (by omega)).trans q0
    replace q1 := (frozenB hb2 (by omega)).trans q1
    have hl2 : w.heap.size + 3 ≤ w2.heap.size := by omega
    cases hr : tb (rowOk t.1 (ls.length : Int) vs)
    · have HR := Lib.hid (pw_bad HA0.out (wOk_no1 (ar := ar) hr))
      have HZ0 := Lib.hid (fun (x y : Value) => res2_0 (x := x) (y := y) r0)
      have HZ1 := Lib.hid (fun (x y : Value) => res2_1 (x := x) (y := y) r1)
      clear hr
      go_wp2_with fail
      refine bodyPost_ret (v := .tuple #[.agg #[.int .i64 0, .slice none 0 0], .int .i64 2]) (by simp [results, Tryz.results22, go_sem, HZ0.out, HZ1.out]) rfl ⟨[.int .i64 0, .slice none 0 0], by rw [HR.out.2], ?_, res2_b hB2 (by omega)⟩
      rw [HR.out.1]
      exact fr_op0
    · have HWK := Lib.hid (wOk_any (ar := ar) hr)
      have HRV := Lib.hid (tb_iff.1 hr)
      clear hr
      have HPF : Hid (∀ W', Below w2.heap.size w2 W' → ∀ k (h : k < ls.length) (u : Value), intsT.Rd W' [u] ls[k] → Calls Tryz.prog 68 (#[u] ++ #[.pointer (some ⟨w.heap.size, 0, none⟩), .pointer (some ⟨w.heap.size + 1, 0, none⟩)]) W' fun e W'' => e = .returned (.bool ((fun l => !(tb (rowOk t.1 ar l))) ls[k])) ∧ Below W'.heap.size W' W'') := by
        intro W' hW' k hk u hu
        have hz := hW'.size
        exact pw1_any W' hu (by omega) ((cellB hW' (by omega)).trans t0) ((cellB hW' (by omega)).trans a0)
      go_wp2_with fail
      refine (ContainsFuncInts_any _ (HL.out.below hB2) (fun l => !(tb (rowOk t.1 ar l))) 68 _ (enters Tryz.func68 (by kernel_rfl) rfl) HPF.out).mono ?_
      rintro e w3 ⟨rfl, hb3⟩
      have hB3 := bthen hB2 hb3
      have hz3 := hb3.size
      replace t0 := (cellB hb3 (by omega)).trans t0
      replace t1 := (cellB hb3 (by omega)).trans t1
      replace a0 := (cellB hb3 (by omega)).trans a0
      replace r0 := (cellB hb3 (by omega)).trans r0
      replace r1 := (cellB hb3 (by omega)).trans r1
      replace q0 := (frozenB hb3 (by omega)).trans q0
      replace q1 := (frozenB hb3 (by omega)).trans q1
      have hl3 : w.heap.size + 3 ≤ w3.heap.size := by omega
      cases hn : anyB (fun l => !(tb (rowOk t.1 ar l))) ls
      · have HOK : Hid (wOk t ar ls vs = true) := by unfold Hid; rw [HWK.out, hn]; rfl
        obtain ⟨hlen, hin, hvs⟩ := wOk_in HOK.out
        have HIN := Lib.hid hin
        have HLEN := Lib.hid hlen
        have HVS := Lib.hid hvs
        have HT0 := Lib.hid (tplOk_nil HAOK.out.1)
        have hI1 : I64 t.1 := I64.small (by omega) (by omega)
        have HI1 := Lib.hid hI1
        clear hn hlen hin hvs hI1
        go_wp2_with fail
        refine (newFinder_any _ (ct := #[.int .i64 t.1, .slice none 0 0]) (t := (t.1, [])) (fr_cons (base := 0) HI1.out fr_nil).rd HT0.out har limF_nil (tabL_of HT0.out)).mono ?_
        rintro e w4 hnf
        obtain ⟨bs, gd, gt, vin, rfl, hbs, hgt, hne, hbx, hgth, -, -, hb4⟩ := hnf
        have hz4 := hb4.size
        obtain ⟨hbslt, b0, -, -, -, b5, -, -, -, -, -⟩ := hbx
        have hgtl := lt_of_block hgth
        have hNb := tabN_bd (tabN_of HAOK.out.1.1 (ar := ar.toNat) (by omega) (tabL_of HAOK.out.1))
        have hB4 := bthen hB3 hb4
        replace t0 := (cellB hb4 (by omega)).trans t0
        replace t1 := (cellB hb4 (by omega)).trans t1
        replace a0 := (cellB hb4 (by omega)).trans a0
        replace r0 := (cellB hb4 (by omega)).trans r0
        replace r1 := (cellB hb4 (by omega)).trans r1
        replace q0 := (frozenB hb4 (by omega)).trans q0
        replace q1 := (frozenB hb4 (by omega)).trans q1
        have hl4 : w.heap.size + 3 ≤ w4.heap.size := by omega
        rw [tabL_nil] at hgth b5
        have HI4 : Hid (IR 2 w3.heap.size w4 gt (tabL t ar) (tabL t ar) (List.replicate (tabL t ar) (-1))) := IR.of_mone hgth hgt (by omega)
        have hix : ∀ l ∈ ls, l.length ≤ 3 ∧ (∀ a ∈ l, 0 ≤ a ∧ a ≤ t.1 - 1) ∧ idxL t.1 0 l < (tabL t ar : Int) := fun l hl => by
          obtain ⟨h1, h2⟩ := HIN.out l hl
          refine ⟨by omega, h2, ?_⟩
          have h3 := (idx_bd (by omega) h2 l.length (Nat.le_refl _)).2
          rw [List.take_length] at h3
          have h4 := tabL_of (ar := ar) HAOK.out.1
          have h5 : ar.toNat = l.length := by omega
          rw [h5] at h4
          omega
        have HIX := Lib.hid hix
        clear hgth hix
        go_wp2_with fail
        refine (tell_any w4 hbslt b0 b5 HI4.out hne (by omega) (((rd_rdP HL.out).below hB4).mono (fun k _ hk => by omega)) (((rd_rdP HV.out).below hB4).mono (fun k _ hk => by omega)) HLEN.out HIX.out HVS.out (fun a ha => by rw [List.eq_of_mem_replicate ha]; omega) hL).mono ?_
        rintro e w5 ⟨rfl, ht5, -⟩
        rw [show telK t.1 ls vs (List.replicate (tabL t ar) (-1)) ls.length = wF t ar ls vs from rfl]
        have hz5 := ht5.size
        have hB5 : Below w.heap.size w w5 := hB4.trans (ht5.below (by omega) (fun k hk h => by omega))
        have hb5 : Below w3.heap.size w4 w5 := ht5.below (by omega) (fun k hk h => by omega)
        replace t0 := (cellB hb5 (by omega)).trans t0
        replace t1 := (cellB hb5 (by omega)).trans t1
        replace a0 := (cellB hb5 (by omega)).trans a0
        replace r0 := (cellB hb5 (by omega)).trans r0
        replace r1 := (cellB hb5 (by omega)).trans r1
        replace q0 := (frozenB hb5 (by omega)).trans q0
        replace q1 := (frozenB hb5 (by omega)).trans q1
        have hl5 : w.heap.size + 3 ≤ w5.heap.size := by omega
        clear b0 b5 ht5
        have HZ0 := Lib.hid (fun (x y : Value) => res2_0 (x := x) (y := y) r0)
        have HZ1 := Lib.hid (fun (x y : Value) => res2_1 (x := x) (y := y) r1)
        cases hw : wF t ar ls vs with
        | none =>
          have HR := Lib.hid (pw_st HA0.out HOK.out hw)
          rw [show (none : Option (List Int)).isSome = false from rfl]
          clear hw
          go_wp2_with fail
          refine bodyPost_ret (v := .tuple #[.agg #[.int .i64 0, .slice none 0 0], .int .i64 4]) (by simp [results, Tryz.results22, go_sem, HZ0.out, HZ1.out]) rfl ⟨[.int .i64 0, .slice none 0 0], by rw [HR.out.2], ?_, res2_b hB5 (by omega)⟩
          rw [HR.out.1]
          exact fr_op0
        | some f =>
          have HW := Lib.hid hw
          rw [show (some f : Option (List Int)).isSome = true from rfl]
          clear hw HZ0 HZ1
          go_wp2_with fail
          refine (manyLooks_any _ (HT.out.below hB5) HAOK.out.1 har).mono ?_
          rintro e w6 ⟨rfl, hb6⟩
          have hB6 := bthen hB5 hb6
          have hz6 := hb6.size
          replace t0 := (cellB hb6 (by omega)).trans t0
          replace t1 := (cellB hb6 (by omega)).trans t1
          replace a0 := (cellB hb6 (by omega)).trans a0
          replace r0 := (cellB hb6 (by omega)).trans r0
          replace r1 := (cellB hb6 (by omega)).trans r1
          replace q0 := (frozenB hb6 (by omega)).trans q0
          replace q1 := (frozenB hb6 (by omega)).trans q1
          have hl6 : w.heap.size + 3 ≤ w6.heap.size := by omega
          have HLM : Hid (decide (4000 < sumL (minP ar.toNat) t.2) = limF t ar.toNat) := lim_min
          generalize sumL (minP ar.toNat) t.2 = S at *
          cases hlm : decide (4000 < S)
          · have HLF : Hid (limF t ar.toNat = false) := by unfold Hid; rw [← HLM.out]; exact hlm
            have HPH := Lib.hid (pw_ph HA0.out HOK.out HLF.out)
            go_wp2_with fail
            refine (polymorphismWith_any _ (HT.out.below hB6) (HL.out.below hB6) (HV.out.below hB6) HAOK.out.1 har HLF.out HIN.out HLEN.out HVS.out hL).mono ?_
            rintro e w7 ⟨cs7, rfl, hf7, hb7⟩
            rw [← HPH.out.1] at hf7
            rw [← HPH.out.2]
            generalize hV : pwV t ar ls vs = V at hf7
            generalize hC : pwC t ar ls vs = C
            have HCC := Lib.hid hC
            have HVV := Lib.hid hV
            obtain ⟨ad7, cap7, rfl⟩ := fr_pair hf7
            have HF7 := Lib.hid hf7
            have hB7 := bthen hB6 hb7
            have hz7 := hb7.size
            replace t0 := (cellB hb7 (by omega)).trans t0
            replace t1 := (cellB hb7 (by omega)).trans t1
            replace a0 := (cellB hb7 (by omega)).trans a0
            replace r0 := (cellB hb7 (by omega)).trans r0
            replace r1 := (cellB hb7 (by omega)).trans r1
            replace q0 := (frozenB hb7 (by omega)).trans q0
            replace q1 := (frozenB hb7 (by omega)).trans q1
            have hl7 : w.heap.size + 3 ≤ w7.heap.size := by omega
            have HZ0 := Lib.hid (fun (x y : Value) => res2_0 (x := x) (y := y) r0)
            have HZ1 := Lib.hid (fun (x y : Value) => res2_1 (x := x) (y := y) r1)
            clear hf7 hlm HPH hC hV
            go_wp2_with fail
            refine bodyPost_ret (v := .tuple #[.agg #[.int .i64 V.1, .slice ad7 V.2.length cap7], .int .i64 C]) (by simp [results, Tryz.results22, go_sem, HZ0.out, HZ1.out]) rfl ⟨[.int .i64 V.1, .slice ad7 V.2.length cap7], by rw [HCC.out], ?_, res2_b hB7 (by omega)⟩
            rw [HVV.out]
            exact ((HF7.out.set (a := ⟨w.heap.size + 1 + 1, 0, none⟩) (show w.heap.size + 1 + 1 < w6.heap.size by omega)).set (a := ⟨w.heap.size + 1 + 1, 1, none⟩) (show w.heap.size + 1 + 1 < w6.heap.size by omega)).mono (by omega)
          · have HR := Lib.hid (pw_lim HA0.out HOK.out HW.out (by rw [← HLM.out]; exact hlm))
            have HZ0 := Lib.hid (fun (x y : Value) => res2_0 (x := x) (y := y) r0)
            have HZ1 := Lib.hid (fun (x y : Value) => res2_1 (x := x) (y := y) r1)
            go_wp2_with fail
            refine bodyPost_ret (v := .tuple #[.agg #[.int .i64 0, .slice none 0 0], .int .i64 3]) (by simp [results, Tryz.results22, go_sem, HZ0.out, HZ1.out]) rfl ⟨[.int .i64 0, .slice none 0 0], by rw [HR.out.2], ?_, res2_b hB6 (by omega)⟩
            rw [HR.out.1]
            exact fr_op0
      · have HR := Lib.hid (pw_bad (ar := ar) (vs := vs) HA0.out (by rw [HWK.out, hn]; rfl))
        have HZ0 := Lib.hid (fun (x y : Value) => res2_0 (x := x) (y := y) r0)
        have HZ1 := Lib.hid (fun (x y : Value) => res2_1 (x := x) (y := y) r1)
        clear hn
        go_wp2_with fail
        refine bodyPost_ret (v := .tuple #[.agg #[.int .i64 0, .slice none 0 0], .int .i64 2]) (by simp [results, Tryz.results22, go_sem, HZ0.out, HZ1.out]) rfl ⟨[.int .i64 0, .slice none 0 0], by rw [HR.out.2], ?_, res2_b hB3 (by omega)⟩
        rw [HR.out.1]
        exact fr_op0
  · have HR := Lib.hid (pw_ask (t := t) (ar := ar) (ls := ls) (vs := vs) (by simpa using ha))
    have HZ0 := Lib.hid (fun (x y : Value) => res2_0 (x := x) (y := y) r0)
    have HZ1 := Lib.hid (fun (x y : Value) => res2_1 (x := x) (y := y) r1)
    generalize askC t ar = C at *
    go_wp2_with fail
    refine bodyPost_ret (v := .tuple #[.agg #[.int .i64 0, .slice none 0 0], .int .i64 C]) (by simp [results, Tryz.results22, go_sem, HZ0.out, HZ1.out]) rfl ⟨[.int .i64 0, .slice none 0 0], by rw [HR.out.2], ?_, res2_b hB1 (by omega)⟩
    rw [HR.out.1]
    exact fr_op0
end Go.Proofs.YthjafhjghjbdmaaGreat
