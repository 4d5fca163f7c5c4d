/-
Contracts: values that are told to a search.
Plain: a polymorphism with given values. No program is named here.
Contracts: the first operation that a search finds.
Contracts: the first polymorphism with given values, the program's.
Contracts: a polymorphism with given values, the program's.
Contracts: a polymorphism with given values, the program's, whole.
Contracts: a polymorphism with given values, the reference's.
Contracts: a polymorphism with given values, the reference's, whole.
Plain: how great an operation with given values is.
Contracts: the lists of the values of tuples at all places, both sides.
-/
import Derived.Test.YtajmjfbejfiipaaGreatQAG
import Derived.Test.YtajmjfbejfiipaaGreatQAH
import Derived.Test.YtajmjfbejfiipaaGreatQAI
namespace Go.Proofs.YtajmjfbejfiipaaGreat
open Go.RowKit Go.Sort
/-- one value told; none if it was told otherwise -/
def tellAt (s : Int) (l : List Int) (v : Int) (f : List Int) : Option (List Int) := match decide (0 ≤ f.getD (idxL s 0 l).toNat 0) && (f.getD (idxL s 0 l).toNat 0 != v) with
 | true => none
 | false => some (f.set (idxL s 0 l).toNat v)
/-- the first k values told -/
def telK (s : Int) (ls : List (List Int)) (vs : List Int) (f : List Int) : Nat → Option (List Int)
 | 0 => some f
 | k + 1 => (telK s ls vs f k).bind (tellAt s (ls.getD k []) (vs.getD k 0))
section
variable {s : Int} {ls : List (List Int)} {vs f g : List Int} {k : Nat}
theorem telK_none (h : telK s ls vs f k = none) : ∀ {n}, k ≤ n → telK s ls vs f n = none := by
 intro n hn
 obtain ⟨d, rfl⟩ : ∃ d, n = k + d := ⟨n - k, by omega⟩
 induction d with
 | zero => exact h
 | succ d ih =>
  show (telK s ls vs f (k + d)).bind _ = none
  rw [ih (by omega)]
  rfl
theorem telK_no (h : telK s ls vs f k = some g) (hk : k < ls.length) (hv : k < vs.length) (h1 : (decide (0 ≤ g.getD (idxL s 0 ls[k]).toNat 0) && (g.getD (idxL s 0 ls[k]).toNat 0 != vs[k])) = true) : telK s ls vs f (k + 1) = none := by
 show (telK s ls vs f k).bind _ = none
 rw [h]
 show tellAt s (ls.getD k []) (vs.getD k 0) g = none
 rw [List.getD_eq_getElem?_getD, List.getD_eq_getElem?_getD, List.getElem?_eq_getElem hk, List.getElem?_eq_getElem hv]
 simp only [Option.getD_some, tellAt, h1]
theorem telK_yes (h : telK s ls vs f k = some g) (hk : k < ls.length) (hv : k < vs.length) (h1 : (decide (0 ≤ g.getD (idxL s 0 ls[k]).toNat 0) && (g.getD (idxL s 0 ls[k]).toNat 0 != vs[k])) = false) : telK s ls vs f (k + 1) = some (g.set (idxL s 0 ls[k]).toNat vs[k]) := by
 show (telK s ls vs f k).bind _ = _
 rw [h]
 show tellAt s (ls.getD k []) (vs.getD k 0) g = _
 rw [List.getD_eq_getElem?_getD, List.getD_eq_getElem?_getD, List.getElem?_eq_getElem hk, List.getElem?_eq_getElem hv]
 simp only [Option.getD_some, tellAt, h1]
theorem telK_ok (h : telK s ls vs f k = some g) (hf : ∀ a ∈ f, -1 ≤ a ∧ a ≤ s - 1) (hv : ∀ a ∈ vs, 0 ≤ a ∧ a ≤ s - 1) (hs : 1 ≤ s) : g.length = f.length ∧ ∀ a ∈ g, -1 ≤ a ∧ a ≤ s - 1 := by
 induction k generalizing g with
 | zero => cases h; exact ⟨rfl, hf⟩
 | succ k ih =>
  cases h0 : telK s ls vs f k with
  | none => rw [telK_none h0 (Nat.le_succ k)] at h; cases h
  | some q =>
   obtain ⟨i1, i2⟩ := ih h0
   have h' : tellAt s (ls.getD k []) (vs.getD k 0) q = some g := by
    have h9 : (telK s ls vs f k).bind (tellAt s (ls.getD k []) (vs.getD k 0)) = some g := h
    rw [h0] at h9
    exact h9
   unfold tellAt at h'
   split at h'
   ·cases h'
   ·cases h'
    refine ⟨by rw [List.length_set]; exact i1, fun a ha => ?_⟩
    rcases List.mem_or_eq_of_mem_set ha with ha | rfl
    ·exact i2 a ha
    ·rw [List.getD_eq_getElem?_getD]
     cases h3 : vs[k]? with
     | none => simp; omega
     | some b => have := hv b (List.mem_of_getElem? h3); simp; omega
end
set_option maxHeartbeats 3200000 in
set_option maxRecDepth 100000 in
theorem tell_any (w : World) {e base bs gt N : Nat} {s : Int} {fx : List Int} {v v' : Value} {ls : List (List Int)} {vs : List Int} (hbs : bs < w.heap.size) (c0 : w.cell? ⟨bs, 0, none⟩ = some (.int .i64 s)) (c5 : w.cell? ⟨bs, 5, none⟩ = some (.slice (some ⟨gt, 0, none⟩) N N)) (hI : IR e base w gt N N fx) (hne : gt ≠ bs) (hs : 1 ≤ s ∧ s ≤ 4)
  (hl : rowsT.RdP (fun k => k ≠ gt) w [v] ls) (hv : intsT.RdP (fun k => k ≠ gt) w [v'] vs) (hlen : ls.length = vs.length) (hin : ∀ l ∈ ls, l.length ≤ 3 ∧ (∀ a ∈ l, 0 ≤ a ∧ a ≤ s - 1) ∧ idxL s 0 l < N) (hvs : ∀ a ∈ vs, 0 ≤ a ∧ a ≤ s - 1) (hfx : ∀ a ∈ fx, -1 ≤ a ∧ a ≤ s - 1) (hL : ls.length ≤ 140737488351232) :
  Calls Tryz.prog 198 #[.pointer (some ⟨bs, 0, none⟩), v, v'] w fun en w' => en = .returned (.bool (telK s ls vs fx ls.length).isSome) ∧ TchP (fun k => k = gt) w w' ∧ ∀ f, telK s ls vs fx ls.length = some f → IR e base w' gt N N f := by
 have HL := Lib.hid hl
 have HV := Lib.hid hv
 have HI := Lib.hid hI
 have HIN := Lib.hid hin
 have HVS := Lib.hid hvs
 have HFX := Lib.hid hfx
 have HLEN := Lib.hid hlen
 obtain ⟨la, lc, hx, -, -, -⟩ := slice_exP hl
 obtain rfl : v = _ := by simpa using hx
 obtain ⟨va, vc, hx', -, -, -⟩ := slice_exP hv
 obtain rfl : v' = _ := by simpa using hx'
 have HC0 := Lib.hid c0
 have HC5 := Lib.hid c5
 have hnb : bs ≠ gt := fun h => hne h.symm
 clear hl hv hI hin hvs hfx hx hx' hlen c0 c5
 go_enter Tryz.func198, Tryz.ntmps198
 go_wp2_with fail
 go_loopw [12] (fun i wr => ∃ (k : Nat) (f : List Int), k ≤ ls.length ∧ i = .int .i64 k ∧ telK s ls vs fx k = some f ∧ IR e base wr gt N N f ∧ TchP (fun q => q = gt) w wr) (fun i _ => ls.length - (intOf i).toNat)
 case atStart => exact ⟨0, fx, Nat.zero_le _, rfl, rfl, HI.out, TchP.refl _ _⟩
 case round =>
  obtain ⟨k, f, hk, rfl, htk, hIf, ht⟩ := hrel
  have HTK := Lib.hid htk
  have HIF := Lib.hid hIf
  have HT := Lib.hid ht
  obtain ⟨hfl, hfb⟩ := telK_ok htk HFX.out HVS.out hs.1
  have hfN : f.length = N := hIf.1
  have hzr := ht.size
  have b0 := (ht.cell (i := 0) hbs hnb).trans HC0.out
  have b5 := (ht.cell (i := 5) hbs hnb).trans HC5.out
  obtain ⟨wv, rfl⟩ : ∃ wv : World, wv = wr := ⟨_, rfl⟩
  clear htk hIf ht
  by_cases hkl : k < ls.length
  ·have hkv : k < vs.length := by rw [← HLEN.out]; exact hkl
   obtain ⟨_, _, hx, -, -, hxe⟩ := slice_exP (HL.out.tchP HT.out (fun q _ h e => h e))
   simp only [List.cons.injEq, Value.slice.injEq, and_true] at hx
   obtain ⟨rfl, -, rfl⟩ := hx
   obtain ⟨lb, lo, rfl, hlb, -, hce⟩ := hxe (by omega)
   obtain ⟨cs, hcs, hcell⟩ := hce k hkl
   obtain ⟨ka, kc, rfl, -, -, -⟩ := slice_exP hcs
   have d0 : wv.cell? ⟨lb, lo + k, none⟩ = some (.slice ka ls[k].length kc) := by
    have := hcell 0 (by simp)
    simpa [Ty.slice] using this
   obtain ⟨_, _, hx, -, -, hxe'⟩ := slice_exP (HV.out.tchP HT.out (fun q _ h e => h e))
   simp only [List.cons.injEq, Value.slice.injEq, and_true] at hx
   obtain ⟨rfl, -, rfl⟩ := hx
   obtain ⟨vb, vo, rfl, hvb, hvg, hce'⟩ := hxe' (by omega)
   obtain ⟨cs', ⟨fp', ⟨rfl, hIv, -⟩, -⟩, hcell'⟩ := hce' k hkv
   have d1 : wv.cell? ⟨vb, vo + k, none⟩ = some (.int .i64 vs[k]) := by
    have := hcell' 0 (by simp)
    simpa [Ty.int] using this
   obtain ⟨i1, i2, i3⟩ := HIN.out ls[k] (List.getElem_mem hkl)
   have HRD := Lib.hid hcs.rd
   have hi0 := (idx_bd hs.1 i2 ls[k].length (Nat.le_refl _)).1
   rw [List.take_length] at hi0
   have HI2 := Lib.hid i2
   have HYES := Lib.hid (fun h => telK_yes (s := s) HTK.out hkl hkv h)
   have HNO := Lib.hid (fun h => telK_no (s := s) HTK.out hkl hkv h)
   have hvk := HVS.out vs[k] (List.getElem_mem hkv)
   rw [HLEN.out] at *
   clear hxe hce hcell hxe' hce' hcell' hcs i2
   go_wp2_with fail
   refine (indexOf_any _ s HRD.out hs.1 (by omega) (by omega) HI2.out).mono ?_
   rintro e' _ ⟨rfl, rfl⟩
   obtain ⟨q, hq⟩ : ∃ q : Nat, idxL s 0 ls[k] = q := ⟨_, (Int.toNat_of_nonneg hi0).symm⟩
   rw [hq] at i3 HYES HNO ⊢
   have hqN : q < N := by omega
   have hqf : q < f.length := by omega
   have dq : wv.cell? ⟨gt, q, none⟩ = some (.int .i64 f[q]) := by
    rw [World.ownsRow.cellAt HIF.out.2.2.2 q (by omega), List.getElem?_map, List.getElem?_eq_getElem hqf]
    rfl
   have fq := HIF.out.free q
   have hgd : f.getD q 0 = f[q] := by rw [List.getD_eq_getElem?_getD, List.getElem?_eq_getElem hqf]; rfl
   rw [Int.toNat_natCast, hgd] at HYES HNO
   have hgl := HIF.out.lt
   generalize hfq : f[q] = y at *
   generalize hvq : vs[k] = z at *
   clear hq hgd hfq hvq hi0
   go_wp2_with fail
   cases hd : decide (0 ≤ y)
   ·have HE := Lib.hid (HYES.out (by rw [hd]; rfl))
    go_quiet (fail)
    go_wp2_with fail
    generalize hW : wv.drewN _ = wx
    have hbx : Below wv.heap.size wv wx := hW ▸ (Quiet.drewN wv _).below
    clear hW
    have hgx : gt < wx.heap.size := Nat.lt_of_lt_of_le hgl hbx.size
    have b5x := (cellB hbx (show bs < wv.heap.size by omega)).trans b5
    have d1x := (cellB hbx hvb).trans d1
    have dqx := (cellB hbx hgl).trans dq
    have fqx := (frozenB hbx hgl).trans fq
    have HIX : Hid (IR e base wx gt N N f) := HIF.out.same (hbx.block gt hgl)
    have HTX : Hid (TchP (fun q => q = gt) w wx) := HT.out.then (TchP.of_below hbx (fun q => q = gt)) (fun q _ h => h)
    clear b0 b5 d0 d1 dq fq
    refine wp_region_T (fun w' => w'.cell? ⟨bs, 5, none⟩ = some (.slice (some ⟨gt, 0, none⟩) N N) ∧ w'.cell? ⟨vb, vo + k, none⟩ = some (.int .i64 z)) [10] (by kernel_rfl) ⟨b5x, d1x⟩ (fun hHeld => ?_)
    refine wpAnyT_take (i := 0) (v := ?_) rfl (by kernel_rfl) (fun _ _ _ h => h) (Or.inl ⟨by rfl, ?_⟩) (by assumption) ?_
    rotate_left
    ·(intro w hSw; (try dsimp only at hSw); go_simp <;> with_reducible rfl)
    go_simp
    refine wpAnyT_take (i := 1) (v := ?_) rfl (by kernel_rfl) (fun _ _ _ h => h) (Or.inl ⟨by rfl, ?_⟩) (by assumption) ?_
    rotate_left
    ·(intro w hSw; (try dsimp only at hSw); go_simp <;> with_reducible rfl)
    go_simp
    refine wpAnyT_take (i := 2) (v := ?_) rfl (by kernel_rfl) (fun _ _ _ h => h) (Or.inl ⟨by rfl, ?_⟩) (by assumption) ?_
    rotate_left
    ·(intro w hSw; (try dsimp only at hSw); go_simp <;> with_reducible rfl)
    go_simp
    refine wpAnyT_take (i := 3) (v := ?_) rfl (by kernel_rfl) (fun _ _ _ h => h) (Or.inl ⟨by rfl, ?_⟩) (by assumption) ?_
    rotate_left
    ·(intro w hSw; (try dsimp only at hSw); go_simp <;> with_reducible rfl)
    go_simp
    refine wpAnyT_take (i := 4) (v := ?_) rfl (by kernel_rfl) (fun _ _ _ h => h) (Or.inl ⟨by rfl, ?_⟩) (by assumption) ?_
    rotate_left
    ·(intro w hSw; (try dsimp only at hSw); go_simp <;> with_reducible rfl)
    go_simp
    refine wpAnyT_take (i := 5) (v := ?_) rfl (by kernel_rfl) (fun _ _ _ h => h) (Or.inl ⟨by rfl, ?_⟩) (by assumption) ?_
    rotate_left
    ·(intro w hSw; (try dsimp only at hSw); go_simp <;> with_reducible rfl)
    go_simp
    refine wpAnyT_take (i := 6) (v := ?_) rfl (by kernel_rfl) (fun _ _ _ h => h) (Or.inl ⟨by rfl, ?_⟩) (by assumption) ?_
    rotate_left
    ·(intro w hSw; (try dsimp only at hSw); go_simp <;> with_reducible rfl)
    go_simp
    refine wpAnyT_take (i := 7) (v := ?_) rfl (by kernel_rfl) (fun _ _ _ h => h) (Or.inl ⟨by rfl, ?_⟩) (by assumption) ?_
    rotate_left
    ·(intro w hSw; (try dsimp only at hSw); go_simp <;> with_reducible rfl)
    go_simp
    refine wpAnyT_take (i := 8) (v := ?_) rfl (by kernel_rfl) (fun _ _ _ h => h) (Or.inl ⟨by rfl, ?_⟩) (by assumption) ?_
    rotate_left
    ·(intro w hSw; (try dsimp only at hSw); go_simp <;> with_reducible rfl)
    go_simp
    refine wpAnyT_take (i := 9) (v := ?_) rfl (by kernel_rfl) (fun _ _ _ h => h) (Or.inl ⟨by rfl, ?_⟩) (by assumption) ?_
    rotate_left
    ·(intro w hSw; (try dsimp only at hSw); go_simp <;> with_reducible rfl)
    go_simp
    refine wpAnyT_last (i := 10) rfl (by kernel_rfl) (by kernel_rfl) (fun K hK => ?_)
    go_simp
    have hz6 : gt < (wx.setCell ⟨gt, q, none⟩ (.int .i64 z)).heap.size := by simpa [World.setCell] using hgx
    have HI5 : Hid (IR e base (wx.setCell ⟨gt, q, none⟩ (.int .i64 z)).drew gt N N (f.set q z)) := (HIX.out.set q hIv).same (bD.block gt hz6)
    have HT5 : Hid (TchP (fun q => q = gt) w (wx.setCell ⟨gt, q, none⟩ (.int .i64 z)).drew) := (HTX.out.then (TchP.set (O := fun q => q = gt) rfl) (fun q _ h => h)).then (TchP.of_below bD (fun q => q = gt)) (fun q _ h => h)
    generalize (wx.setCell ⟨gt, q, none⟩ (.int .i64 z)).drew = w5 at *
    refine hK.out _ _ ?_
    clear hK K
    refine wpAnyT_done (by kernel_rfl) ?_ _
    go_simp
    go_wp2_with fail
    go_roundw
    case rel => exact ⟨k + 1, f.set q z, by omega, by go_num, HE.out, HI5.out, HT5.out⟩
    case measure => simp [intOf]; omega
   ·cases hn : (y != z)
    ·have HE := Lib.hid (HYES.out (by rw [hd, hn]; rfl))
     go_quiet (fail)
     go_wp2_with fail
     generalize hW : wv.drewN _ = wx
     have hbx : Below wv.heap.size wv wx := hW ▸ (Quiet.drewN wv _).below
     clear hW
     have hgx : gt < wx.heap.size := Nat.lt_of_lt_of_le hgl hbx.size
     have b5x := (cellB hbx (show bs < wv.heap.size by omega)).trans b5
     have d1x := (cellB hbx hvb).trans d1
     have dqx := (cellB hbx hgl).trans dq
     have fqx := (frozenB hbx hgl).trans fq
     have HIX : Hid (IR e base wx gt N N f) := HIF.out.same (hbx.block gt hgl)
     have HTX : Hid (TchP (fun q => q = gt) w wx) := HT.out.then (TchP.of_below hbx (fun q => q = gt)) (fun q _ h => h)
     clear b0 b5 d0 d1 dq fq
     refine wp_region_T (fun w' => w'.cell? ⟨bs, 5, none⟩ = some (.slice (some ⟨gt, 0, none⟩) N N) ∧ w'.cell? ⟨vb, vo + k, none⟩ = some (.int .i64 z)) [10] (by kernel_rfl) ⟨b5x, d1x⟩ (fun hHeld => ?_)
     refine wpAnyT_take (i := 0) (v := ?_) rfl (by kernel_rfl) (fun _ _ _ h => h) (Or.inl ⟨by rfl, ?_⟩) (by assumption) ?_
     rotate_left
     ·(intro w hSw; (try dsimp only at hSw); go_simp <;> with_reducible rfl)
     go_simp
     refine wpAnyT_take (i := 1) (v := ?_) rfl (by kernel_rfl) (fun _ _ _ h => h) (Or.inl ⟨by rfl, ?_⟩) (by assumption) ?_
     rotate_left
     ·(intro w hSw; (try dsimp only at hSw); go_simp <;> with_reducible rfl)
     go_simp
     refine wpAnyT_take (i := 2) (v := ?_) rfl (by kernel_rfl) (fun _ _ _ h => h) (Or.inl ⟨by rfl, ?_⟩) (by assumption) ?_
     rotate_left
     ·(intro w hSw; (try dsimp only at hSw); go_simp <;> with_reducible rfl)
     go_simp
     refine wpAnyT_take (i := 3) (v := ?_) rfl (by kernel_rfl) (fun _ _ _ h => h) (Or.inl ⟨by rfl, ?_⟩) (by assumption) ?_
     rotate_left
     ·(intro w hSw; (try dsimp only at hSw); go_simp <;> with_reducible rfl)
     go_simp
     refine wpAnyT_take (i := 4) (v := ?_) rfl (by kernel_rfl) (fun _ _ _ h => h) (Or.inl ⟨by rfl, ?_⟩) (by assumption) ?_
     rotate_left
     ·(intro w hSw; (try dsimp only at hSw); go_simp <;> with_reducible rfl)
     go_simp
     refine wpAnyT_take (i := 5) (v := ?_) rfl (by kernel_rfl) (fun _ _ _ h => h) (Or.inl ⟨by rfl, ?_⟩) (by assumption) ?_
     rotate_left
     ·(intro w hSw; (try dsimp only at hSw); go_simp <;> with_reducible rfl)
     go_simp
     refine wpAnyT_take (i := 6) (v := ?_) rfl (by kernel_rfl) (fun _ _ _ h => h) (Or.inl ⟨by rfl, ?_⟩) (by assumption) ?_
     rotate_left
     ·(intro w hSw; (try dsimp only at hSw); go_simp <;> with_reducible rfl)
     go_simp
     refine wpAnyT_take (i := 7) (v := ?_) rfl (by kernel_rfl) (fun _ _ _ h => h) (Or.inl ⟨by rfl, ?_⟩) (by assumption) ?_
     rotate_left
     ·(intro w hSw; (try dsimp only at hSw); go_simp <;> with_reducible rfl)
     go_simp
     refine wpAnyT_take (i := 8) (v := ?_) rfl (by kernel_rfl) (fun _ _ _ h => h) (Or.inl ⟨by rfl, ?_⟩) (by assumption) ?_
     rotate_left
     ·(intro w hSw; (try dsimp only at hSw); go_simp <;> with_reducible rfl)
     go_simp
     refine wpAnyT_take (i := 9) (v := ?_) rfl (by kernel_rfl) (fun _ _ _ h => h) (Or.inl ⟨by rfl, ?_⟩) (by assumption) ?_
     rotate_left
     ·(intro w hSw; (try dsimp only at hSw); go_simp <;> with_reducible rfl)
     go_simp
     refine wpAnyT_last (i := 10) rfl (by kernel_rfl) (by kernel_rfl) (fun K hK => ?_)
     go_simp
     have hz6 : gt < (wx.setCell ⟨gt, q, none⟩ (.int .i64 z)).heap.size := by simpa [World.setCell] using hgx
     have HI5 : Hid (IR e base (wx.setCell ⟨gt, q, none⟩ (.int .i64 z)).drew gt N N (f.set q z)) := (HIX.out.set q hIv).same (bD.block gt hz6)
     have HT5 : Hid (TchP (fun q => q = gt) w (wx.setCell ⟨gt, q, none⟩ (.int .i64 z)).drew) := (HTX.out.then (TchP.set (O := fun q => q = gt) rfl) (fun q _ h => h)).then (TchP.of_below bD (fun q => q = gt)) (fun q _ h => h)
     generalize (wx.setCell ⟨gt, q, none⟩ (.int .i64 z)).drew = w5 at *
     refine hK.out _ _ ?_
     clear hK K
     refine wpAnyT_done (by kernel_rfl) ?_ _
     go_simp
     go_wp2_with fail
     go_roundw
     case rel => exact ⟨k + 1, f.set q z, by omega, by go_num, HE.out, HI5.out, HT5.out⟩
     case measure => simp [intOf]; omega
    ·have HE := Lib.hid (HNO.out (by rw [hd, hn]; rfl))
     go_quiet (fail)
     go_wp2_with fail
     go_ret
     have hno : telK s ls vs fx ls.length = none := telK_none HE.out (by omega)
     rw [hno]
     exact ⟨rfl, HT.out.then (TchP.of_below (Quiet.drewN wv _).below (fun q => q = gt)) (fun q _ h => h), fun g hg => by cases hg⟩
  ·obtain rfl : k = ls.length := by omega
   have hnl : ¬ (ls.length < ls.length) := by omega
   go_wp2_with fail
   go_ret
   rw [HTK.out]
   exact ⟨rfl, HT.out, fun g hg => by cases hg; exact HIF.out⟩
/-- the reference's told values laid in -/
theorem Ru.setF {ok : Nat → Prop} {w : World} {br : Nat} {t : Tpl} {ar : Int} {due : List (List (Int × List Int))} {fx fx' : List Int} {u : Value} (h : Ru ok w br t ar due fx) (hO : ¬ ok br) (hv : intsT.RdP ok w [u] fx') : Ru ok (w.setCell ⟨br, 4, none⟩ u) br t ar due fx' := by
 obtain ⟨h1, tb, tq, v2, v3, v4, c0, htb, hk, ct, c1, c2, c3, c4, h3, h4, h5⟩ := h
 have hs : TchP (fun k => k = br) w (w.setCell ⟨br, 4, none⟩ u) := TchP.set rfl
 have hkk : ∀ k, k < w.heap.size → ok k → ¬ (k = br) := fun k _ hk e => hO (e ▸ hk)
 have hc : ∀ j, j ≠ 4 → (w.setCell ⟨br, 4, none⟩ u).cell? ⟨br, j, none⟩ = w.cell? ⟨br, j, none⟩ := fun _ hj => World.cell?_setCell_other _ _ _ _ (fun e => hj (congrArg Addr.off e.symm))
 exact ⟨by simpa [World.setCell] using h1, tb, tq, v2, v3, u, (hc 0 (by omega)).trans c0, by simpa [World.setCell] using htb, hk, (hs.cell htb (hkk tb htb hk)).trans ct, (hc 1 (by omega)).trans c1, (hc 2 (by omega)).trans c2, (hc 3 (by omega)).trans c3, World.cell?_setCell_same _ _ _ c4, h3.tchP hs hkk, h4.tchP hs hkk, hv.tchP hs hkk⟩
theorem Mc.setF {e base : Nat} {w : World} {br gt N : Nat} {T : List Int} {st : Nat} {bg : Bool} {u : Value} (h : Mc e base w br gt N T st bg) (hne : gt ≠ br) : Mc e base (w.setCell ⟨br, 4, none⟩ u) br gt N T st bg := by
 obtain ⟨h0, c5, hi, c6, c7, f6, f7⟩ := h
 have hc : ∀ j, j ≠ 4 → (w.setCell ⟨br, 4, none⟩ u).cell? ⟨br, j, none⟩ = w.cell? ⟨br, j, none⟩ := fun _ hj => World.cell?_setCell_other _ _ _ _ (fun e => hj (congrArg Addr.off e.symm))
 exact ⟨by simpa [World.setCell] using h0, (hc 5 (by omega)).trans c5, hi.same (Below.heap_setCell _ _ _ _ (by simpa using hne)), (hc 6 (by omega)).trans c6, (hc 7 (by omega)).trans c7, (World.frozen?_setCell _ _ _ _).trans f6, (World.frozen?_setCell _ _ _ _).trans f7⟩
end Go.Proofs.YtajmjfbejfiipaaGreat
namespace Go.Proofs.YtajmjfbejfiipaaGreat
open Go.RowKit Go.Sort
/-- what is told, in all -/
noncomputable def wF (t : Tpl) (ar : Int) (ls : List (List Int)) (vs : List Int) : Option (List Int) := telK t.1 ls vs (List.replicate (tabL t ar) (-1)) ls.length
section
variable {t : Tpl} {ar : Int} {ls : List (List Int)} {vs : List Int}
end
end Go.Proofs.YtajmjfbejfiipaaGreat
namespace Go.Proofs.YtajmjfbejfiipaaGreat
open Go.RowKit Go.Sort
theorem pwTrue_any (w : World) {cs : Array Value} {x : Int × List Int} (h : opT.Rd w cs.toList x) :
  Calls Tryz.prog 200 #[.agg cs] w fun e w' => e = .returned (.bool true) ∧ Below w.heap.size w w' := by
 obtain ⟨v1, hv, -, -⟩ := pair_ex h
 obtain rfl := agg_of hv
 clear h hv
 go_enter Tryz.func200, Tryz.ntmps200
 go_wp2_with fail
 go_ret
 exact ⟨rfl, bA⟩
/-- what the listener keeps: the operation told last, in box ob; the test's box ib -/
def oneF (ar : Int) (F : Value) (ib ob base : Nat) (told : List (List Int)) (O : Nat → Prop) (w : World) : Prop :=
 (∀ k, O k → k < w.heap.size ∧ base ≤ k) ∧ O ib ∧ O ob ∧ ib ≠ ob ∧ w.cell? ⟨ib, 0, none⟩ = some F ∧ w.frozen? ⟨ob, 0, none⟩ = false ∧ w.frozen? ⟨ob, 1, none⟩ = false ∧ ∃ n u, w.cell? ⟨ob, 0, none⟩ = some (.int .i64 n) ∧ w.cell? ⟨ob, 1, none⟩ = some u ∧ (told ≠ [] → n = ar ∧ (intsT.on fun k => O k ∧ k ≠ ob).Fr base w [u] (told.getLastD []))
theorem oneF.stable {ar : Int} {F : Value} {ib ob base : Nat} {told : List (List Int)} {O : Nat → Prop} {w w' : World} (h : oneF ar F ib ob base told O w) (hs : ∀ k, k < w.heap.size → O k → w'.heap[k]? = w.heap[k]?) (hz : w.heap.size ≤ w'.heap.size) : oneF ar F ib ob base told O w' := by
 obtain ⟨h1, h2, h3, h4, c0, f0, f1, n, u, d0, d1, h5⟩ := h
 have hi := hs ib (h1 ib h2).1 h2
 have ho := hs ob (h1 ob h3).1 h3
 refine ⟨fun k hk => ⟨Nat.lt_of_lt_of_le (h1 k hk).1 hz, (h1 k hk).2⟩, h2, h3, h4, (World.cell?_of_block (a := ⟨ib, 0, none⟩) hi).trans c0, (World.frozen?_of_block (a := ⟨ob, 0, none⟩) ho).trans f0, (World.frozen?_of_block (a := ⟨ob, 1, none⟩) ho).trans f1, n, u, (World.cell?_of_block (a := ⟨ob, 0, none⟩) ho).trans d0, (World.cell?_of_block (a := ⟨ob, 1, none⟩) ho).trans d1, fun ht => ?_⟩
 obtain ⟨e1, fp, ⟨g1, g2⟩, g3, g4, g5⟩ := h5 ht
 have hS : ∀ k ∈ fp, w'.heap[k]? = w.heap[k]? := fun k hk => hs k (intsT.lt g1 k hk) (g2 k hk).1
 exact ⟨e1, fp, ⟨intsT.same g1 hS, g2⟩, g3, g4, g5.same hS⟩
set_option maxHeartbeats 1600000 in
theorem first1_yf {ar : Int} (har : 1 ≤ ar ∧ ar ≤ 3) (ib ob base : Nat) : Yf Tryz.prog ar 229 #[.pointer (some ⟨ib, 0, none⟩), .pointer (some ⟨ob, 0, none⟩)] (fun _ => -1) (oneF ar (.func (.func 200) #[] #[]) ib ob base) := by
 refine ⟨fun h hs hz => h.stable hs hz, fun h k hk => (h.1 k hk).1, ?_⟩
 rintro told O w0 w u x hI hb hf - hln
 obtain ⟨ua, uc, rfl⟩ := fr_slice hf
 have hI' := hI.stable (fun k hk _ => hb.block k hk) hb.size
 obtain ⟨h1, h2, h3, h4, c0, f0, f1, n, u', d0, d1, -⟩ := hI'
 have hil := (h1 ib h2).1
 have hol := (h1 ob h3).1
 have hob := (h1 ob h3).2
 have hol0 := (hI.1 ob h3).1
 have hIa : I64 ar := I64.small (by omega) (by omega)
 have HF := Lib.hid hf
 have H1 := Lib.hid h1
 have hz0 := hb.size
 have HIa := Lib.hid hIa
 clear hI hf h1 hIa
 show Calls Tryz.prog 229 #[.agg #[.int .i64 ar, .slice ua x.length uc], .pointer (some ⟨ib, 0, none⟩), .pointer (some ⟨ob, 0, none⟩)] w _
 go_enter Tryz.func229, Tryz.ntmps229
 go_wp2_with fail
 refine (pwTrue_any _ (x := (ar, x)) (fr_cons HIa.out (HF.out.below bA)).rd).mono ?_
 rintro e w1 ⟨rfl, hb1⟩
 have hbb : Below w.heap.size w w1 := bthen bA hb1
 have hz1 := hbb.size
 have p0 : w1.cell? ⟨w.heap.size, 0, none⟩ = some (.int .i64 ar) := (cellB hb1 (by simp)).trans (by simp)
 have p1 : w1.cell? ⟨w.heap.size, 1, none⟩ = some (.slice ua x.length uc) := (cellB hb1 (by simp)).trans (by simp)
 have c01 := (cellB hbb hil).trans c0
 have d01 := (cellB hbb hol).trans d0
 have d11 := (cellB hbb hol).trans d1
 have f01 := (frozenB hbb hol).trans f0
 have f11 := (frozenB hbb hol).trans f1
 have hpl : w.heap.size < w1.heap.size := by have := hb1.size; simp at this; omega
 have HFX : Hid (intsT.Fr w0.heap.size w1 [.slice ua x.length uc] x) := HF.out.below hbb
 clear c0 d0 d1 f0 f1
 go_wp2_with fail
 go_ret
 have ht : TchP O w ((w1.setCell ⟨ob, 0, none⟩ (.int .i64 ar)).setCell ⟨ob, 1, none⟩ (.slice ua x.length uc)) := ((TchP.of_below hbb O).then (TchP.set (O := O) h3) (fun k _ h => h)).then (TchP.set (O := O) h3) (fun k _ h => h)
 refine ⟨rfl, fun k => (O k ∨ w0.heap.size ≤ k) ∧ k < w1.heap.size, ⟨fun k hk => ⟨by simpa [World.setCell] using hk.2, ?_⟩, ⟨.inl h2, by omega⟩, ⟨.inl h3, by omega⟩, h4, ?_, (World.frozen?_setCell _ _ _ _).trans ((World.frozen?_setCell _ _ _ _).trans f01), (World.frozen?_setCell _ _ _ _).trans ((World.frozen?_setCell _ _ _ _).trans f11), ar, _, (World.cell?_setCell_other _ _ _ _ (by simp)).trans (World.cell?_setCell_same _ _ _ d01), World.cell?_setCell_same _ _ _ ((World.cell?_setCell_other _ _ _ _ (by simp)).trans d11), fun _ => ⟨rfl, ?_⟩⟩, ht, fun k hk => hk.1⟩
 ·rcases hk.1 with h | h
  ·exact (H1.out k h).2
  ·omega
 ·exact (World.cell?_setCell_other _ _ _ _ (fun e => h4 (congrArg Addr.block e).symm)).trans ((World.cell?_setCell_other _ _ _ _ (fun e => h4 (congrArg Addr.block e).symm)).trans c01)
 ·rw [List.getLastD_concat]
  have h9 := (HFX.out.set (a := ⟨ob, 0, none⟩) (u := .int .i64 ar) hol0).set (a := ⟨ob, 1, none⟩) (u := .slice ua x.length uc) hol0
  exact (fr_on (h9.mono (show w0.heap.size ≤ w0.heap.size from Nat.le_refl _)) (fun k hk hl => ⟨⟨.inr hk, by simpa [World.setCell] using hl⟩, by omega⟩)).mono (by omega)
theorem srch_m1 {s : Nat} {okT : List Int → Bool} {fx : List Int} {yc : List (List Int) → Int} : ∀ (m : Nat) (vals : List Int) (r : FR), (r.1 = -1 → r.2.2 ≠ []) → (srch s okT fx yc m vals r).1 = -1 → (srch s okT fx yc m vals r).2.2 ≠ []
 | 0, vals, r, _, _ => by show r.2.2 ++ [vals] ≠ []; simp
 | m + 1, vals, r, hr, h => by
  have key : ∀ (l : List Nat) (q : FR), (q.1 = -1 → q.2.2 ≠ []) → (l.foldl (stepA (srch s okT fx yc m) okT fx vals) q).1 = -1 → (l.foldl (stepA (srch s okT fx yc m) okT fx vals) q).2.2 ≠ [] := by
   intro l
   induction l with
   | nil => exact fun q h => h
   | cons a l ih =>
    intro q hq
    rw [List.foldl_cons]
    refine ih _ ?_
    by_cases h0 : q.1 = 0
    ·cases h1 : skipB fx vals.length a
     ·by_cases h2 : q.2.1 = 6000
      ·rw [step_bud h0 h1 h2]; intro h7; exact absurd h7 (by show ¬ (7 : Int) = -1; decide)
      ·cases h3 : okT (vals ++ [(a : Int)])
       ·rw [step_no h0 h1 h2 h3]; intro h7; exact absurd h7 (by show ¬ (0 : Int) = -1; decide)
       ·rw [step_yes h0 h1 h2 h3]; exact srch_m1 m _ _ (fun h7 => absurd h7 (by show ¬ (0 : Int) = -1; decide))
     ·rw [step_skip h1]; exact hq
    ·rw [step_stop h0]; exact hq
  exact key _ r hr h
theorem on_fr_set {α : Type} {E : Ty α} {O : Nat → Prop} {base : Nat} {w : World} {cs : List Value} {x : α} {a : Addr} {u : Value} (h : (E.on O).Fr base w cs x) (ha : ¬ O a.block) : (E.on O).Fr base (w.setCell a u) cs x :=
 let ⟨fp, h1, h2, h3, h4⟩ := h
 have hS : ∀ k ∈ fp, (w.setCell a u).heap[k]? = w.heap[k]? := fun k hk => Below.heap_setCell _ _ _ _ (fun e => ha (e ▸ h1.2 k hk))
 ⟨fp, ⟨E.same h1.1 hS, h1.2⟩, h2, h3, h4.same hS⟩
/-- what the first operation is, from where the search ends -/
def foV (ar : Int) (R : FR) : Int × List Int := match R.1 == -1 with
 | true => (ar, R.2.2.getLastD [])
 | false => (0, [])
def foC (R : FR) : Int := match R.1 == -1, R.1 == 0 with
 | true, _ => 0
 | false, true => 6
 | false, false => R.1
/-- how firstOf leaves memory -/
def FoR (w : World) (bs : Nat) (ar : Int) (R : FR) (e : Ending) (w' : World) : Prop :=
 ∃ cs : List Value, e = .returned (.tuple #[.agg cs.toArray, .int .i64 (foC R)]) ∧ opT.Fr w.heap.size w' cs (foV ar R) ∧ TchP (fun k => k = bs) w w'
set_option maxHeartbeats 3200000 in
set_option maxRecDepth 100000 in
theorem firstOf_any (w : World) {t : Tpl} {ar : Int} {fx : List Int} (hT : tplOk t) (har : 1 ≤ ar ∧ ar ≤ 3) (hl : limF t ar.toNat = false) {bs : Nat} (hF : Fd (fun k => k < w.heap.size ∧ k ≠ bs) w bs t ar (duesF (looksA t ar.toNat) (tabL t ar)) fx) (hTb : Tb 2 w.heap.size w bs 0 (.slice none 0 0) []) (hfx : fx.length = tabL t ar) :
  Calls Tryz.prog 199 #[.pointer (some ⟨bs, 0, none⟩), .func (.func 200) #[] #[]] w (FoR w bs ar (polyF t ar fx fun _ => -1)) := by
 have HF := Lib.hid hF
 have HTB := Lib.hid hTb
 have hbs := hF.1
 have HLK := Lib.hid (tpl_looks hT har hl)
 have hNb := tabN_bd (tabN_of hT.1 (ar := ar.toNat) (by omega) (tabL_of hT))
 have HS0 : Hid (t.1 = (t.1.toNat : Int)) := by have := hT.1; unfold sizeOk at this; unfold Hid; omega
 have HTT := Lib.hid hT
 have HFXL := Lib.hid hfx
 clear hF hTb hT hl hfx
 go_enter Tryz.func199, Tryz.ntmps199
 go_wp2_with fail
 generalize hW : World.alloc (World.alloc (World.alloc w _) _) _ = W
 have hbW : Below w.heap.size w W := hW ▸ bthen bAA bA
 have hsW : w.heap.size + 3 ≤ W.heap.size := by rw [← hW]; simp
 have r0 : W.cell? ⟨w.heap.size + 1, 0, none⟩ = some (.int .i64 0) := by rw [← hW]; simp [go_sem]
 have r1 : W.cell? ⟨w.heap.size + 1, 1, none⟩ = some (.slice none 0 0) := by rw [← hW]; simp [go_sem]
 have q0 : W.frozen? ⟨w.heap.size + 1, 0, none⟩ = false := by rw [← hW]; simp [go_sem]
 have q1 : W.frozen? ⟨w.heap.size + 1, 1, none⟩ = false := by rw [← hW]; simp [go_sem]
 have HI : Hid (oneF ar (.func (.func 200) #[] #[]) w.heap.size (w.heap.size + 1 + 1) w.heap.size [] (fun k => k = w.heap.size ∨ k = w.heap.size + 1 + 1) W) :=
  ⟨fun k hk => by omega, .inl rfl, .inr rfl, by omega, by rw [← hW]; simp [go_sem], by rw [← hW]; simp [go_sem], by rw [← hW]; simp [go_sem], 0, .slice none 0 0, by rw [← hW]; simp [go_sem], by rw [← hW]; simp [go_sem], fun h => absurd rfl h⟩
 clear hW
 refine (search_any HTT.out HS0.out (by omega) HLK.out.2.1 HLK.out.1 HLK.out.2.2 HFXL.out 229 #[.pointer (some ⟨w.heap.size, 0, none⟩), .pointer (some ⟨w.heap.size + 1 + 1, 0, none⟩)] (enters Tryz.func229 (by kernel_rfl) rfl) (fun _ => -1) (oneF ar (.func (.func 200) #[] #[]) w.heap.size (w.heap.size + 1 + 1) w.heap.size) (first1_yf har _ _ _) bs w.heap.size (fun k => k < w.heap.size ∧ k ≠ bs) hbs (fun k hk => hk) (tabL t ar) W (.slice none 0 0) [] 0 [] (fun k => k = w.heap.size ∨ k = w.heap.size + 1 + 1) (by simp) (fun a ha => by cases ha) (HF.out.below hbW) (HTB.out.below hbs hbW) HI.out (fun k hk h => by omega) (by omega) (fun k hk => by simp [Value.ownBlock] at hk) (by omega) (by simp) (by omega)).mono ?_
 rintro e w4 ⟨rfl, hsr⟩
 obtain ⟨v4, O4, -, -, hI4, hO5, -, ht4⟩ := hsr
 have HCP : Hid (srch t.1.toNat (goesF t (duesF (looksA t ar.toNat) (tabL t ar))) fx (fun _ => -1) (tabL t ar) [] (0, 0, []) = polyF t ar fx fun _ => -1) := rfl
 rw [HCP.out] at hI4 ⊢
 have HM1 : Hid ((polyF t ar fx fun _ => -1).1 = -1 → (polyF t ar fx fun _ => -1).2.2 ≠ []) := fun h => srch_m1 _ _ _ (fun h7 => absurd h7 (by show ¬ (0 : Int) = -1; decide)) h
 clear HCP
 generalize hRR : (polyF t ar fx fun _ => -1) = R at *
 have HRR := Lib.hid hRR
 clear hRR
 have hn1 : ¬ ((w.heap.size + 1 = w.heap.size ∨ w.heap.size + 1 = w.heap.size + 1 + 1) ∨ w.heap.size + 1 = bs ∨ (Value.slice none 0 0).ownBlock = some (w.heap.size + 1)) := by
  rintro (h | h | h)
  ·omega
  ·omega
  ·simp [Value.ownBlock] at h
 have hl1 : w.heap.size + 1 < W.heap.size := by omega
 have s0 := (ht4.cell (i := 0) hl1 hn1).trans r0
 have s1 := (ht4.cell (i := 1) hl1 hn1).trans r1
 have p0 := (ht4.frozen (i := 0) hl1 hn1).trans q0
 have p1 := (ht4.frozen (i := 1) hl1 hn1).trans q1
 obtain ⟨hO4, -, hOb, -, -, -, -, n4, u4, d0, d1, hD⟩ := hI4
 have HD := Lib.hid hD
 clear hD r0 r1 q0 q1
 have hno : ¬ O4 (w.heap.size + 1) := fun h => by
  rcases hO5 _ h with (h | h) | h
  ·omega
  ·omega
  ·omega
 have ho4 := (hO4 _ hOb).1
 have hl4 : w.heap.size + 1 < w4.heap.size := by have := ht4.size; omega
 have hIa : I64 ar := I64.small (by omega) (by omega)
 have hT4 : TchP (fun k => k = bs) w w4 := ⟨ht4.os.trans hbW.os, ht4.tape.trans hbW.tape, ht4.output.trans hbW.output, by have := ht4.size; omega, fun k hk hn => (ht4.block k (by omega) (by
  rintro ((h | h) | h | h)
  ·omega
  ·omega
  ·exact hn h
  ·simp [Value.ownBlock] at h)).trans (hbW.block k hk)⟩
 have hfin : ∀ (x y : Value), TchP (fun k => k = bs) w ((w4.setCell ⟨w.heap.size + 1, 0, none⟩ x).setCell ⟨w.heap.size + 1, 1, none⟩ y) := fun x y => ⟨hT4.os, hT4.tape, hT4.output, by have := hT4.size; simpa [World.setCell] using this, fun k hk hn => ((Below.heap_setCell _ _ _ _ (by simp; omega)).trans (Below.heap_setCell _ _ _ _ (by simp; omega))).trans (hT4.block k hk hn)⟩
 have hz0 : ∀ (x y : Value), ((w4.setCell ⟨w.heap.size + 1, 0, none⟩ x).setCell ⟨w.heap.size + 1, 1, none⟩ y).cell? ⟨w.heap.size + 1, 0, none⟩ = some x := fun x y => (World.cell?_setCell_other _ _ _ _ (by simp)).trans (World.cell?_setCell_same _ _ _ s0)
 have hz1 : ∀ (x y : Value), ((w4.setCell ⟨w.heap.size + 1, 0, none⟩ x).setCell ⟨w.heap.size + 1, 1, none⟩ y).cell? ⟨w.heap.size + 1, 1, none⟩ = some y := fun x y => World.cell?_setCell_same _ _ _ ((World.cell?_setCell_other _ _ _ _ (by simp)).trans s1)
 have HFIN := Lib.hid hfin
 have HZ0 := Lib.hid hz0
 have HZ1 := Lib.hid hz1
 have HIa := Lib.hid hIa
 clear hfin hz0 hz1 hT4 ht4 hIa hn1 hO4 hO5
 cases hc : (R.1 == -1)
 ·have HV : Hid (foV ar (polyF t ar fx fun _ => -1) = (0, [])) := by unfold Hid; rw [HRR.out]; unfold foV; rw [hc]
  cases hz : (R.1 == 0)
  ·have HC : Hid (foC (polyF t ar fx fun _ => -1) = R.1) := by unfold Hid; rw [HRR.out]; unfold foC; rw [hc, hz]
   go_wp2_with fail
   refine bodyPost_ret (v := .tuple #[.agg #[.int .i64 0, .slice none 0 0], .int .i64 R.1]) (by simp [results, Tryz.results199, go_sem, HZ0.out, HZ1.out]) rfl ⟨[.int .i64 0, .slice none 0 0], by rw [HC.out], ?_, HFIN.out _ _⟩
   rw [HV.out]
   exact fr_cons (I64.small (by omega) (by omega)) fr_nil
  ·have HC : Hid (foC (polyF t ar fx fun _ => -1) = 6) := by unfold Hid; rw [HRR.out]; unfold foC; rw [hc, hz]
   go_wp2_with fail
   refine bodyPost_ret (v := .tuple #[.agg #[.int .i64 0, .slice none 0 0], .int .i64 6]) (by simp [results, Tryz.results199, go_sem, HZ0.out, HZ1.out]) rfl ⟨[.int .i64 0, .slice none 0 0], by rw [HC.out], ?_, HFIN.out _ _⟩
   rw [HV.out]
   exact fr_cons (I64.small (by omega) (by omega)) fr_nil
 ·have HV : Hid (foV ar (polyF t ar fx fun _ => -1) = (ar, R.2.2.getLastD [])) := by unfold Hid; rw [HRR.out]; unfold foV; rw [hc]
  have HC : Hid (foC (polyF t ar fx fun _ => -1) = 0) := by unfold Hid; rw [HRR.out]; unfold foC; rw [hc]
  obtain ⟨rfl, hfr⟩ := HD.out (HM1.out (by simpa using hc))
  obtain ⟨ua, un, uc, rfl⟩ := ex_slice (on_fr1 hfr)
  have HFR := Lib.hid hfr
  clear hfr
  go_wp2_with fail
  refine bodyPost_ret (v := .tuple #[.agg #[.int .i64 n4, .slice ua un uc], .int .i64 0]) (by simp [results, Tryz.results199, go_sem, HZ0.out, HZ1.out]) rfl ⟨[.int .i64 n4, .slice ua un uc], by rw [HC.out], ?_, HFIN.out _ _⟩
  rw [HV.out]
  exact fr_cons HIa.out (on_fr1 (on_fr_set (on_fr_set HFR.out (fun h => hno h.1)) (fun h => hno h.1)))
end Go.Proofs.YtajmjfbejfiipaaGreat
namespace Go.Proofs.YtajmjfbejfiipaaGreat
open Go.RowKit Go.Sort
theorem rd_rdP {α : Type} {E : Ty α} {w : World} {cs : List Value} {x : α} (h : E.Rd w cs x) : E.RdP (fun k => k < w.heap.size) w cs x := let ⟨fp, h⟩ := h; ⟨fp, h, fun k hk => E.lt h k hk⟩
noncomputable def phV (t : Tpl) (ar : Int) (ls : List (List Int)) (vs : List Int) : Int × List Int := match wF t ar ls vs with
 | none => (0, [])
 | some f => foV ar (polyF t ar f fun _ => -1)
noncomputable def phC (t : Tpl) (ar : Int) (ls : List (List Int)) (vs : List Int) : Int := match wF t ar ls vs with
 | none => 4
 | some f => foC (polyF t ar f fun _ => -1)
set_option maxHeartbeats 3200000 in
set_option maxRecDepth 100000 in
theorem polymorphismWith_any (w : World) {cs : Array Value} {t : Tpl} {v v' : Value} {ls : List (List Int)} {vs : List Int} (h : tplT.Rd w cs.toList t) (hl : rowsT.Rd w [v] ls) (hv : intsT.Rd w [v'] vs) {ar : Int} (hT : tplOk t) (har : 1 ≤ ar ∧ ar ≤ 3) (hlm : limF t ar.toNat = false) (hin : ∀ l ∈ ls, (l.length : Int) = ar ∧ ∀ a ∈ l, 0 ≤ a ∧ a ≤ t.1 - 1) (hlen : ls.length = vs.length) (hvs : ∀ a ∈ vs, 0 ≤ a ∧ a ≤ t.1 - 1) (hL : ls.length ≤ 140737488351232) :
  Calls Tryz.prog 134 #[.agg cs, .int .i64 ar, v, v'] w (RetAC opT w (phV t ar ls vs) (phC t ar ls vs)) := by
 have HT := Lib.hid h
 have HL := Lib.hid hl
 have HV := Lib.hid hv
 have HIN := Lib.hid hin
 have HVS := Lib.hid hvs
 have HLEN := Lib.hid hlen
 have HTT := Lib.hid hT
 have HLF := Lib.hid hlm
 have hs4 := hT.1
 unfold sizeOk at hs4
 obtain ⟨v1, hv1, -, -⟩ := pair_ex h
 obtain rfl := agg_of hv1
 clear h hv1 hl hv hin hvs hlen hT hlm
 go_enter Tryz.func134, Tryz.ntmps134
 go_wp2_with fail
 generalize hW : World.alloc (World.alloc w _) _ = W
 have hbW : Below w.heap.size w W := hW ▸ bAA
 have hsW : w.heap.size + 2 ≤ W.heap.size := by rw [← hW]; simp
 have r0 : W.cell? ⟨w.heap.size + 1, 0, none⟩ = some (.int .i64 0) := by rw [← hW]; simp [go_sem]
 have r1 : W.cell? ⟨w.heap.size + 1, 1, none⟩ = some (.slice none 0 0) := by rw [← hW]; simp [go_sem]
 have q0 : W.frozen? ⟨w.heap.size + 1, 0, none⟩ = false := by rw [← hW]; simp [go_sem]
 have q1 : W.frozen? ⟨w.heap.size + 1, 1, none⟩ = false := by rw [← hW]; simp [go_sem]
 clear hW
 refine (newFinder_any _ (HT.out.below hbW) HTT.out har HLF.out (tabL_of HTT.out)).mono ?_
 rintro e w3 hnf
 obtain ⟨bs, gd, gt, vin, rfl, hbs, hgt, hne, hbx, hgth, hdu, hin, hb3⟩ := hnf
 have hz3 := hb3.size
 obtain ⟨hbslt, b0, b2, b3, b4, b5, b6, b7, -, e6, e7⟩ := hbx
 have hgtl := lt_of_block hgth
 have hNb := tabN_bd (tabN_of HTT.out.1 (ar := ar.toNat) (by omega) (tabL_of HTT.out))
 have hB3 := bthen hbW hb3
 have hI3 : IR 2 W.heap.size w3 gt (tabL t ar) (tabL t ar) (List.replicate (tabL t ar) (-1)) := IR.of_mone hgth hgt (by omega)
 have HI3 := Lib.hid hI3
 have HDU := Lib.hid hdu
 have HII := Lib.hid hin
 have hix : ∀ l ∈ ls, l.length ≤ 3 ∧ (∀ a ∈ l, 0 ≤ a ∧ a ≤ t.1 - 1) ∧ idxL t.1 0 l < (tabL t ar : Int) := fun l hl => by
  obtain ⟨h1, h2⟩ := HIN.out l hl
  refine ⟨by omega, h2, ?_⟩
  have h3 := (idx_bd (by omega) h2 l.length (Nat.le_refl _)).2
  rw [List.take_length] at h3
  have h4 := tabL_of (ar := ar) HTT.out
  have h5 : ar.toNat = l.length := by omega
  rw [h5] at h4
  omega
 have HIX := Lib.hid hix
 clear hI3 hdu hin hgth hix
 go_wp2_with fail
 refine (tell_any w3 hbslt b0 b5 HI3.out hne (by omega) (((rd_rdP HL.out).below hB3).mono (fun k _ hk => by omega)) (((rd_rdP HV.out).below hB3).mono (fun k _ hk => by omega)) HLEN.out HIX.out HVS.out (fun a ha => by rw [List.eq_of_mem_replicate ha]; omega) hL).mono ?_
 rintro e w4 ⟨rfl, ht4, hI4⟩
 rw [show telK t.1 ls vs (List.replicate (tabL t ar) (-1)) ls.length = wF t ar ls vs from rfl] at hI4 ⊢
 have hz4 := ht4.size
 have hbg : bs ≠ gt := fun h => hne h.symm
 have hB4 : Below w.heap.size w w4 := hB3.trans (ht4.below (by omega) (fun k hk h => by omega))
 have s0 := (ht4.cell (i := 0) (show w.heap.size + 1 < w3.heap.size by omega) (by omega)).trans ((cellB hb3 (by omega)).trans r0)
 have s1 := (ht4.cell (i := 1) (show w.heap.size + 1 < w3.heap.size by omega) (by omega)).trans ((cellB hb3 (by omega)).trans r1)
 have p0 := (ht4.frozen (i := 0) (show w.heap.size + 1 < w3.heap.size by omega) (by omega)).trans ((frozenB hb3 (by omega)).trans q0)
 have p1 := (ht4.frozen (i := 1) (show w.heap.size + 1 < w3.heap.size by omega) (by omega)).trans ((frozenB hb3 (by omega)).trans q1)
 have hl4 : w.heap.size + 1 < w4.heap.size := by omega
 cases hw : wF t ar ls vs with
 | none =>
  have HVV : Hid (phV t ar ls vs = (0, [])) := by unfold Hid phV; rw [hw]
  have HCC : Hid (phC t ar ls vs = 4) := by unfold Hid phC; rw [hw]
  rw [show (none : Option (List Int)).isSome = false from rfl]
  clear hI4 hw r0 r1 q0 q1 b0 b2 b3 b4 b5 b6 b7 e6 e7
  have hz0 : ∀ (x y : Value), ((w4.setCell ⟨w.heap.size + 1, 0, none⟩ x).setCell ⟨w.heap.size + 1, 1, none⟩ y).cell? ⟨w.heap.size + 1, 0, none⟩ = some x := fun x y => (World.cell?_setCell_other _ _ _ _ (by simp)).trans (World.cell?_setCell_same _ _ _ s0)
  have hz1 : ∀ (x y : Value), ((w4.setCell ⟨w.heap.size + 1, 0, none⟩ x).setCell ⟨w.heap.size + 1, 1, none⟩ y).cell? ⟨w.heap.size + 1, 1, none⟩ = some y := fun x y => World.cell?_setCell_same _ _ _ ((World.cell?_setCell_other _ _ _ _ (by simp)).trans s1)
  have HZ0 := Lib.hid hz0
  have HZ1 := Lib.hid hz1
  clear hz0 hz1
  go_wp2_with fail
  refine bodyPost_ret (v := .tuple #[.agg #[.int .i64 0, .slice none 0 0], .int .i64 4]) (by simp [results, Tryz.results134, go_sem, HZ0.out, HZ1.out]) rfl ⟨[.int .i64 0, .slice none 0 0], by rw [HCC.out], ?_, ?_⟩
  ·rw [HVV.out]
   exact fr_cons (I64.small (by omega) (by omega)) fr_nil
  ·exact hB4.trans (((TchP.set (O := fun k => k = w.heap.size + 1) rfl).then (TchP.set (O := fun k => k = w.heap.size + 1) rfl) (fun k _ h => h)).below (by omega) (fun k hk h => by omega))
 | some f =>
  have HVV : Hid (phV t ar ls vs = foV ar (polyF t ar f fun _ => -1)) := by unfold Hid phV; rw [hw]
  have HCC : Hid (phC t ar ls vs = foC (polyF t ar f fun _ => -1)) := by unfold Hid phC; rw [hw]
  rw [show (some f : Option (List Int)).isSome = true from rfl]
  have h1 := hI4 f hw
  have HFD : Hid (Fd (fun k => k < w4.heap.size ∧ k ≠ bs) w4 bs t ar (duesF (looksA t ar.toNat) (tabL t ar)) f) := by
   refine ⟨by omega, _, _, _, (ht4.cell hbslt hbg).trans b0, (ht4.cell hbslt hbg).trans b2, (ht4.cell hbslt hbg).trans b3, (ht4.cell hbslt hbg).trans b4, (ht4.cell hbslt hbg).trans b5, (HDU.out.tchP ht4 (fun k _ hk h => hk.2.2 h)).mono (fun k h1 h2 => ⟨h1, h2.2.1⟩), (HII.out.tchP ht4 (fun k _ hk h => hk.2.2 h)).mono (fun k h1 h2 => ⟨h1, h2.2.1⟩), ?_⟩
   obtain ⟨fp, h2, -, h3, -⟩ := h1.fr (by unfold capMax; omega)
   exact ⟨fp, h2, fun k hk => ⟨intsT.lt h2 k hk, by rw [IR.fp h1 h2 k hk]; exact hne⟩⟩
  have HTB : Hid (Tb 2 w4.heap.size w4 bs 0 (.slice none 0 0) []) := ⟨(ht4.cell hbslt hbg).trans b6, (ht4.cell hbslt hbg).trans b7, (ht4.frozen hbslt hbg).trans e6, (ht4.frozen hbslt hbg).trans e7, Bl.nil⟩
  have hfl : f.length = tabL t ar := h1.1
  clear hI4 hw r0 r1 q0 q1 b0 b2 b3 b4 b5 b6 b7 e6 e7 h1
  go_wp2_with fail
  refine (firstOf_any w4 HTT.out har HLF.out HFD.out HTB.out hfl).mono ?_
  rintro e w5 ⟨cs5, rfl, hf5, ht5⟩
  generalize foV ar (polyF t ar f fun _ => -1) = V at hf5 HVV
  generalize foC (polyF t ar f fun _ => -1) = C at HCC ⊢
  obtain ⟨ad5, cap5, rfl⟩ := fr_pair hf5
  have HF5 := Lib.hid hf5
  have hnb : w.heap.size + 1 ≠ bs := by omega
  have u0 := (ht5.cell hl4 hnb).trans s0
  have u1 := (ht5.cell hl4 hnb).trans s1
  have k0 := (ht5.frozen hl4 hnb).trans p0
  have k1 := (ht5.frozen hl4 hnb).trans p1
  have hz5 := ht5.size
  have hl5 : w.heap.size + 1 < w5.heap.size := by omega
  have hB5 : Below w.heap.size w w5 := hB4.trans (ht5.below (by omega) (fun k hk h => by omega))
  have hz0 : ∀ (x y : Value), ((w5.setCell ⟨w.heap.size + 1, 0, none⟩ x).setCell ⟨w.heap.size + 1, 1, none⟩ y).cell? ⟨w.heap.size + 1, 0, none⟩ = some x := fun x y => (World.cell?_setCell_other _ _ _ _ (by simp)).trans (World.cell?_setCell_same _ _ _ u0)
  have hz1 : ∀ (x y : Value), ((w5.setCell ⟨w.heap.size + 1, 0, none⟩ x).setCell ⟨w.heap.size + 1, 1, none⟩ y).cell? ⟨w.heap.size + 1, 1, none⟩ = some y := fun x y => World.cell?_setCell_same _ _ _ ((World.cell?_setCell_other _ _ _ _ (by simp)).trans u1)
  have HZ0 := Lib.hid hz0
  have HZ1 := Lib.hid hz1
  clear hz0 hz1 s0 s1 p0 p1 hf5 ht5 ht4
  go_wp2_with fail
  refine bodyPost_ret (v := .tuple #[.agg #[.int .i64 V.1, .slice ad5 V.2.length cap5], .int .i64 C]) (by simp [results, Tryz.results134, go_sem, HZ0.out, HZ1.out]) rfl ⟨[.int .i64 V.1, .slice ad5 V.2.length cap5], by rw [HCC.out], ?_, ?_⟩
  ·rw [HVV.out]
   exact ((HF5.out.set (a := ⟨w.heap.size + 1, 0, none⟩) hl4).set (a := ⟨w.heap.size + 1, 1, none⟩) hl4).mono (by omega)
  ·exact hB5.trans (((TchP.set (O := fun k => k = w.heap.size + 1) rfl).then (TchP.set (O := fun k => k = w.heap.size + 1) rfl) (fun k _ h => h)).below (by omega) (fun k hk h => by omega))
end Go.Proofs.YtajmjfbejfiipaaGreat
namespace Go.Proofs.YtajmjfbejfiipaaGreat
open Go.RowKit Go.Sort
end Go.Proofs.YtajmjfbejfiipaaGreat
namespace Go.Proofs.YtajmjfbejfiipaaGreat
open Go.RowKit Go.Sort
/-- a struct of two cells, laid as a result -/
theorem res2_0 {W : World} {b : Nat} {x0 x y : Value} (s0 : W.cell? ⟨b, 0, none⟩ = some x0) : ((W.setCell ⟨b, 0, none⟩ x).setCell ⟨b, 1, none⟩ y).cell? ⟨b, 0, none⟩ = some x := (World.cell?_setCell_other _ _ _ _ (by simp)).trans (World.cell?_setCell_same _ _ _ s0)
theorem res2_1 {W : World} {b : Nat} {x1 x y : Value} (s1 : W.cell? ⟨b, 1, none⟩ = some x1) : ((W.setCell ⟨b, 0, none⟩ x).setCell ⟨b, 1, none⟩ y).cell? ⟨b, 1, none⟩ = some y := World.cell?_setCell_same _ _ _ ((World.cell?_setCell_other _ _ _ _ (by simp)).trans s1)
theorem res2_b {w W : World} {B b : Nat} {x y : Value} (h : Below B w W) (hB : B ≤ b) : Below B w ((W.setCell ⟨b, 0, none⟩ x).setCell ⟨b, 1, none⟩ y) := by
 refine ⟨h.os, h.tape, h.output, by have := h.size; simpa [World.setCell] using this, fun k hk => ?_⟩
 exact ((Below.heap_setCell _ _ _ _ (by simp; omega)).trans (Below.heap_setCell _ _ _ _ (by simp; omega))).trans (h.block k hk)
theorem fr_op0 {base : Nat} {w : World} : opT.Fr base w [.int .i64 0, .slice none 0 0] (0, []) := fr_cons (I64.small (by omega) (by omega)) fr_nil
end Go.Proofs.YtajmjfbejfiipaaGreat
namespace Go.Proofs.YtajmjfbejfiipaaGreat
open Go.RowKit Go.Sort
noncomputable def lwV (t : Tpl) (ar : Int) (ls : List (List Int)) (vs : List Int) : Int × List Int := match wF t ar ls vs, limF t ar.toNat with
 | none, _ => (0, [])
 | some _, true => (0, [])
 | some f, false => foV ar (polyF t ar f fun _ => -1)
noncomputable def lwC (t : Tpl) (ar : Int) (ls : List (List Int)) (vs : List Int) : Int := match wF t ar ls vs, limF t ar.toNat with
 | none, _ => 4
 | some _, true => 3
 | some f, false => foC (polyF t ar f fun _ => -1)
section
variable {t : Tpl} {ar : Int} {ls : List (List Int)} {vs f : List Int}
theorem lw_none (h : wF t ar ls vs = none) : lwV t ar ls vs = (0, []) ∧ lwC t ar ls vs = 4 := by simp [lwV, lwC, h]
theorem lw_lim (h : wF t ar ls vs = some f) (h1 : limF t ar.toNat = true) : lwV t ar ls vs = (0, []) ∧ lwC t ar ls vs = 3 := by simp [lwV, lwC, h, h1]
theorem lw_fo (h : wF t ar ls vs = some f) (h1 : limF t ar.toNat = false) : lwV t ar ls vs = foV ar (polyF t ar f fun _ => -1) ∧ lwC t ar ls vs = foC (polyF t ar f fun _ => -1) := by simp [lwV, lwC, h, h1]
theorem lw_ph (h1 : limF t ar.toNat = false) : lwV t ar ls vs = phV t ar ls vs ∧ lwC t ar ls vs = phC t ar ls vs := by
 unfold phV phC
 cases h : wF t ar ls vs with
 | none => exact lw_none h
 | some f => exact lw_fo h h1
end
theorem fo_0 {ar : Int} {R : FR} (h : R.1 = 0) : foV ar R = (0, []) ∧ foC R = 6 := by simp [foV, foC, h]
theorem fo_7 {ar : Int} {R : FR} (h : R.1 = 7) : foV ar R = (0, []) ∧ foC R = 7 := by simp [foV, foC, h]
theorem fo_m {ar : Int} {R : FR} {st : Nat} {x : List Int} (h : R = (-1, st, [x])) : foV ar R = (ar, x) ∧ foC R = 0 := by simp [foV, foC, h]
set_option maxHeartbeats 6400000 in
set_option maxRecDepth 100000 in
theorem l04With_any (w : World) {vt v v' : Value} {t : Tpl} {ls : List (List Int)} {vs : List Int} (hPt : tplT.Pt w vt t) (hl : rowsT.Rd w [v] ls) (hv : intsT.Rd w [v'] vs) {ar : Int} (hT : tplOk t) (har : 1 ≤ ar ∧ ar ≤ 3) (hin : ∀ l ∈ ls, (l.length : Int) = ar ∧ ∀ a ∈ l, 0 ≤ a ∧ a ≤ t.1 - 1) (hlen : ls.length = vs.length) (hvs : ∀ a ∈ vs, 0 ≤ a ∧ a ≤ t.1 - 1) (hL : ls.length ≤ 140737488351232) :
  Calls Tryz.prog 141 #[vt, .int .i64 ar, v, v'] w (RetAC opT w (lwV t ar ls vs) (lwC t ar ls vs)) := by
 have HPT := Lib.hid hPt
 have HL := Lib.hid hl
 have HV := Lib.hid hv
 have HIN := Lib.hid hin
 have HVS := Lib.hid hvs
 have HLEN := Lib.hid hlen
 have HTT := Lib.hid hT
 have hs4 := hT.1
 unfold sizeOk at hs4
 obtain ⟨tq, tf, ra, rc, rfl, htq, -, p0, p1, -⟩ := pt_pair hPt
 obtain ⟨la, lc, rfl⟩ := rd_slice hl
 obtain ⟨va, vc, rfl⟩ := rd_slice hv
 have hN := tabL_of (ar := ar) hT
 have HNN := Lib.hid hN
 have hNb := tabN_bd (tabN_of hT.1 (ar := ar.toNat) (by omega) hN)
 have c0 : ∀ o, (w.alloc o).cell? ⟨tq, tf, none⟩ = some (.int .i64 t.1) := fun o => (cellB bA htq).trans p0
 have hix : ∀ l ∈ ls, l.length ≤ 3 ∧ (∀ a ∈ l, 0 ≤ a ∧ a ≤ t.1 - 1) ∧ idxL t.1 0 l < (tabL t ar : Int) := fun l hl => by
  obtain ⟨h1, h2⟩ := HIN.out l hl
  refine ⟨by omega, h2, ?_⟩
  have h3 := (idx_bd (by omega) h2 l.length (Nat.le_refl _)).2
  rw [List.take_length] at h3
  have h4 := HNN.out
  have h5 : ar.toNat = l.length := by omega
  rw [h5] at h4
  omega
 have HIX := Lib.hid hix
 have HWF : Hid (telK t.1 ls vs (List.replicate (tabL t ar) (-1)) ls.length = wF t ar ls vs) := rfl
 have HPTN : Hid (tplT.Pt w (.pointer (some ⟨tq, tf, none⟩)) t) := HPT.out
 clear hPt hl hv hin hvs hlen hT hN hix HPT
 go_enter Tryz.func141, Tryz.ntmps141
 go_wp2_with fail
 refine (l01Power_any _ t.1 ar (by omega) (by omega) (by omega)).mono ?_
 rintro e _ ⟨rfl, rfl⟩
 rw [HNN.out]
 obtain ⟨N, hNe⟩ : ∃ N, tabL t ar = N := ⟨_, rfl⟩
 rw [hNe] at HIX HWF hNb ⊢
 have HNE := Lib.hid hNe
 clear hNe HNN
 generalize hW : World.alloc w _ = W
 have hbW : Below w.heap.size w W := hW ▸ bA
 have hsW : w.heap.size + 1 ≤ W.heap.size := by rw [← hW]; simp
 have r0 : W.cell? ⟨w.heap.size, 0, none⟩ = some (.int .i64 0) := by rw [← hW]; simp [go_sem]
 have r1 : W.cell? ⟨w.heap.size, 1, none⟩ = some (.slice none 0 0) := by rw [← hW]; simp [go_sem]
 have q0 : W.frozen? ⟨w.heap.size, 0, none⟩ = false := by rw [← hW]; simp [go_sem]
 have q1 : W.frozen? ⟨w.heap.size, 1, none⟩ = false := by rw [← hW]; simp [go_sem]
 clear hW c0
 go_wp2_with (refine wpList_mkI _ rfl _ _ 38 2 rfl Tryz.underlying38 infoInt W.heap.size N rfl rfl (by omega) (by decide) (by simp) ?_; intro w1 hA hg1 hs1)
 have hb1 := below_of_grown hg1
 have hB1 := bthen hbW hb1
 replace r0 := (cellB hb1 (by omega)).trans r0
 replace r1 := (cellB hb1 (by omega)).trans r1
 replace q0 := (frozenB hb1 (by omega)).trans q0
 replace q1 := (frozenB hb1 (by omega)).trans q1
 have HA := Lib.hid (minus_zero (N := N) ▸ hA)
 obtain ⟨fb, hfb⟩ : ∃ fb, W.heap.size = fb := ⟨_, rfl⟩
 rw [hfb] at HA hs1 ⊢
 clear hA hg1
 go_loopw [11] (fun i wr => ∃ j : Nat, j ≤ N ∧ i = .int .i64 j ∧ IR 2 fb wr fb N N (minus j N) ∧ TchP (fun k => k = fb) w1 wr) (fun i _ => N - (intOf i).toNat)
 case atStart => exact ⟨0, Nat.zero_le _, rfl, HA.out, TchP.refl _ _⟩
 case round =>
  obtain ⟨j, hj, rfl, hif, htc⟩ := hrel
  have HIF := Lib.hid hif
  have hzr := htc.size
  by_cases hjl : j < N
  ·obtain ⟨fu, f0⟩ := hif.cell hjl
   have f1 := hif.free j
   have HSF := Lib.hid (hif.set j (a := -1) (I64.small (by omega) (by omega)))
   have HMS := Lib.hid (minus_set hjl)
   have htc2 : TchP (fun k => k = fb) w1 (wr.setCell ⟨fb, j, none⟩ (.int .i64 (-1))) := htc.then (TchP.set (O := fun k => k = fb) rfl) (fun q _ h => h)
   clear hif HA
   go_wp2_with fail
   go_roundw
   case rel => exact ⟨j + 1, by omega, by go_num, by rw [← HMS.out]; exact HSF.out, htc2⟩
   case measure => simp [intOf]; omega
  ·obtain rfl : N = j := by omega
   obtain ⟨wd, rfl⟩ : ∃ wd : World, wd = wr := ⟨_, rfl⟩
   rw [minus_full] at hif
   have HI0 := Lib.hid hif
   have hbd : Below W.heap.size W wd := hb1.trans (htc.below (by omega) (fun k hk h => by omega))
   have hBd := bthen hbW hbd
   have c0 := (cellB hBd htq).trans p0
   replace r0 := (htc.cell (i := 0) (by omega) (by omega)).trans r0
   replace r1 := (htc.cell (i := 1) (by omega) (by omega)).trans r1
   replace q0 := (htc.frozen (i := 0) (by omega) (by omega)).trans q0
   replace q1 := (htc.frozen (i := 1) (by omega) (by omega)).trans q1
   have hfl := hif.lt
   have hl1 : w.heap.size + 1 ≤ wd.heap.size := by omega
   have hfw : w.heap.size + 1 ≤ fb := by omega
   clear hif HA HIF htc hzr hb1 hB1 hs1 hbd
   go_wp2_with fail
   go_loopw [12] (fun i wr => ∃ (k : Nat) (f : List Int), k ≤ ls.length ∧ i = .int .i64 k ∧ telK t.1 ls vs (List.replicate N (-1)) k = some f ∧ IR 2 fb wr fb N N f ∧ TchP (fun q => q = fb) wd wr) (fun i _ => ls.length - (intOf i).toNat)
   case atStart => exact ⟨0, _, Nat.zero_le _, rfl, rfl, HI0.out, TchP.refl _ _⟩
   case round =>
    obtain ⟨k, f, hk, rfl, htk, hIf, ht⟩ := hrel
    have HTK := Lib.hid htk
    have HIF := Lib.hid hIf
    have HT := Lib.hid ht
    obtain ⟨hfl2, hfb2⟩ := telK_ok htk (fun a ha => by rw [List.eq_of_mem_replicate ha]; omega) HVS.out hs4.1
    have HFB := Lib.hid hfb2
    have hfN : f.length = N := hIf.1
    have hzr := ht.size
    have hBr : Below w.heap.size w wr := hBd.trans (ht.below (by omega) (fun k hk h => by omega))
    obtain ⟨wv, rfl⟩ : ∃ wv : World, wv = wr := ⟨_, rfl⟩
    have x0 := (ht.cell (i := 0) (by omega) (by omega)).trans r0
    have x1 := (ht.cell (i := 1) (by omega) (by omega)).trans r1
    have y0 := (ht.frozen (i := 0) (by omega) (by omega)).trans q0
    have y1 := (ht.frozen (i := 1) (by omega) (by omega)).trans q1
    have ct := (cellB hBr htq).trans p0
    have htv : tq < wv.heap.size := by omega
    clear htk hIf ht hfb2 hfl2
    by_cases hkl : k < ls.length
    ·have hkv : k < vs.length := by rw [← HLEN.out]; exact hkl
     obtain ⟨_, _, hx, -, -, hxe⟩ := slice_exP ((rd_rdP HL.out).below hBr)
     simp only [List.cons.injEq, Value.slice.injEq, and_true] at hx
     obtain ⟨rfl, -, rfl⟩ := hx
     obtain ⟨lb, lo, rfl, hlb, -, hce⟩ := hxe (by omega)
     obtain ⟨cs, hcs, hcell⟩ := hce k hkl
     obtain ⟨ka, kc, rfl, -, -, -⟩ := slice_exP hcs
     have d0 : wv.cell? ⟨lb, lo + k, none⟩ = some (.slice ka ls[k].length kc) := by
      have := hcell 0 (by simp)
      simpa [Ty.slice] using this
     obtain ⟨_, _, hx, -, -, hxe'⟩ := slice_exP ((rd_rdP HV.out).below hBr)
     simp only [List.cons.injEq, Value.slice.injEq, and_true] at hx
     obtain ⟨rfl, -, rfl⟩ := hx
     obtain ⟨vb, vo, rfl, hvb, hvg, hce'⟩ := hxe' (by omega)
     obtain ⟨cs', ⟨fp', ⟨rfl, hIv, -⟩, -⟩, hcell'⟩ := hce' k hkv
     have d1 : wv.cell? ⟨vb, vo + k, none⟩ = some (.int .i64 vs[k]) := by
      have := hcell' 0 (by simp)
      simpa [Ty.int] using this
     obtain ⟨i1, i2, i3⟩ := HIX.out ls[k] (List.getElem_mem hkl)
     have HRD := Lib.hid hcs.rd
     have hi0 := (idx_bd hs4.1 i2 ls[k].length (Nat.le_refl _)).1
     rw [List.take_length] at hi0
     have HI2 := Lib.hid i2
     have HYES := Lib.hid (fun h => telK_yes (s := t.1) HTK.out hkl hkv h)
     have HNO := Lib.hid (fun h => telK_no (s := t.1) HTK.out hkl hkv h)
     have hvk := HVS.out vs[k] (List.getElem_mem hkv)
     rw [HLEN.out] at *
     clear hxe hce hcell hxe' hce' hcell' hcs i2
     obtain ⟨q, hq⟩ : ∃ q : Nat, idxL t.1 0 ls[k] = q := ⟨_, (Int.toNat_of_nonneg hi0).symm⟩
     have cC : ∀ n, Calls Tryz.prog 75 #[.int .i64 t.1, .slice ka ls[k].length kc] (wv.drewN n) fun e w'' => e = .returned (.int .i64 q) ∧ ∃ m, w'' = wv.drewN m := fun n => by
      have := pure_drawn (l01Code_any (wv.drewN n) t.1 (HRD.out.below (Quiet.drewN wv n).below) (by omega) (by omega) (by omega) HI2.out)
      rw [hq] at this
      exact this
     rw [hq] at i3 HYES HNO
     have hqN : q < N := by omega
     have hqf : q < f.length := by omega
     have dq : wv.cell? ⟨fb, q, none⟩ = some (.int .i64 f[q]) := by
      rw [World.ownsRow.cellAt HIF.out.2.2.2 q (by omega), List.getElem?_map, List.getElem?_eq_getElem hqf]
      rfl
     have fq := HIF.out.free q
     have hgd : f.getD q 0 = f[q] := by rw [List.getD_eq_getElem?_getD, List.getElem?_eq_getElem hqf]; rfl
     rw [Int.toNat_natCast, hgd] at HYES HNO
     have hgl := HIF.out.lt
     generalize hfq : f[q] = y at *
     generalize hvq : vs[k] = z at *
     clear hq hgd hfq hvq hi0
     go_wp2_with fail
     go_quiet (exact cC _)
     clear cC
     generalize hX : wv.drewN _ = wx
     have hbx : Below wv.heap.size wv wx := hX ▸ (Quiet.drewN wv _).below
     have hzx := hbx.size
     clear hX
     replace d0 := (cellB hbx (by omega)).trans d0
     replace d1 := (cellB hbx (by omega)).trans d1
     replace dq := (cellB hbx (by omega)).trans dq
     replace ct := (cellB hbx (by omega)).trans ct
     replace x0 := (cellB hbx (by omega)).trans x0
     replace x1 := (cellB hbx (by omega)).trans x1
     replace fq := (frozenB hbx (by omega)).trans fq
     replace y0 := (frozenB hbx (by omega)).trans y0
     replace y1 := (frozenB hbx (by omega)).trans y1
     have hBx := bthen hBr hbx
     have HIX2 : Hid (IR 2 fb wx fb N N f) := HIF.out.same (hbx.block fb hgl)
     have HTX : Hid (TchP (fun q => q = fb) wd wx) := HT.out.then (TchP.of_below hbx (fun q => q = fb)) (fun q _ h => h)
     have hgx : fb < wx.heap.size := by omega
     have hvx : vb < wx.heap.size := by omega
     clear HIF HT hlb hvb hgl htv
     go_wp2_with fail
     cases hd : decide (0 ≤ y)
     ·have HE := Lib.hid (HYES.out (by rw [hd]; rfl))
      go_quiet (fail)
      generalize hX : wx.drewN _ = wy
      have hby : Below wx.heap.size wx wy := hX ▸ (Quiet.drewN wx _).below
      clear hX
      replace d1 := (cellB hby (by omega)).trans d1
      replace x0 := (cellB hby (by omega)).trans x0
      replace x1 := (cellB hby (by omega)).trans x1
      replace fq := (frozenB hby (by omega)).trans fq
      replace y0 := (frozenB hby (by omega)).trans y0
      replace y1 := (frozenB hby (by omega)).trans y1
      replace dq := (cellB hby hgx).trans dq
      have HIY : Hid (IR 2 fb wy fb N N f) := HIX2.out.same (hby.block fb hgx)
      have HTY : Hid (TchP (fun q => q = fb) wd wy) := HTX.out.then (TchP.of_below hby (fun q => q = fb)) (fun q _ h => h)
      have hgy : fb < wy.heap.size := Nat.lt_of_lt_of_le hgx hby.size
      go_wp2_with fail
      go_roundw
      case rel => exact ⟨k + 1, f.set q z, by omega, by go_num, HE.out, HIY.out.set q hIv, HTY.out.then (TchP.set (O := fun q => q = fb) rfl) (fun q _ h => h)⟩
      case measure => simp [intOf]; omega
     ·cases hn : (y != z)
      ·have HE := Lib.hid (HYES.out (by rw [hd, hn]; rfl))
       go_quiet (fail)
       generalize hX : wx.drewN _ = wy
       have hby : Below wx.heap.size wx wy := hX ▸ (Quiet.drewN wx _).below
       clear hX
       replace d1 := (cellB hby (by omega)).trans d1
       replace x0 := (cellB hby (by omega)).trans x0
       replace x1 := (cellB hby (by omega)).trans x1
       replace fq := (frozenB hby (by omega)).trans fq
       replace y0 := (frozenB hby (by omega)).trans y0
       replace y1 := (frozenB hby (by omega)).trans y1
       replace dq := (cellB hby hgx).trans dq
       have HIY : Hid (IR 2 fb wy fb N N f) := HIX2.out.same (hby.block fb hgx)
       have HTY : Hid (TchP (fun q => q = fb) wd wy) := HTX.out.then (TchP.of_below hby (fun q => q = fb)) (fun q _ h => h)
       have hgy : fb < wy.heap.size := Nat.lt_of_lt_of_le hgx hby.size
       go_wp2_with fail
       go_roundw
       case rel => exact ⟨k + 1, f.set q z, by omega, by go_num, HE.out, HIY.out.set q hIv, HTY.out.then (TchP.set (O := fun q => q = fb) rfl) (fun q _ h => h)⟩
       case measure => simp [intOf]; omega
      ·have HE := Lib.hid (HNO.out (by rw [hd, hn]; rfl))
       have hno : wF t ar ls vs = none := HWF.out.symm.trans (telK_none HE.out (by omega))
       have HR := Lib.hid (lw_none hno)
       clear hno
       go_quiet (fail)
       generalize hX : wx.drewN _ = wy
       have hby : Below wx.heap.size wx wy := hX ▸ (Quiet.drewN wx _).below
       clear hX
       replace x0 := (cellB hby (by omega)).trans x0
       replace x1 := (cellB hby (by omega)).trans x1
       replace y0 := (frozenB hby (by omega)).trans y0
       replace y1 := (frozenB hby (by omega)).trans y1
       have hBy := bthen hBx hby
       have hly : w.heap.size < wy.heap.size := by have := hby.size; omega
       have HZ0 := Lib.hid (fun (x y : Value) => res2_0 (x := x) (y := y) x0)
       have HZ1 := Lib.hid (fun (x y : Value) => res2_1 (x := x) (y := y) x1)
       go_wp2_with fail
       refine bodyPost_ret (v := .tuple #[.agg #[.int .i64 0, .slice none 0 0], .int .i64 4]) (by simp [results, Tryz.results141, go_sem, HZ0.out, HZ1.out]) rfl ⟨[.int .i64 0, .slice none 0 0], by rw [HR.out.2], ?_, res2_b hBy (by omega)⟩
       rw [HR.out.1]
       exact fr_op0
    ·obtain rfl : k = ls.length := by omega
     have hnl : ¬ (ls.length < ls.length) := by omega
     have HW : Hid (wF t ar ls vs = some f) := HWF.out.symm.trans HTK.out
     have hgl := HIF.out.lt
     clear hBd c0 r0 r1 q0 q1 HI0 HT HIX ct htv hnl HWF HTK
     go_wp2_with fail
     refine (l04Begin_any _ (HPTN.out.below hBr) HTT.out har).mono ?_
     rintro e w4 ⟨hb4, hcase⟩
     have hB4 := bthen hBr hb4
     have hz4 := hb4.size
     replace x0 := (cellB hb4 (by omega)).trans x0
     replace x1 := (cellB hb4 (by omega)).trans x1
     replace y0 := (frozenB hb4 (by omega)).trans y0
     replace y1 := (frozenB hb4 (by omega)).trans y1
     have HIF4 : Hid (IR 2 fb w4 fb N N f) := HIF.out.same (hb4.block fb hgl)
     have hl4 : w.heap.size + 1 ≤ w4.heap.size := by omega
     clear HIF
     rcases hcase with ⟨hlm, rfl⟩ | ⟨hlm, br, gt, rfl, hbr, hgt, hne, hf4, hRu, hMc⟩
     ·have HR := Lib.hid (lw_lim HW.out hlm)
      have HZ0 := Lib.hid (fun (x y : Value) => res2_0 (x := x) (y := y) x0)
      have HZ1 := Lib.hid (fun (x y : Value) => res2_1 (x := x) (y := y) x1)
      clear hlm
      go_wp2_with fail
      refine bodyPost_ret (v := .tuple #[.agg #[.int .i64 0, .slice none 0 0], .int .i64 3]) (by simp [results, Tryz.results141, go_sem, HZ0.out, HZ1.out]) rfl ⟨[.int .i64 0, .slice none 0 0], by rw [HR.out.2], ?_, res2_b hB4 (by omega)⟩
      rw [HR.out.1]
      exact fr_op0
     ·have HR := Lib.hid (lw_fo HW.out hlm)
      have HLK := Lib.hid (tpl_looks HTT.out har hlm)
      rw [HNE.out] at hRu hMc HLK
      obtain ⟨v4, c4⟩ : ∃ v4, w4.cell? ⟨br, 4, none⟩ = some v4 := by
       obtain ⟨_, _, _, _, _, _, _, _, _, _, _, _, _, c4, -⟩ := hRu
       exact ⟨_, c4⟩
      have hfe : ∀ k : Nat, k = fb → k ≠ br ∧ k ≠ gt := fun k hk => by omega
      have hRF : intsT.RdP (fun k => k ≠ br ∧ k ≠ gt) w4 [.slice (some ⟨fb, 0, none⟩) N N] f := by
       obtain ⟨fp, h2, -, h3, -⟩ := HIF4.out.fr (by unfold capMax; omega)
       exact ⟨fp, h2, fun k hk => hfe k (IR.fp HIF4.out h2 k hk)⟩
      have HRU := Lib.hid (hRu.setF (fun h => h.1 rfl) hRF)
      have HMC : Hid (Mc 2 wv.heap.size (w4.setCell ⟨br, 4, none⟩ (.slice (some ⟨fb, 0, none⟩) N N)) br gt N (tabV N [] (-1)) 0 false) := by
       rw [← tabV_start (by omega)]
       exact hMc.setF hne
      have HS : Hid (t.1 = (t.1.toNat : Int)) := by unfold Hid; omega
      have hbrl := hRu.1
      have hgtl := hMc.2.2.1.lt
      have HFXL : Hid (f.length = N) := hfN
      have HFS : Hid (∀ i, f.getD i 0 < (t.1.toNat : Int)) := fun i => by
       rw [List.getD_eq_getElem?_getD]
       cases h3 : f[i]? with
       | none => simp; omega
       | some b => have := (HFB.out b (List.mem_of_getElem? h3)).2; simp; omega
      have HP : Hid (∀ yc, upF t.1.toNat (goesF t (duesF (looksA t ar.toNat) N)) f yc N 0 [] (-1) (0, 0, []) = polyF t ar f yc) := fun yc => by
       have h := up_all (s := t.1.toNat) (okT := goesF t (duesF (looksA t ar.toNat) N)) (fx := f) (yc := yc) (N := N) (r := (0, 0, [])) (by omega)
       rw [h]
       unfold polyF okF
       rw [HNE.out]
      have HNEE := Lib.hid hne
      clear hRu hMc hRF hlm
      go_wp2_with fail
      have hB5 : Below w.heap.size w (w4.setCell ⟨br, 4, none⟩ (.slice (some ⟨fb, 0, none⟩) N N)) := hB4.trans ((TchP.set (O := fun k => k = br) rfl).below (by omega) (fun k hk h => by omega))
      have s0 := (World.cell?_setCell_other w4 ⟨br, 4, none⟩ ⟨w.heap.size, 0, none⟩ (.slice (some ⟨fb, 0, none⟩) N N) (by simp)).trans x0
      have s1 := (World.cell?_setCell_other w4 ⟨br, 4, none⟩ ⟨w.heap.size, 1, none⟩ (.slice (some ⟨fb, 0, none⟩) N N) (by simp)).trans x1
      have t0 := (World.frozen?_setCell w4 ⟨br, 4, none⟩ ⟨w.heap.size, 0, none⟩ (.slice (some ⟨fb, 0, none⟩) N N)).trans y0
      have t1 := (World.frozen?_setCell w4 ⟨br, 4, none⟩ ⟨w.heap.size, 1, none⟩ (.slice (some ⟨fb, 0, none⟩) N N)).trans y1
      have hz5 : (w4.setCell ⟨br, 4, none⟩ (.slice (some ⟨fb, 0, none⟩) N N)).heap.size = w4.heap.size := by simp [World.setCell]
      generalize w4.setCell ⟨br, 4, none⟩ (.slice (some ⟨fb, 0, none⟩) N N) = w5 at *
      clear x0 x1 y0 y1 c4 hf4
      refine (next_any w5 HRU.out HMC.out (fun k hk => hk) HNEE.out HTT.out HS.out (by omega) HLK.out.2.1 HLK.out.1 HLK.out.2.2 HFXL.out HFS.out preOk_nil (.inl rfl) (by show 0 < N; omega) (by omega) (fun _ => rfl) (fun h => by cases h)).mono ?_
      rintro e w6 ⟨more, bad, rfl, hRu6, htc6, hcase⟩
      have hz6 := htc6.size
      have hB6 : Below w.heap.size w w6 := hB5.trans (htc6.below (by omega) (fun q hq h => by omega))
      replace s0 := (htc6.cell (i := 0) (by omega) (by omega)).trans s0
      replace s1 := (htc6.cell (i := 1) (by omega) (by omega)).trans s1
      replace t0 := (htc6.frozen (i := 0) (by omega) (by omega)).trans t0
      replace t1 := (htc6.frozen (i := 1) (by omega) (by omega)).trans t1
      have hl6 : w.heap.size < w6.heap.size := by omega
      have HZ0 := Lib.hid (fun (x y : Value) => res2_0 (x := x) (y := y) s0)
      have HZ1 := Lib.hid (fun (x y : Value) => res2_1 (x := x) (y := y) s1)
      have hbr6 : br < w6.heap.size := by omega
      obtain ⟨_, _, _, _, _, _, _, _, _, _, b1, -⟩ := hRu6
      clear htc6
      rcases hcase with ⟨rfl, rfl, st', hu⟩ | ⟨rfl, rfl, hu⟩ | ⟨rfl, rfl, pre', v, st', hpl', hpo', hco', hMc', hst1, hst2, hu⟩
      ·have hE := (HP.out (fun _ => -1)).symm.trans (hu (fun _ => -1) [])
       have HF := Lib.hid (fo_0 (ar := ar) (R := polyF t ar f fun _ => -1) (by rw [hE]))
       clear hu hE
       go_wp2_with fail
       refine bodyPost_ret (v := .tuple #[.agg #[.int .i64 0, .slice none 0 0], .int .i64 6]) (by simp [results, Tryz.results141, go_sem, HZ0.out, HZ1.out]) rfl ⟨[.int .i64 0, .slice none 0 0], by rw [HR.out.2, HF.out.2], ?_, res2_b hB6 (by omega)⟩
       rw [HR.out.1, HF.out.1]
       exact fr_op0
      ·have hE := (HP.out (fun _ => -1)).symm.trans (hu (fun _ => -1) [])
       have HF := Lib.hid (fo_7 (ar := ar) (R := polyF t ar f fun _ => -1) (by rw [hE]))
       clear hu hE
       go_wp2_with fail
       refine bodyPost_ret (v := .tuple #[.agg #[.int .i64 0, .slice none 0 0], .int .i64 7]) (by simp [results, Tryz.results141, go_sem, HZ0.out, HZ1.out]) rfl ⟨[.int .i64 0, .slice none 0 0], by rw [HR.out.2, HF.out.2], ?_, res2_b hB6 (by omega)⟩
       rw [HR.out.1, HF.out.1]
       exact fr_op0
      ·have hE := (HP.out (fun _ => -1)).symm.trans ((hu (fun _ => -1) []).trans (cont_no (by decide)))
       have HF := Lib.hid (fo_m (ar := ar) (R := polyF t ar f fun _ => -1) (st := st') (x := pre' ++ [(v : Int)]) (by rw [hE]; rfl))
       obtain ⟨-, b5, hIT, -, -, -, -⟩ := hMc'
       have HRT := Lib.hid (hIT.fr (by unfold capMax; omega)).rd
       have htl : (pre' ++ [(v : Int)]).length ≤ 1000000 := by rw [List.length_append, List.length_singleton]; omega
       clear hu hE hIT hpo' hco'
       go_wp2_with fail
       refine (op_any w6 hbr6 b1 b5 HRT.out htl).mono ?_
       rintro e w7 ⟨u, rfl, hf7, hb7⟩
       obtain ⟨ua, un, uc, rfl⟩ := ex_slice hf7
       have HF7 := Lib.hid hf7
       have hB7 := bthen hB6 hb7
       have hz7 := hb7.size
       replace s0 := (cellB hb7 (by omega)).trans s0
       replace s1 := (cellB hb7 (by omega)).trans s1
       replace t0 := (frozenB hb7 (by omega)).trans t0
       replace t1 := (frozenB hb7 (by omega)).trans t1
       have hl7 : w.heap.size < w7.heap.size := by omega
       replace HZ0 := Lib.hid (fun (x y : Value) => res2_0 (x := x) (y := y) s0)
       replace HZ1 := Lib.hid (fun (x y : Value) => res2_1 (x := x) (y := y) s1)
       clear hf7 b1 b5
       go_wp2_with fail
       refine bodyPost_ret (v := .tuple #[.agg #[.int .i64 ar, .slice ua un uc], .int .i64 0]) (by simp [results, Tryz.results141, go_sem, HZ0.out, HZ1.out]) rfl ⟨[.int .i64 ar, .slice ua un uc], by rw [HR.out.2, HF.out.2], ?_, res2_b hB7 (by omega)⟩
       rw [HR.out.1, HF.out.1]
       exact (fr_cons (I64.small (by omega) (by omega)) ((HF7.out.set (a := ⟨w.heap.size, 0, none⟩) (show w.heap.size < w6.heap.size by omega)).set (a := ⟨w.heap.size, 1, none⟩) (show w.heap.size < w6.heap.size by omega))).mono (by omega)
end Go.Proofs.YtajmjfbejfiipaaGreat
namespace Go.Proofs.YtajmjfbejfiipaaGreat
open Go.RowKit Go.Sort
section
variable {t : Tpl} {ar : Int} {ls : List (List Int)} {vs : List Int}
end
end Go.Proofs.YtajmjfbejfiipaaGreat
namespace Go.Proofs.YtajmjfbejfiipaaGreat
open Go.RowKit Go.Sort
theorem getLastD_or {α : Type} (l : List α) (d : α) : l.getLastD d = d ∨ l.getLastD d ∈ l := by
 rcases List.eq_nil_or_concat l with rfl | ⟨l', a, rfl⟩
 ·exact .inl rfl
 ·right; rw [List.concat_eq_append, List.getLastD_concat]; simp
theorem fo_len {t : Tpl} {ar : Int} {f : List Int} : (foV ar (polyF t ar f fun _ => -1)).2.length ≤ tabL t ar := by
 unfold foV
 split
 ·rcases getLastD_or (polyF t ar f fun _ => -1).2.2 [] with h | h
  ·show ((polyF t ar f fun _ => -1).2.2.getLastD []).length ≤ _
   rw [h]; exact Nat.zero_le _
  ·show ((polyF t ar f fun _ => -1).2.2.getLastD []).length ≤ _
   rcases srch_lens _ _ _ h with h2 | h2
   ·cases h2
   ·rw [h2]; simp
 ·exact Nat.zero_le _
end Go.Proofs.YtajmjfbejfiipaaGreat
namespace Go.Proofs.YtajmjfbejfiipaaGreat
open Go.RowKit Go.Sort
/-- the lists of the values of tuples at all places -/
def colsL (u : List (List Int)) (m : Nat) : List (List Int) := (List.range m).map fun p => colL u p
theorem colsL_succ {u : List (List Int)} {m : Nat} : colsL u m ++ [colL u m] = colsL u (m + 1) := by simp [colsL, List.range_succ]
theorem colsL_len {u : List (List Int)} {m : Nat} : (colsL u m).length = m := by simp [colsL]
theorem colL_step {u : List (List Int)} {p k : Nat} (h : k < u.length) (hp : p < (u[k]).length) : (colL u p).take k ++ [(u[k])[p]] = (colL u p).take (k + 1) := by
 have hk : k < (colL u p).length := by rw [colL_len]; exact h
 rw [List.take_succ_eq_append_getElem hk, colL_get h hp hk]
theorem cols_in {u : List (List Int)} {s : Int} {m : Nat} (hm : ∀ l ∈ u, l.length = m) (hin : ∀ l ∈ u, ∀ a ∈ l, 0 ≤ a ∧ a ≤ s - 1) : ∀ l ∈ colsL u m, (l.length : Int) = u.length ∧ ∀ a ∈ l, 0 ≤ a ∧ a ≤ s - 1 := fun l hl => by
 obtain ⟨p, hp, rfl⟩ := List.mem_map.1 hl
 have hp' : p < m := by simpa using hp
 refine ⟨by rw [colL_len], fun a ha => ?_⟩
 obtain ⟨x, hx, rfl⟩ := List.mem_map.1 ha
 have hxl : p < x.length := by rw [hm x hx]; exact hp'
 rw [List.getD_eq_getElem?_getD, List.getElem?_eq_getElem hxl]
 exact hin x hx _ (List.getElem_mem hxl)
theorem fr_rdP {α : Type} {E : Ty α} {base : Nat} {w : World} {cs : List Value} {x : α} (h : E.Fr base w cs x) : E.RdP (fun k => base ≤ k) w cs x := let ⟨fp, h1, _, h3, _⟩ := h; ⟨fp, h1, h3⟩
set_option maxHeartbeats 1600000 in
set_option maxRecDepth 100000 in
theorem columns_any (w : World) {v : Value} {u : List (List Int)} (h : rowsT.Rd w [v] u) {m : Nat} (h0 : 0 < u.length) (hL : u.length ≤ 1000) (hm : ∀ t ∈ u, t.length = m) (hm1 : m ≤ 1000) :
  Calls Tryz.prog 62 #[v] w (RetS rowsT w (colsL u m)) := by
 obtain ⟨la, lc, hv, -, -, hcell⟩ := slices_ex h
 obtain rfl : v = _ := by simpa using hv
 obtain ⟨b, o, rfl, hb, hce⟩ := hcell h0
 obtain ⟨u0, hu0, hc0⟩ := hce 0 h0
 obtain ⟨a0, k0, rfl⟩ := rd_slice hu0
 have hm0 : (u[0]).length = m := hm _ (List.getElem_mem h0)
 rw [hm0, Nat.add_zero] at hc0
 have HM := Lib.hid hm
 have HC := Lib.hid hce
 have e0 : ∀ x, (w.alloc x).cell? ⟨b, o, none⟩ = some (.slice a0 m k0) := fun x => (cellB bA hb).trans hc0
 clear h hv hcell hce hu0 hm0 hm
 go_enter Tryz.func62, Tryz.ntmps62
 go_wp2_with fail
 clear e0
 go_loopw [13, 3] (fun i o wr => ∃ p : Nat, p ≤ m ∧ i = .int .i64 p ∧ Bl intsT 38 w.heap.size wr.heap.size wr o (colsL u p) ∧ Below w.heap.size w wr) (fun i _ _ => m - (intOf i).toNat)
 case atStart => exact ⟨0, Nat.zero_le _, rfl, by simpa [colsL] using Bl.lit0 (E := intsT) (e := 38) (w := w) (Nat.le_refl _), bA⟩
 case round =>
  obtain ⟨p, hp, rfl, hBl, hbel⟩ := hrel
  have HB := Lib.hid hBl
  obtain ⟨wv, rfl⟩ : ∃ wv : World, wv = wr := ⟨_, rfl⟩
  have hze := hbel.size
  clear hBl
  by_cases hpl : p < m
  ·go_wp2_with fail
   go_loopw [19, 5] (fun i c wr => ∃ k : Nat, k ≤ u.length ∧ i = .int .i64 k ∧ Bl Ty.int 2 wv.heap.size wr.heap.size wr c ((colL u p).take k) ∧ Below wv.heap.size wv wr) (fun i _ _ => u.length - (intOf i).toNat)
   case atStart => exact ⟨0, Nat.zero_le _, rfl, by simpa using Bl.lit0 (E := Ty.int) (e := 2) (w := wv) (Nat.le_refl _), bA⟩
   case round =>
    obtain ⟨k, hk, rfl, hBc, hbi⟩ := hrel
    have HBC := Lib.hid hBc
    have hzi := hbi.size
    have hBi := bthen hbel hbi
    clear hBc
    by_cases hkl : k < u.length
    ·obtain ⟨uk, huk, hck⟩ := HC.out k hkl
     obtain ⟨ak, ck, hv2, -, -, hcl⟩ := ints_ex huk
     obtain rfl : uk = _ := by simpa using hv2
     have hmk : (u[k]).length = m := HM.out _ (List.getElem_mem hkl)
     obtain ⟨bk, ok, rfl, hbk, hcl⟩ := hcl (by omega)
     obtain ⟨hI, hcp⟩ := hcl p (by omega)
     have d0 := (cellB hBi hb).trans hck
     have d1 := (cellB hBi hbk).trans hcp
     have HST := Lib.hid (colL_step hkl (show p < (u[k]).length by omega))
     generalize hz : (u[k])[p] = z at *
     have hlk : ((colL u p).take k).length ≤ 1000 := by rw [List.length_take, colL_len]; omega
     rw [hmk] at d0
     clear hck hcp hcl huk hv2 hmk hz
     go_wp2_with (refine wpList_push (E := Ty.int) _ rfl _ _ 38 2 rfl elInt rfl (HBC.out.below bA (Nat.le_refl _)) rfl news1 (fr_int hI) (by omega) (by decide) hbi.size (by simp) ?_; intro v1 w1 hB1 hg1 _)
     have hb1 : Below wv.heap.size wv w1 := (hbi.alloc hbi.size _).grown hg1 (by have := hbi.size; simp; omega) (fun k hk => HBC.out.own hk)
     rw [HST.out] at hB1
     have HB1 := Lib.hid hB1
     clear hB1 hg1 d0 d1
     go_wp2_with fail
     go_roundw
     case rel => exact ⟨k + 1, by omega, by go_num, HB1.out, hb1⟩
     case measure => simp [intOf]; omega
    ·obtain rfl : k = u.length := by omega
     have hfl : (colL u p).take u.length = colL u p := List.take_of_length_le (by rw [colL_len]; exact Nat.le_refl _)
     have HF := Lib.hid (hfl ▸ HBC.out.fr (by rw [List.length_take, colL_len]; unfold capMax; omega))
     obtain ⟨ac, nc, cc, rfl⟩ := ex_slice HF.out
     have hcl : (colsL u p).length ≤ 1000 := by rw [colsL_len]; omega
     clear hfl HBC
     go_wp2_with (refine wpList_push (E := intsT) _ rfl _ _ 29 38 rfl elInt64SS rfl (HB.out.below (hbi.alloc hbi.size _) (Nat.le_refl _)) rfl news1 (HF.out.below bA) (by omega) (by decide) hbel.size (by first | (simp; done) | (simp; omega)) ?_; intro v1 w1 hB1 hg1 _)
     have hb1 : Below w.heap.size w w1 := (hBi.alloc (by omega) _).grown hg1 (by simp; omega) (fun q hq => HB.out.own hq)
     rw [colsL_succ] at hB1
     have HB1 := Lib.hid hB1
     clear hB1 hg1
     go_wp2_with fail
     go_roundw
     case rel => exact ⟨p + 1, by omega, by go_num, HB1.out, hb1⟩
     case measure => simp [intOf]; omega
  ·obtain rfl : p = m := by omega
   go_wp2_with fail
   go_ret
   exact ⟨_, rfl, HB.out.fr (by rw [colsL_len]; unfold capMax; omega), hbel⟩
set_option maxHeartbeats 1600000 in
set_option maxRecDepth 100000 in
theorem l04Lists_any (w : World) {v : Value} {u : List (List Int)} (h : rowsT.Rd w [v] u) {m : Nat} (h0 : 0 < u.length) (hL : u.length ≤ 1000) (hm : ∀ t ∈ u, t.length = m) (hm1 : m ≤ 1000) :
  Calls Tryz.prog 74 #[v] w (RetS rowsT w (colsL u m)) := by
 obtain ⟨la, lc, hv, -, -, hcell⟩ := slices_ex h
 obtain rfl : v = _ := by simpa using hv
 obtain ⟨b, o, rfl, hb, hce⟩ := hcell h0
 obtain ⟨u0, hu0, hc0⟩ := hce 0 h0
 obtain ⟨a0, k0, rfl⟩ := rd_slice hu0
 have hm0 : (u[0]).length = m := hm _ (List.getElem_mem h0)
 rw [hm0, Nat.add_zero] at hc0
 have HM := Lib.hid hm
 have HC := Lib.hid hce
 clear h hv hcell hce hu0 hm0 hm
 go_enter Tryz.func74, Tryz.ntmps74
 go_wp2_with fail
 go_loopw [4, 3] (fun i o wr => ∃ p : Nat, p ≤ m ∧ i = .int .i64 p ∧ Bl intsT 38 w.heap.size wr.heap.size wr o (colsL u p) ∧ Below w.heap.size w wr) (fun i _ _ => m - (intOf i).toNat)
 case atStart => exact ⟨0, Nat.zero_le _, rfl, by simpa [colsL] using Bl.lit0 (E := intsT) (e := 38) (w := w) (Nat.le_refl _), bA⟩
 case round =>
  obtain ⟨p, hp, rfl, hBl, hbel⟩ := hrel
  have HB := Lib.hid hBl
  obtain ⟨wv, rfl⟩ : ∃ wv : World, wv = wr := ⟨_, rfl⟩
  have hze := hbel.size
  have e0 := (cellB hbel hb).trans hc0
  clear hBl
  by_cases hpl : p < m
  ·go_wp2_with fail
   clear e0
   go_loopw [6, 5] (fun i c wr => ∃ k : Nat, k ≤ u.length ∧ i = .int .i64 k ∧ Bl Ty.int 2 wv.heap.size wr.heap.size wr c ((colL u p).take k) ∧ Below wv.heap.size wv wr) (fun i _ _ => u.length - (intOf i).toNat)
   case atStart => exact ⟨0, Nat.zero_le _, rfl, by simpa using Bl.lit0 (E := Ty.int) (e := 2) (w := wv) (Nat.le_refl _), bA⟩
   case round =>
    obtain ⟨k, hk, rfl, hBc, hbi⟩ := hrel
    have HBC := Lib.hid hBc
    have hzi := hbi.size
    have hBi := bthen hbel hbi
    clear hBc
    by_cases hkl : k < u.length
    ·obtain ⟨uk, huk, hck⟩ := HC.out k hkl
     obtain ⟨ak, ck, hv2, -, -, hcl⟩ := ints_ex huk
     obtain rfl : uk = _ := by simpa using hv2
     have hmk : (u[k]).length = m := HM.out _ (List.getElem_mem hkl)
     obtain ⟨bk, ok, rfl, hbk, hcl⟩ := hcl (by omega)
     obtain ⟨hI, hcp⟩ := hcl p (by omega)
     have d0 := (cellB hBi hb).trans hck
     have d1 := (cellB hBi hbk).trans hcp
     have HST := Lib.hid (colL_step hkl (show p < (u[k]).length by omega))
     generalize hz : (u[k])[p] = z at *
     have hlk : ((colL u p).take k).length ≤ 1000 := by rw [List.length_take, colL_len]; omega
     rw [hmk] at d0
     clear hck hcp hcl huk hv2 hmk hz
     go_wp2_with (refine wpList_push (E := Ty.int) _ rfl _ _ 38 2 rfl elInt rfl (HBC.out.below bA (Nat.le_refl _)) rfl news1 (fr_int hI) (by omega) (by decide) hbi.size (by simp) ?_; intro v1 w1 hB1 hg1 _)
     have hb1 : Below wv.heap.size wv w1 := (hbi.alloc hbi.size _).grown hg1 (by have := hbi.size; simp; omega) (fun k hk => HBC.out.own hk)
     rw [HST.out] at hB1
     have HB1 := Lib.hid hB1
     clear hB1 hg1 d0 d1
     go_wp2_with fail
     go_roundw
     case rel => exact ⟨k + 1, by omega, by go_num, HB1.out, hb1⟩
     case measure => simp [intOf]; omega
    ·obtain rfl : k = u.length := by omega
     have hfl : (colL u p).take u.length = colL u p := List.take_of_length_le (by rw [colL_len]; exact Nat.le_refl _)
     have HF := Lib.hid (hfl ▸ HBC.out.fr (by rw [List.length_take, colL_len]; unfold capMax; omega))
     obtain ⟨ac, nc, cc, rfl⟩ := ex_slice HF.out
     have hcl : (colsL u p).length ≤ 1000 := by rw [colsL_len]; omega
     clear hfl HBC
     go_wp2_with (refine wpList_push (E := intsT) _ rfl _ _ 29 38 rfl elInt64SS rfl (HB.out.below (hbi.alloc hbi.size _) (Nat.le_refl _)) rfl news1 (HF.out.below bA) (by omega) (by decide) hbel.size (by first | (simp; done) | (simp; omega)) ?_; intro v1 w1 hB1 hg1 _)
     have hb1 : Below w.heap.size w w1 := (hBi.alloc (by omega) _).grown hg1 (by simp; omega) (fun q hq => HB.out.own hq)
     rw [colsL_succ] at hB1
     have HB1 := Lib.hid hB1
     clear hB1 hg1
     go_wp2_with fail
     go_roundw
     case rel => exact ⟨p + 1, by omega, by go_num, HB1.out, hb1⟩
     case measure => simp [intOf]; omega
  ·obtain rfl : p = m := by omega
   go_wp2_with fail
   go_ret
   exact ⟨_, rfl, HB.out.fr (by rw [colsL_len]; unfold capMax; omega), hbel⟩
end Go.Proofs.YtajmjfbejfiipaaGreat
