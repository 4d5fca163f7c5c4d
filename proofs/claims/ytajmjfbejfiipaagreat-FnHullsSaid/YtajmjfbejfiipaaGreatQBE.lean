/-
Contracts: whether the atoms that are due hold.
Contracts: the search, told to a listener.
Contracts: a search's own data, made.
Contracts: a search for an instance; the first values.
Contracts: the solutions of an instance, counted, listed, the first; the program's.
Contracts: the solutions of an instance, the reference's.
Contracts: the first values for which all atoms hold, the reference's.
Contracts: whether a formula holds at a tuple, and where; both sides.
Contracts: the value of a formula, both sides.
Contracts: placing a formula: the program's.
Contracts: the formula of an instance, both sides.
The law of an append of a whole row: 'append(a, b...)', where b is new data. No program is named here.
Contracts: the conjunction of two formulas.
Plain mathematics: the tuples of a relation made by number are in order; where two values of formulas are apart.
Contracts: the value of a formula with its code, both sides.
Contracts: a template in new memory; a template extended by a formula: plain parts, the program's copies.
Contracts: a relation made of one to three tuples.
-/
import Derived.Test.YtajmjfbejfiipaaGreatQAD
import Derived.Test.YtajmjfbejfiipaaGreatQAA
import Derived.Test.YtajmjfbejfiipaaGreatQAC
import Derived.Test.YtajmjfbejfiipaaGreatQBB
import Derived.Test.YtajmjfbejfiipaaGreatQAI
import Derived.Test.YtajmjfbejfiipaaGreatQBD
namespace Go.Proofs.YtajmjfbejfiipaaGreat
open Go.RowKit Go.Sort
/-- do all atoms hold that are due when so many values are there? -/
noncomputable def goesB (t : Int × List (Int × List (List Int))) (due : List (List (Int × List Int))) (vals : List Int) : Bool := !anyB (fun a => !holdsA t vals a) (due.getD (vals.length - 1) [])
theorem goesB_at {t : Int × List (Int × List (List Int))} {due : List (List (Int × List Int))} {vals : List Int} {k : Nat} (h : vals.length = k + 1) (hk : k < due.length) : goesB t due vals = !anyB (fun a => !holdsA t vals a) due[k] := by
 unfold goesB
 rw [h, Nat.add_sub_cancel, List.getD_eq_getElem?_getD, List.getElem?_eq_getElem hk]
 rfl
/-- the atoms that are due are right -/
def dueOk (t : Int × List (Int × List (List Int))) (vars : Int) (due : List (List (Int × List Int))) : Prop := ∀ k (h : k < due.length), ∀ a ∈ due[k], atomOk t vars a ∧ ∀ p ∈ a.2, 0 ≤ p ∧ p < (k : Int) + 1
set_option maxHeartbeats 1600000 in
set_option maxRecDepth 100000 in
theorem goes1_any (w : World) {ca : Array Value} {a : Int × List Int} (ha : opT.Rd w ca.toList a) {ok : Nat → Prop} {bs : Nat} {t : Int × List (Int × List (List Int))} {vars : Int} {due : List (List (Int × List Int))} (hS : Sv ok w bs t vars due) {b1 b2 : Nat} {v : Value} {vals : List Int}
  (s0 : w.cell? ⟨b1, 0, none⟩ = some (.pointer (some ⟨bs, 0, none⟩))) (v0 : w.cell? ⟨b2, 0, none⟩ = some v) (hv : intsT.Rd w [v] vals) (hT : tplOk t) (hA : atomOk t vars a) (hin : ∀ p ∈ a.2, 0 ≤ p ∧ p < (vals.length : Int)) :
  Calls Tryz.prog 236 #[.agg ca, .pointer (some ⟨b1, 0, none⟩), .pointer (some ⟨b2, 0, none⟩)] w fun e w' => e = .returned (.bool (!holdsA t vals a)) ∧ Below w.heap.size w w' := by
 have HA := Lib.hid ha
 obtain ⟨hbs, -, v1, v3, c0, c1, -, -, ht, -⟩ := hS
 obtain ⟨va, hca, -, -⟩ := pair_ex ha
 obtain rfl := agg_of hca
 have HTR := Lib.hid ht.rd
 have HV := Lib.hid hv
 have HT := Lib.hid hT
 have HAO := Lib.hid hA
 have HIN := Lib.hid hin
 clear ha hca ht hv hT hA hin
 go_enter Tryz.func236, Tryz.ntmps236
 go_wp2_with fail
 generalize hW : World.alloc _ _ = W
 have hbW : Below w.heap.size w W := hW ▸ bA
 have a0 : W.cell? ⟨w.heap.size, 0, none⟩ = some (.int .i64 a.1) := by rw [← hW]; simp
 have a1 : W.cell? ⟨w.heap.size, 1, none⟩ = some va := by rw [← hW]; simp
 have k0 := (hbW.cell (cell_lt c0)).trans c0
 have k1 := (hbW.cell (cell_lt c1)).trans c1
 have k2 := (hbW.cell (cell_lt s0)).trans s0
 have k3 := (hbW.cell (cell_lt v0)).trans v0
 have hlW : w.heap.size < W.heap.size := by rw [← hW]; simp
 clear hW c0 c1 s0 v0
 refine wp_region_T (fun w' => w'.cell? ⟨w.heap.size, 0, none⟩ = some (.int .i64 a.1) ∧ w'.cell? ⟨w.heap.size, 1, none⟩ = some va ∧ w'.cell? ⟨bs, 0, none⟩ = some (.int .i64 t.1) ∧ w'.cell? ⟨bs, 1, none⟩ = some v1 ∧ w'.cell? ⟨b1, 0, none⟩ = some (.pointer (some ⟨bs, 0, none⟩)) ∧ w'.cell? ⟨b2, 0, none⟩ = some v) [6, 8] (by kernel_rfl) ⟨a0, a1, k0, k1, k2, k3⟩ (fun hHeld => ?_)
 refine wpAnyT_take (i := 0) (v := ?_) rfl (by kernel_rfl) (fun _ _ _ h => h) (Or.inl ⟨by rfl, ?_⟩) (by assumption) ?_
 rotate_left
 ·(intro w hSw; (try dsimp only at hSw); go_simp <;> with_reducible rfl)
 try simp only [Act.put]
 refine wpAnyT_take (i := 1) (v := ?_) rfl (by kernel_rfl) (fun _ _ _ h => h) (Or.inl ⟨by rfl, ?_⟩) (by assumption) ?_
 rotate_left
 ·(intro w hSw; (try dsimp only at hSw); go_simp <;> with_reducible rfl)
 try simp only [Act.put]
 refine wpAnyT_take (i := 2) (v := ?_) rfl (by kernel_rfl) (fun _ _ _ h => h) (Or.inl ⟨by rfl, ?_⟩) (by assumption) ?_
 rotate_left
 ·(intro w hSw; (try dsimp only at hSw); go_simp <;> with_reducible rfl)
 try simp only [Act.put]
 refine wpAnyT_take (i := 3) (v := ?_) rfl (by kernel_rfl) (fun _ _ _ h => h) (Or.inl ⟨by rfl, ?_⟩) (by assumption) ?_
 rotate_left
 ·(intro w hSw; (try dsimp only at hSw); go_simp <;> with_reducible rfl)
 try simp only [Act.put]
 refine wpAnyT_take (i := 4) (v := ?_) rfl (by kernel_rfl) (fun _ _ _ h => h) (Or.inl ⟨by rfl, ?_⟩) (by assumption) ?_
 rotate_left
 ·(intro w hSw; (try dsimp only at hSw); go_simp <;> with_reducible rfl)
 try simp only [Act.put]
 refine wpAnyT_take (i := 5) (v := ?_) rfl (by kernel_rfl) (fun _ _ _ h => h) (Or.inl ⟨by rfl, ?_⟩) (by assumption) ?_
 rotate_left
 ·(intro w hSw; (try dsimp only at hSw); go_simp <;> with_reducible rfl)
 try simp only [Act.put]
 refine wpAnyT_last (i := 6) rfl (by kernel_rfl) (by kernel_rfl) (fun K hK => ?_)
 go_simp
 go_at_call 237
 refine (holds_any (ct := #[.int .i64 t.1, v1]) (ca := #[.int .i64 a.1, va]) _ ((HTR.out.below hbW).below bD) ((HA.out.below hbW).below bD) ((HV.out.below hbW).below bD) HT.out HAO.out HIN.out).mono ?_
 rintro e w2 ⟨rfl, hb2⟩
 have hb2' : Below W.heap.size W w2 := bthen bD hb2
 dsimp only
 refine hK.out _ _ ?_
 clear hK K
 refine wpAnyT_any (i := 7) (v := ?_) rfl (by kernel_rfl) (fun _ _ _ h => h) (Or.inl ⟨by rfl, ?_⟩) (by first | exact fun _ => by assumption | (intro hp; exact absurd hp (by rw [show pastB _ _ = true by kernel_rfl]; simp))) ?_
 rotate_left
 ·(intro w hSw; (try dsimp only at hSw); go_simp <;> with_reducible rfl)
 try simp only [Act.put]
 refine wpAnyT_last (i := 8) rfl (by kernel_rfl) (by kernel_rfl) (fun K hK => ?_)
 go_simp
 refine hK.out _ _ ?_
 clear hK K
 refine wpAnyT_done (by kernel_rfl) ?_ _
 go_simp
 go_wp2_with fail
 go_ret
 exact ⟨rfl, bthen hbW hb2'⟩
set_option maxHeartbeats 1600000 in
set_option maxRecDepth 100000 in
theorem goes_any (w : World) {ok : Nat → Prop} {bs : Nat} {t : Int × List (Int × List (List Int))} {vars : Int} {due : List (List (Int × List Int))} (hS : Sv ok w bs t vars due) {v : Value} {vals : List Int} (hv : intsT.Rd w [v] vals) (hT : tplOk t) (hD : dueOk t vars due) (h1 : 1 ≤ vals.length) (h2 : vals.length ≤ due.length) :
  Calls Tryz.prog 206 #[.pointer (some ⟨bs, 0, none⟩), v] w fun e w' => e = .returned (.bool (goesB t due vals)) ∧ Below w.heap.size w w' := by
 have HS := Lib.hid hS
 obtain ⟨hbs, -, v1, v3, -, -, -, c3, -, hd⟩ := hS
 obtain ⟨k, hk⟩ : ∃ k, vals.length = k + 1 := ⟨vals.length - 1, by omega⟩
 have hkd : k < due.length := by omega
 have HG := Lib.hid (goesB_at (t := t) hk hkd)
 obtain ⟨da, dc, hdv, -, hdl, hdce⟩ := slices_ex hd.rd
 obtain rfl : v3 = _ := by simpa using hdv
 obtain ⟨g, go0, rfl, hg, hce⟩ := hdce (by omega)
 obtain ⟨u, hu, hcu⟩ := hce k hkd
 obtain ⟨ua, un, uc, rfl⟩ := rd_sl hu
 obtain ⟨va, vc, rfl⟩ := rd_slice hv
 have HU := Lib.hid hu
 have HV := Lib.hid hv
 have HT := Lib.hid hT
 have HD := Lib.hid hD
 have HK := Lib.hid hk
 have hwr : IntKind.i64.wrap (k : Int) = k := wrap_small (by omega) (by omega)
 rw [hk]
 clear hd hdv hdce hce hu hv hT hD hk h1 h2
 go_enter Tryz.func206, Tryz.ntmps206
 go_wp2_with fail
 generalize hW : World.alloc _ _ = W
 have hbW : Below w.heap.size w W := hW ▸ bAA
 have hsW : W.heap.size = w.heap.size + 2 := by rw [← hW]; simp
 have p0 : W.cell? ⟨w.heap.size, 0, none⟩ = some (.pointer (some ⟨bs, 0, none⟩)) := by rw [← hW]; simp [go_sem]
 have p1 : W.cell? ⟨w.heap.size + 1, 0, none⟩ = some (.slice va (k + 1) vc) := by rw [← hW]; simp [go_sem]
 have d3 := (cellB hbW hbs).trans c3
 have du := (cellB hbW hg).trans hcu
 clear hW c3 hcu
 refine wp_region_T (fun w' => w'.cell? ⟨w.heap.size, 0, none⟩ = some (.pointer (some ⟨bs, 0, none⟩)) ∧ w'.cell? ⟨w.heap.size + 1, 0, none⟩ = some (.slice va (k + 1) vc) ∧ w'.cell? ⟨bs, 3, none⟩ = some (.slice (some ⟨g, go0, none⟩) due.length dc) ∧ w'.cell? ⟨g, go0 + k, none⟩ = some (.slice ua un uc)) [10, 12] (by kernel_rfl) ⟨p0, p1, d3, du⟩ (fun hHeld => ?_)
 refine wpAnyT_take (i := 0) (v := ?_) rfl (by kernel_rfl) (fun _ _ _ h => h) (Or.inl ⟨by rfl, ?_⟩) (by assumption) ?_
 rotate_left
 ·(intro w hSw; (try dsimp only at hSw); go_simp <;> with_reducible rfl)
 try simp only [Act.put]
 refine wpAnyT_take (i := 1) (v := ?_) rfl (by kernel_rfl) (fun _ _ _ h => h) (Or.inl ⟨by rfl, ?_⟩) (by assumption) ?_
 rotate_left
 ·(intro w hSw; (try dsimp only at hSw); go_simp <;> with_reducible rfl)
 try simp only [Act.put]
 refine wpAnyT_take (i := 2) (v := ?_) rfl (by kernel_rfl) (fun _ _ _ h => h) (Or.inl ⟨by rfl, ?_⟩) (by assumption) ?_
 rotate_left
 ·(intro w hSw; (try dsimp only at hSw); go_simp <;> with_reducible rfl)
 try simp only [Act.put]
 refine wpAnyT_take (i := 3) (v := ?_) rfl (by kernel_rfl) (fun _ _ _ h => h) (Or.inl ⟨by rfl, ?_⟩) (by assumption) ?_
 rotate_left
 ·(intro w hSw; (try dsimp only at hSw); go_simp <;> with_reducible rfl)
 try simp only [Act.put]
 refine wpAnyT_take (i := 4) (v := ?_) rfl (by kernel_rfl) (fun _ _ _ h => h) (Or.inl ⟨by rfl, ?_⟩) (by assumption) ?_
 rotate_left
 ·(intro w hSw; (try dsimp only at hSw); go_simp <;> with_reducible rfl)
 try simp only [Act.put]
 refine wpAnyT_take (i := 5) (v := ?_) rfl (by kernel_rfl) (fun _ _ _ h => h) (Or.inl ⟨by rfl, ?_⟩) (by assumption) ?_
 rotate_left
 ·(intro w hSw; (try dsimp only at hSw); go_simp <;> with_reducible rfl)
 try simp only [Act.put]
 refine wpAnyT_take (i := 6) (v := ?_) rfl (by kernel_rfl) (fun _ _ _ h => h) (Or.inl ⟨by rfl, ?_⟩) (by assumption) ?_
 rotate_left
 ·(intro w hSw; (try dsimp only at hSw); go_simp <;> with_reducible rfl)
 try simp only [Act.put]
 refine wpAnyT_take (i := 7) (v := ?_) rfl (by kernel_rfl) (fun _ _ _ h => h) (Or.inl ⟨by rfl, ?_⟩) (by assumption) ?_
 rotate_left
 ·(intro w hSw; (try dsimp only at hSw); go_simp <;> with_reducible rfl)
 try simp only [Act.put]
 refine wpAnyT_take (i := 8) (v := ?_) rfl (by kernel_rfl) (fun _ _ _ h => h) (Or.inl ⟨by rfl, ?_⟩) (by assumption) ?_
 rotate_left
 ·(intro w hSw; (try dsimp only at hSw); go_simp <;> with_reducible rfl)
 try simp only [Act.put]
 refine wpAnyT_take (i := 9) (v := ?_) rfl (by kernel_rfl) (fun _ _ _ h => h) (Or.inl ⟨by rfl, ?_⟩) (by assumption) ?_
 rotate_left
 ·(intro w hSw; (try dsimp only at hSw); go_simp <;> with_reducible rfl)
 try simp only [Act.put]
 refine wpAnyT_last (i := 10) rfl (by kernel_rfl) (by kernel_rfl) (fun K hK => ?_)
 go_simp
 go_at_call 69
 have hbD : Below W.heap.size W W.drew := bD
 refine (ContainsFuncAtom_any _ ((HU.out.below hbW).below hbD) (fun a => !holdsA t vals a) 236 #[.pointer (some ⟨w.heap.size, 0, none⟩), .pointer (some ⟨w.heap.size + 1, 0, none⟩)] (enters Tryz.func236 (by kernel_rfl) rfl) (fun W' hW' q hq cs hcs => goes1_any W' hcs (((HS.out.below hbW).below hbD).below hW') ((hW'.cell (cell_lt hHeld.1)).trans hHeld.1) ((hW'.cell (cell_lt hHeld.2.1)).trans hHeld.2.1) (by have := ((HV.out.below hbW).below hbD).below hW'; rw [HK.out] at this; exact this) HT.out ((HD.out k hkd _ (List.getElem_mem hq)).1) (by have := (HD.out k hkd _ (List.getElem_mem hq)).2; rw [HK.out]; exact this))).mono ?_
 rintro e w2 ⟨rfl, hb2⟩
 have hb2' : Below W.heap.size W w2 := bthen hbD hb2
 dsimp only
 refine hK.out _ _ ?_
 clear hK K
 refine wpAnyT_any (i := 11) (v := ?_) rfl (by kernel_rfl) (fun _ _ _ h => h) (Or.inl ⟨by rfl, ?_⟩) (by first | exact fun _ => by assumption | (intro hp; exact absurd hp (by rw [show pastB _ _ = true by kernel_rfl]; simp))) ?_
 rotate_left
 ·(intro w hSw; (try dsimp only at hSw); go_simp <;> with_reducible rfl)
 try simp only [Act.put]
 refine wpAnyT_last (i := 12) rfl (by kernel_rfl) (by kernel_rfl) (fun K hK => ?_)
 go_simp
 refine hK.out _ _ ?_
 clear hK K
 refine wpAnyT_done (by kernel_rfl) ?_ _
 go_simp
 go_wp2_with fail
 go_ret
 exact ⟨ret_bool HG.out.symm, bthen hbW hb2'⟩
end Go.Proofs.YtajmjfbejfiipaaGreat
namespace Go.Proofs.YtajmjfbejfiipaaGreat
open Go.RowKit Go.Sort
set_option maxHeartbeats 800000 in
theorem Clip_any (w : World) {ad : Option Addr} {n c : Nat} (hn : n ≤ c) (h0 : ad = none → n = 0) (hl : n ≤ 140737488351232) :
  Calls Tryz.prog 238 #[.slice ad n c] w fun e w' => e = .returned (.slice ad n n) ∧ w = w' := by
 rcases ad with _ | ⟨b, o, fl⟩
 ·obtain rfl : n = 0 := h0 rfl
  go_enter Tryz.func238, Tryz.ntmps238
  go_wp2_with fail
  go_ret
  exact ⟨rfl, rfl⟩
 ·go_enter Tryz.func238, Tryz.ntmps238
  go_wp2_with fail
  go_ret
  exact ⟨rfl, rfl⟩
theorem rd_clip {w : World} {ad : Option Addr} {n c : Nat} {xs : List Int} {fp : List Nat} (h : intsT.rd w [.slice ad n c] xs fp) : intsT.rd w [.slice ad n n] xs fp ∧ n = xs.length ∧ n ≤ c ∧ (ad = none → n = 0) ∧ n ≤ 140737488351232 := by
 obtain ⟨ad', cap, hv, h1, h2, h3⟩ := h
 simp only [List.cons.injEq, Value.slice.injEq, and_true] at hv
 obtain ⟨rfl, rfl, rfl⟩ := hv
 refine ⟨⟨ad, xs.length, rfl, Nat.le_refl _, h2, h3⟩, rfl, h1, fun ha => ?_, h2⟩
 rcases h3 with ⟨h3, _⟩ | ⟨_, b, o, _, hb, _⟩
 ·exact h3
 ·rw [ha] at hb; cases hb
set_option maxHeartbeats 6400000 in
set_option maxRecDepth 100000 in
theorem walk_any {t : Int × List (Int × List (List Int))} {vars : Nat} {due : List (List (Int × List Int))} (hT : tplOk t) {s : Nat} (hs : t.1 = s) (hvars : vars ≤ 10) (hdl : due.length = vars) (hD : dueOk t vars due) (g : Nat) (caps : Array Value) (eg : ∀ args w, (callFunc g args).run Tryz.prog w = .ok (.enter g args) w)
  (go : List (List Int) → Bool) (I : List (List Int) → List Nat → World → Prop) (hY : Yl Tryz.prog g caps go I) (bs : Nat) (ok : Nat → Prop) :
  ∀ (m : Nat) (w : World) (v : Value) (vals : List Int) (fpv : List Nat) (told : List (List Int)) (O : List Nat), vals.length + m = vars → Sv ok w bs t vars due → (∀ k, ok k → k < w.heap.size ∧ k ∉ O) → intsT.rd w [v] vals fpv → (∀ k ∈ fpv, k ∉ O) → I told O w →
   told.length + (solsL s (goesB t due) m vals).length ≤ 2000000 →
   Calls Tryz.prog 207 #[.pointer (some ⟨bs, 0, none⟩), v, .func (.func g) #[] caps] w fun e w' => e = .returned (.bool (tellL go told (solsL s (goesB t due) m vals)).2) ∧
    ∃ O', I (tellL go told (solsL s (goesB t due) m vals)).1 O' w' ∧ TchF O w w' ∧ ∀ k ∈ O', k ∈ O ∨ w.heap.size ≤ k := by
 have HT := Lib.hid hT
 have HD := Lib.hid hD
 have HY := Lib.hid hY
 have hs4 := hT.1
 unfold sizeOk at hs4
 have hs41 : 1 ≤ s ∧ s ≤ 4 := by omega
 clear hT hD hY hs4
 intro m
 induction m with
 | zero =>
  intro w v vals fpv told O hlen hS hok hv hfv hI hbd
  have HS := Lib.hid hS
  obtain ⟨hbs, -, v1, v3, c0, c1, c2, c3, -, -⟩ := hS
  obtain ⟨va, vc, rfl⟩ := rd_slice ⟨fpv, hv⟩
  have HV : Hid (intsT.Rd w [.slice va vals.length vc] vals) := ⟨fpv, hv⟩
  have HI := Lib.hid hI
  have hl : vals.length = vars := by omega
  rw [solsL_zero, tellL_one]
  rw [solsL_zero] at hbd
  have hbd' : told.length ≤ 2000000 := by simp at hbd; omega
  clear hv hI hbd c0 c1 c3 hok hfv
  rw [hl] at HV ⊢
  go_enter Tryz.func207, Tryz.ntmps207
  go_wp2_with fail
  refine (Clone_any _ HV.out (by omega)).mono ?_
  rintro e w1 ⟨u, rfl, hf, hb1⟩
  have HF := Lib.hid hf
  clear hf
  go_wp2_with fail
  refine (HY.out.step HI.out hb1 HF.out (by omega) hbd').mono ?_
  rintro e w2 ⟨rfl, O', hI', ht, hO'⟩
  have HI2 := Lib.hid hI'
  have HO := Lib.hid hO'
  have HTC : Hid (TchF O w w2) := (Below.tchF hb1 O).then ht (fun k hk => .inl hk)
  clear hI' ht hO'
  go_wp2_with fail
  go_ret
  exact ⟨rfl, O', HI2.out, HTC.out, HO.out⟩
 | succ m ih =>
  intro w v vals fpv told O hlen hS hok hv hfv hI hbd
  have HS := Lib.hid hS
  obtain ⟨hbs, -, v1, v3, c0, c1, c2, c3, -, -⟩ := hS
  obtain ⟨va, vc, rfl⟩ := rd_slice ⟨fpv, hv⟩
  obtain ⟨hcl, -, hvl, hv0, hvm⟩ := rd_clip hv
  have HV := Lib.hid hcl
  have HI := Lib.hid hI
  have HOK := Lib.hid hok
  have HFV := Lib.hid hfv
  have HIH := Lib.hid ih
  have hl : vals.length < vars := by omega
  have hne : ((vals.length : Int) == (vars : Int)) = false := by simp; omega
  rw [solsL_succ]
  rw [solsL_succ] at hbd
  have HBD := Lib.hid hbd
  rw [hs] at c0
  have hbO := (hok bs HS.out.2.1).2
  clear hv hcl hI hbd hok hfv ih c1 c3
  go_enter Tryz.func207, Tryz.ntmps207
  go_wp2_with fail
  go_loopw [25] (fun i wr => ∃ (k : Nat) (O' : List Nat), k ≤ s ∧ i = .int .i64 k ∧ (tellL go told (solsTo s (goesB t due) m vals k)).2 = true ∧ I (tellL go told (solsTo s (goesB t due) m vals k)).1 O' wr ∧ TchF O w wr ∧ (∀ q ∈ O', q ∈ O ∨ w.heap.size ≤ q)) (fun i _ => s - (intOf i).toNat)
  case atStart => exact ⟨0, O, Nat.zero_le _, rfl, by rw [solsTo_zero]; rfl, by rw [solsTo_zero]; exact HI.out, TchF.refl _ _, fun q hq => .inl hq⟩
  case round =>
   obtain ⟨k, O', hk, rfl, hgo, hI', htc, hO'⟩ := hrel
   have HGO := Lib.hid hgo
   have HI2 := Lib.hid hI'
   have HO := Lib.hid hO'
   have htz := htc.size
   clear hgo hI' hO'
   by_cases hkl : k < s
   ·go_wp2_with fail
    refine (Clip_any _ hvl hv0 hvm).mono ?_
    rintro e _ ⟨rfl, rfl⟩
    have HVr : Hid (intsT.Rd wr [.slice va vals.length vals.length] vals) := ⟨fpv, HV.out.tch htc HFV.out⟩
    go_wp2_with (refine wpList_appFull _ rfl _ _ 38 2 rfl elInt rfl (HVr.out.below bA) rfl news1 (I64.small (by omega) (by omega)) (by omega) (by decide) ?_; intro u1 w1 hf1 hb1)
    obtain ⟨fp1, hr1, hnd1, hfb1, hun1⟩ := hf1
    have hb1' : Below wr.heap.size wr w1 := bthen bA hb1
    have HR1 := Lib.hid hr1
    have HFB1 : Hid (∀ q ∈ fp1, wr.heap.size ≤ q) := fun q hq => by have := hfb1 q hq; simp at this; omega
    have HLT := Lib.hid (HY.out.lt HI2.out)
    have hokO : ∀ q, ok q → q < w.heap.size ∧ q ∉ O' := fun q hq => ⟨(HOK.out q hq).1, fun hm => by
     rcases HO.out q hm with h | h
     ·exact (HOK.out q hq).2 h
     ·have := (HOK.out q hq).1; omega⟩
    have HOKO := Lib.hid hokO
    have HS1 : Hid (Sv ok w1 bs t vars due) := (HS.out.tch htc (fun q _ hq => (HOK.out q hq).2)).below hb1'
    clear hr1 hnd1 hfb1 hun1 hb1 hokO HVr
    have hl1 : (vals ++ [(k : Int)]).length = vals.length + 1 := by simp
    refine (goes_any _ HS1.out ⟨fp1, HR1.out⟩ HT.out HD.out (by omega) (by omega)).mono ?_
    rintro e w2 ⟨rfl, hb2⟩
    have hbw2 := bthen hb1' hb2
    have htc2 : TchF O w w2 := htc.then (Below.tchF hbw2 O) (fun q hq => .inl hq)
    have hz2 := hbw2.size
    have HI3 : Hid (I (tellL go told (solsTo s (goesB t due) m vals k)).1 O' w2) := HY.out.stable HI2.out hbw2
    clear htc HI2
    cases hg : goesB t due (vals ++ [(k : Int)])
    ·have HNO := Lib.hid (solsTo_no (s := s) (m := m) hg)
     clear hg
     go_wp2_with fail
     go_roundw
     case rel => exact ⟨k + 1, O', by omega, by go_num, by rw [HNO.out]; exact HGO.out, by rw [HNO.out]; exact HI3.out, htc2, HO.out⟩
     case measure => simp [intOf]; omega
    ·have HYES := Lib.hid (solsTo_yes (s := s) (m := m) hg)
     have HBK : Hid ((tellL go told (solsTo s (goesB t due) m vals k)).1.length + (solsL s (goesB t due) m (vals ++ [(k : Int)])).length ≤ 2000000) := by
      unfold Hid
      have h1 := HBD.out
      have h2 := tellL_len (go := go) (told := told) (xs := solsTo s (goesB t due) m vals k)
      obtain ⟨r, hr⟩ := solsTo_append (s := s) (m := m) (sure := goesB t due) (vals := vals) (k := k + 1) (j := s) (by omega)
      rw [hr, HYES.out, List.length_append, List.length_append] at h1
      omega
     have HAPP := Lib.hid (solsTo_append (s := s) (m := m) (sure := goesB t due) (vals := vals) (k := k + 1) (j := s) (by omega))
     clear hg
     go_wp2_with fail
     refine (HIH.out w2 u1 (vals ++ [(k : Int)]) fp1 _ O' (by omega) (HS1.out.below hb2) (fun q hq => ⟨by have := (HOKO.out q hq).1; omega, (HOKO.out q hq).2⟩) (HR1.out.below hb2) (fun q hq hm => by have := HFB1.out q hq; have := HLT.out q hm; omega) HI3.out HBK.out).mono ?_
     rintro e w3 ⟨rfl, O2, hI4, ht3, hO2⟩
     have HTL := Lib.hid (tellL_yes (ys := solsL s (goesB t due) m (vals ++ [(k : Int)])) HGO.out)
     rw [← HTL.out, ← HYES.out] at hI4
     rw [← HTL.out, ← HYES.out]
     have HI4 := Lib.hid hI4
     have htc3 : TchF O w w3 := htc2.then ht3 HO.out
     have HO2 : Hid (∀ q ∈ O2, q ∈ O ∨ w.heap.size ≤ q) := fun q hq => by
      rcases hO2 q hq with h | h
      ·exact HO.out q h
      ·exact .inr (by omega)
     clear hI4 ht3 hO2
     cases hret : (tellL go told (solsTo s (goesB t due) m vals (k + 1))).2
     ·have HRET := Lib.hid (tellL_stop hret HAPP.out)
      have HRF := Lib.hid hret
      clear hret
      go_wp2_with fail
      go_ret
      exact ⟨ret_bool (by rw [HRET.out, HRF.out]), O2, by rw [HRET.out]; exact HI4.out, htc3, HO2.out⟩
     ·have HRT := Lib.hid hret
      clear hret
      go_wp2_with fail
      go_roundw
      case rel => exact ⟨k + 1, O2, by omega, by go_num, HRT.out, HI4.out, htc3, HO2.out⟩
      case measure => simp [intOf]; omega
   ·obtain rfl : k = s := by omega
    go_wp2_with fail
    go_ret
    exact ⟨ret_bool HGO.out.symm, O', HI2.out, htc, HO.out⟩
end Go.Proofs.YtajmjfbejfiipaaGreat
namespace Go.Proofs.YtajmjfbejfiipaaGreat
open Go.RowKit Go.Sort
/-- the atoms that are due at a variable; for all variables -/
def dueL (ats : List (Int × List Int)) (v : Nat) : List (Int × List Int) := ats.filter fun a => topI a.2 == (v : Int)
def duesL (ats : List (Int × List Int)) (n : Nat) : List (List (Int × List Int)) := (List.range n).map (dueL ats)
theorem duesL_len {ats : List (Int × List Int)} {n : Nat} : (duesL ats n).length = n := by simp [duesL]
theorem duesL_get {ats : List (Int × List Int)} {n k : Nat} (h : k < (duesL ats n).length) : (duesL ats n)[k] = dueL ats k := by simp [duesL]
theorem duesL_ok {t : Int × List (Int × List (List Int))} {n : Nat} {ats : List (Int × List Int)} (h : ∀ a ∈ ats, atomOk t n a) : dueOk t n (duesL ats n) := fun k hk a ha => by
 rw [duesL_get hk] at ha
 obtain ⟨ha, ht⟩ := List.mem_filter.1 ha
 have h1 := h a ha
 refine ⟨h1, fun p hp => ?_⟩
 have h2 := topI_ge hp
 have h3 := h1.2.2 p hp
 have : topI a.2 = (k : Int) := by simpa using ht
 omega
def zL (Z : List ((Int × List Int) × (Int × Value))) (k v : Nat) : List ((Int × List Int) × (Int × Value)) := (Z.take k).filter fun z => topI z.1.2 == (v : Int)
theorem zL_zero {Z : List ((Int × List Int) × (Int × Value))} {v : Nat} : zL Z 0 v = [] := by simp [zL]
theorem zL_mem {Z : List ((Int × List Int) × (Int × Value))} {k v : Nat} {z : (Int × List Int) × (Int × Value)} (h : z ∈ zL Z k v) : z ∈ Z := List.mem_of_mem_take (List.mem_filter.1 h).1
theorem zL_yes {Z : List ((Int × List Int) × (Int × Value))} {k v : Nat} (h : k < Z.length) (e : topI (Z[k]).1.2 = (v : Int)) : zL Z (k + 1) v = zL Z k v ++ [Z[k]] := by
 unfold zL
 rw [List.take_succ_eq_append_getElem h, List.filter_append]
 simp [e]
theorem zL_no {Z : List ((Int × List Int) × (Int × Value))} {k v : Nat} (h : k < Z.length) (e : topI (Z[k]).1.2 ≠ (v : Int)) : zL Z (k + 1) v = zL Z k v := by
 unfold zL
 rw [List.take_succ_eq_append_getElem h, List.filter_append]
 simp [e]
theorem zL_fst {Z : List ((Int × List Int) × (Int × Value))} {v : Nat} : (zL Z Z.length v).map (·.1) = dueL (Z.map (·.1)) v := by
 unfold zL dueL
 rw [List.take_length, List.filter_map]
 rfl
theorem zL_len {Z : List ((Int × List Int) × (Int × Value))} {k v : Nat} : (zL Z k v).length ≤ Z.length := by
 unfold zL
 exact Nat.le_trans (List.length_filter_le _ _) (by rw [List.length_take]; omega)
theorem infoAtomS : (Tryz.prog.info? 45).map (fun i => (i.zero, i.size, i.bytes)) = some (some (.slice none 0 0), 1, 24) := by kernel_rfl
set_option maxHeartbeats 6400000 in
set_option maxRecDepth 100000 in
theorem solverOf_any (w : World) {ok0 : Nat → Prop} {ct : Array Value} {t : Int × List (Int × List (List Int))} (ht : tplT.RdP ok0 w ct.toList t) {n : Nat} (hn : n ≤ 10) {va : Value} {ats : List (Int × List Int)} (ha : opsT.RdP ok0 w [va] ats) (hlen : ats.length ≤ 1000)
  (hA : ∀ a ∈ ats, 1 ≤ a.2.length ∧ ∀ p ∈ a.2, 0 ≤ p ∧ p < (n : Int)) :
  Calls Tryz.prog 155 #[.agg ct, .int .i64 n, va] w fun e w' => ∃ bs, e = .returned (.pointer (some ⟨bs, 0, none⟩)) ∧ Sv (fun k => ok0 k ∨ w.heap.size ≤ k) w' bs t n (duesL ats n) ∧ Below w.heap.size w w' := by
 have HT := Lib.hid ht
 obtain ⟨v1, hct, -, -⟩ := pair_ex ht.rd
 obtain rfl := agg_of hct
 obtain ⟨Z, hZ, hZr, hZl, aa, ac, rfl, hZc⟩ := vals_of ha
 have HZ := Lib.hid hZ
 have HZR := Lib.hid hZr
 have HZL := Lib.hid hZl
 have HZC := Lib.hid hZc
 have HAS : Hid (∀ k (h : k < Z.length), 1 ≤ (Z[k]).1.2.length ∧ ∀ p ∈ (Z[k]).1.2, 0 ≤ p ∧ p < (n : Int)) := fun k h => by
  have h1 : (Z[k]).1 ∈ ats := by rw [← hZ]; exact List.mem_map_of_mem (List.getElem_mem h)
  exact hA _ h1
 clear ht hct ha hA hZ hZr hZl hZc
 go_enter Tryz.func155, Tryz.ntmps155
 go_wp2_with fail
 generalize hW : World.alloc _ _ = W
 have hbW : Below w.heap.size w W := hW ▸ bA
 have hsW : w.heap.size + 1 ≤ W.heap.size := by rw [← hW]; simp
 have t0 : W.cell? ⟨w.heap.size, 0, none⟩ = some (.int .i64 t.1) := by rw [← hW]; simp
 have t1 : W.cell? ⟨w.heap.size, 1, none⟩ = some v1 := by rw [← hW]; simp
 clear hW
 refine wp_region_T (fun w' => w'.cell? ⟨w.heap.size, 0, none⟩ = some (.int .i64 t.1) ∧ w'.cell? ⟨w.heap.size, 1, none⟩ = some v1) [5, 6] (by kernel_rfl) ⟨t0, t1⟩ (fun hHeld => ?_)
 refine wpAnyT_take (i := 0) (v := ?_) rfl (by kernel_rfl) (fun _ _ _ h => h) (Or.inl ⟨by rfl, ?_⟩) (by assumption) ?_
 rotate_left
 ·(intro w hSw; (try dsimp only at hSw); go_simp <;> with_reducible rfl)
 try simp only [Act.put]
 refine wpAnyT_take (i := 1) (v := ?_) rfl (by kernel_rfl) (fun _ _ _ h => h) (Or.inl ⟨by rfl, ?_⟩) (by assumption) ?_
 rotate_left
 ·(intro w hSw; (try dsimp only at hSw); go_simp <;> with_reducible rfl)
 try simp only [Act.put]
 refine wpAnyT_take (i := 2) (v := ?_) rfl (by kernel_rfl) (fun _ _ _ h => h) (Or.inl ⟨by rfl, ?_⟩) (by assumption) ?_
 rotate_left
 ·(intro w hSw; (try dsimp only at hSw); go_simp <;> with_reducible rfl)
 try simp only [Act.put]
 refine wpAnyT_one (i := 3) rfl (by kernel_rfl) (fun K hK => ?_)
 refine step_mkN _ rfl _ _ 251 45 rfl Tryz.underlying251 infoAtomS n rfl rfl (by omega) (by decide) ?_
 intro w1 hDU hb1 hs1
 have hb1' : Below W.heap.size W w1 := bthen bD hb1
 have hs1' : W.heap.size + 1 ≤ w1.heap.size := Nat.le_of_eq hs1.symm
 have HDU : Hid (DU 69 45 (w1.heap.size + 1) (w1.heap.size + 1) w1 W.heap.size n (fun _ => .slice none 0 0) (fun _ => [])) := hDU _ _ _ (by have : W.drew.heap.size = W.heap.size := rfl; omega)
 replace t0 := (cellB hb1' (by omega)).trans t0
 replace t1 := (cellB hb1' (by omega)).trans t1
 clear hDU hb1 hs1
 refine hK.out _ _ ⟨t0, t1⟩ (fun hHeld => ?_)
 clear hK K
 refine wpAnyT_take (i := 4) (v := ?_) rfl (by kernel_rfl) (fun _ _ _ h => h) (Or.inl ⟨by rfl, ?_⟩) (by assumption) ?_
 rotate_left
 ·(intro w hSw; (try dsimp only at hSw); go_simp <;> with_reducible rfl)
 try simp only [Act.put]
 refine wpAnyT_last (i := 5) rfl (by kernel_rfl) (by kernel_rfl) (fun K hK => ?_)
 go_simp
 refine hK.out _ _ ?_
 clear hK K
 refine wpAnyT_last (i := 6) rfl (by kernel_rfl) (by kernel_rfl) (fun K hK => ?_)
 go_simp
 refine hK.out _ _ ?_
 clear hK K
 refine wpAnyT_done (by kernel_rfl) ?_ _
 go_simp
 go_wp2_with fail
 have hgD : W.drew.heap.size = W.heap.size := rfl
 generalize hWs : World.alloc w1 _ = ws
 have hbs : Below w1.heap.size w1 ws := hWs ▸ bA
 have hss : w1.heap.size + 1 ≤ ws.heap.size := by rw [← hWs]; simp
 have s0 : ws.cell? ⟨w1.heap.size, 0, none⟩ = some (.int .i64 t.1) := by rw [← hWs]; simp [go_sem]
 have s1 : ws.cell? ⟨w1.heap.size, 1, none⟩ = some v1 := by rw [← hWs]; simp [go_sem]
 have s2 : ws.cell? ⟨w1.heap.size, 2, none⟩ = some (.int .i64 n) := by rw [← hWs]; simp [go_sem]
 have s3 : ws.cell? ⟨w1.heap.size, 3, none⟩ = some (.slice (some ⟨W.heap.size, 0, none⟩) n n) := by rw [← hWs]; simp [go_sem]
 have hbww : Below w.heap.size w ws := bthen (bthen hbW hb1') hbs
 generalize hgB : w1.heap.size = bs at *
 generalize hgG : W.heap.size = g at *
 have hgbs : g + 1 ≤ bs := hs1'
 have hwg : w.heap.size + 1 ≤ g := hsW
 clear hWs hHeld t0 t1 hb1' hbW hgB hgG hgD hs1' hsW
 go_loopw [19] (fun i wr => ∃ (k : Nat) (us : Nat → Value), k ≤ ats.length ∧ i = .int .i64 k ∧ DU 69 45 (bs + 1) wr.heap.size wr g n us (fun v => (zL Z k v).map (·.2)) ∧ Below g ws wr ∧ wr.heap[bs]? = ws.heap[bs]? ∧ bs + 1 ≤ wr.heap.size) (fun i _ => ats.length - (intOf i).toNat)
 case atStart =>
  refine ⟨0, fun _ => .slice none 0 0, Nat.zero_le _, rfl, ?_, Below.refl _ _, rfl, hss⟩
  have h1 : DU 69 45 (bs + 1) ws.heap.size ws g n (fun _ => .slice none 0 0) (fun _ => []) := HDU.out.nils (by omega) (hbs.block g (by omega))
  simpa [zL_zero] using h1
 case round =>
  obtain ⟨k, us, hk, rfl, hdu, hbe, hbb, hse⟩ := hrel
  have HDK := Lib.hid hdu
  have HBB := Lib.hid hbb
  have hbw : Below w.heap.size w wr := hbww.trans (hbe.mono (by omega))
  clear hdu hbb HDU
  by_cases hkl : k < ats.length
  ·obtain ⟨b, o, rfl, hb, hce⟩ := HZC.out (by omega)
   have hkz : k < Z.length := by rw [HZL.out]; exact hkl
   obtain ⟨g0, g1⟩ := hce k hkz
   obtain ⟨q1, q2, q3⟩ := HZR.out _ (List.getElem_mem hkz)
   obtain ⟨qa, qc, hqe⟩ := rdP_slice q3
   have hy : (Z[k]).2 = ((Z[k]).1.1, .slice qa (Z[k]).1.2.length qc) := by rw [← q1, ← hqe]
   rw [hqe] at g1 q3
   have HY := Lib.hid hy
   have hI := q2
   have d0 := (hbw.cell hb).trans g0
   have d1 := (hbw.cell hb).trans g1
   have HQ := Lib.hid (q3.rd.below hbw)
   obtain ⟨m1, m2⟩ := HAS.out k hkz
   obtain ⟨l, hl⟩ : ∃ l : Nat, topI (Z[k]).1.2 = l := ⟨(topI (Z[k]).1.2).toNat, by have := topI_nn (xs := (Z[k]).1.2); omega⟩
   have hln : l < n := by
    have h0 : (0 : Int) ≤ (n : Int) - 1 := by
     have := m2 _ (List.getElem_mem (show 0 < (Z[k]).1.2.length by omega))
     omega
    have := topI_le h0 (fun x hx => by have := m2 x hx; omega)
    omega
   have HM2 : Hid (∀ x ∈ (Z[k]).1.2, 0 ≤ x) := fun x hx => (m2 x hx).1
   have HL := Lib.hid hl
   obtain ⟨ua, un, uc, hul⟩ := ex_slice ((HDK.out.2.2.1 l hln).fr (by have := zL_len (Z := Z) (k := k) (v := l); have := HZL.out; rw [List.length_map]; unfold capMax; omega))
   have HUL := Lib.hid hul
   have hlz : (zL Z k l).length ≤ 1000 := by have := zL_len (Z := Z) (k := k) (v := l); have := HZL.out; omega
   generalize hz1 : (Z[k]).1.1 = c1 at *
   clear hce g0 g1 q1 q3 hqe m2 hy hl hul
   go_wp2_with fail
   generalize hWa : World.alloc wr _ = wa
   have hba : Below wr.heap.size wr wa := hWa ▸ bA
   have hsa : wr.heap.size + 1 ≤ wa.heap.size := by rw [← hWa]; simp
   have e0 : wa.cell? ⟨wr.heap.size, 0, none⟩ = some (.int .i64 c1) := by rw [← hWa]; simp
   have e1 : wa.cell? ⟨wr.heap.size, 1, none⟩ = some (.slice qa (Z[k]).1.2.length qc) := by rw [← hWa]; simp
   clear hWa
   refine (MaxI_any _ (HQ.out.below hba) m1 HM2.out).mono ?_
   rintro e _ ⟨rfl, rfl⟩
   rw [HL.out]
   have f3 := (World.cell?_of_block (a := ⟨bs, 3, none⟩) (HBB.out)).trans s3
   have f4 := HDK.out.cell hln
   rw [HUL.out] at f4
   have f5 := HDK.out.free l
   have hgw := HDK.out.lt
   have hbsw : bs < wr.heap.size := by omega
   replace f3 := (cellB hba (by omega)).trans f3
   replace f4 := (cellB hba (by omega)).trans f4
   replace f5 := (frozenB hba (by omega)).trans f5
   go_wp2_with fail
   refine wp_region_T (fun w' => w'.cell? ⟨bs, 3, none⟩ = some (.slice (some ⟨g, 0, none⟩) n n) ∧ w'.cell? ⟨g, l, none⟩ = some (.slice ua un uc) ∧ w'.cell? ⟨wr.heap.size, 0, none⟩ = some (.int .i64 c1) ∧ w'.cell? ⟨wr.heap.size, 1, none⟩ = some (.slice qa (Z[k]).1.2.length qc)) [16] (by kernel_rfl) ⟨f3, f4, e0, e1⟩ (fun hHeld => ?_)
   refine wpAnyT_take (i := 0) (v := ?_) rfl (by kernel_rfl) (fun _ _ _ h => h) (Or.inl ⟨by rfl, ?_⟩) (by assumption) ?_
   rotate_left
   ·(intro w hSw; (try dsimp only at hSw); go_simp <;> with_reducible rfl)
   try simp only [Act.put]
   refine wpAnyT_take (i := 1) (v := ?_) rfl (by kernel_rfl) (fun _ _ _ h => h) (Or.inl ⟨by rfl, ?_⟩) (by assumption) ?_
   rotate_left
   ·(intro w hSw; (try dsimp only at hSw); go_simp <;> with_reducible rfl)
   try simp only [Act.put]
   refine wpAnyT_take (i := 2) (v := ?_) rfl (by kernel_rfl) (fun _ _ _ h => h) (Or.inl ⟨by rfl, ?_⟩) (by assumption) ?_
   rotate_left
   ·(intro w hSw; (try dsimp only at hSw); go_simp <;> with_reducible rfl)
   try simp only [Act.put]
   refine wpAnyT_take (i := 3) (v := ?_) rfl (by kernel_rfl) (fun _ _ _ h => h) (Or.inl ⟨by rfl, ?_⟩) (by assumption) ?_
   rotate_left
   ·(intro w hSw; (try dsimp only at hSw); go_simp <;> with_reducible rfl)
   try simp only [Act.put]
   refine wpAnyT_take (i := 4) (v := ?_) rfl (by kernel_rfl) (fun _ _ _ h => h) (Or.inl ⟨by rfl, ?_⟩) (by assumption) ?_
   rotate_left
   ·(intro w hSw; (try dsimp only at hSw); go_simp <;> with_reducible rfl)
   try simp only [Act.put]
   refine wpAnyT_take (i := 5) (v := ?_) rfl (by kernel_rfl) (fun _ _ _ h => h) (Or.inl ⟨by rfl, ?_⟩) (by assumption) ?_
   rotate_left
   ·(intro w hSw; (try dsimp only at hSw); go_simp <;> with_reducible rfl)
   try simp only [Act.put]
   refine wpAnyT_take (i := 6) (v := ?_) rfl (by kernel_rfl) (fun _ _ _ h => h) (Or.inl ⟨by rfl, ?_⟩) (by assumption) ?_
   rotate_left
   ·(intro w hSw; (try dsimp only at hSw); go_simp <;> with_reducible rfl)
   try simp only [Act.put]
   refine wpAnyT_take (i := 7) (v := ?_) rfl (by kernel_rfl) (fun _ _ _ h => h) (Or.inl ⟨by rfl, ?_⟩) (by assumption) ?_
   rotate_left
   ·(intro w hSw; (try dsimp only at hSw); go_simp <;> with_reducible rfl)
   try simp only [Act.put]
   refine wpAnyT_take (i := 8) (v := ?_) rfl (by kernel_rfl) (fun _ _ _ h => h) (Or.inl ⟨by rfl, ?_⟩) (by assumption) ?_
   rotate_left
   ·(intro w hSw; (try dsimp only at hSw); go_simp <;> with_reducible rfl)
   try simp only [Act.put]
   refine wpAnyT_take (i := 9) (v := ?_) rfl (by kernel_rfl) (fun _ _ _ h => h) (Or.inl ⟨by rfl, ?_⟩) (by assumption) ?_
   rotate_left
   ·(intro w hSw; (try dsimp only at hSw); go_simp <;> with_reducible rfl)
   try simp only [Act.put]
   refine wpAnyT_take (i := 10) (v := ?_) rfl (by kernel_rfl) (fun _ _ _ h => h) (Or.inl ⟨by rfl, ?_⟩) (by assumption) ?_
   rotate_left
   ·(intro w hSw; (try dsimp only at hSw); go_simp <;> with_reducible rfl)
   try simp only [Act.put]
   refine wpAnyT_take (i := 11) (v := ?_) rfl (by kernel_rfl) (fun _ _ _ h => h) (Or.inl ⟨by rfl, ?_⟩) (by assumption) ?_
   rotate_left
   ·(intro w hSw; (try dsimp only at hSw); go_simp <;> with_reducible rfl)
   try simp only [Act.put]
   refine wpAnyT_take (i := 12) (v := ?_) rfl (by kernel_rfl) (fun _ _ _ h => h) (Or.inl ⟨by rfl, ?_⟩) (by assumption) ?_
   rotate_left
   ·(intro w hSw; (try dsimp only at hSw); go_simp <;> with_reducible rfl)
   try simp only [Act.put]
   refine wpAnyT_one (i := 13) rfl (by kernel_rfl) (fun K hK => ?_)
   go_simp
   refine hK.out _ _ ⟨by go_keep, by go_keep, by go_keep, by go_keep⟩ (fun hHeld => ?_)
   clear hK K
   refine wpAnyT_one (i := 14) rfl (by kernel_rfl) (fun K hK => ?_)
   have HBl : Hid (Bl pvT 69 (bs + 1) wr.heap.size wr (.slice ua un uc) ((zL Z k l).map (·.2))) := by rw [← HUL.out]; exact HDK.out.2.2.1 l hln
   have hbX : ∀ o : Obj, Below wr.heap.size wr (wa.drew.alloc o) := fun o => bthen hba ((Below.refl _ wa).drew.alloc (by simp) o)
   refine step_push (E := pvT) _ rfl _ _ 45 69 rfl elAtomS rfl (HBl.out.below (hbX _) (Nat.le_refl _)) rfl news2 (fr_pv (x := .slice qa (Z[k]).1.2.length qc) hI rfl) (by rw [List.length_map]; omega) (by decide) (by omega) (by simp; omega) ?_
   intro v5 w5 hB5 hg5 hown
   obtain ⟨a5, n5, c5, rfl⟩ := ex_slice (hB5.fr (by rw [List.length_append, List.length_map]; unfold capMax; simp only [List.length_singleton]; omega))
   have hg6 : ((wa.alloc (.cells #[.int .i64 c1, .slice qa (Z[k]).1.2.length qc] 69)).drew).grownBy w5 (Value.slice ua un uc).ownBlock := hg5
   have hown6 : (Value.slice a5 n5 c5).ownBlock = (Value.slice ua un uc).ownBlock ∨ (Value.slice a5 n5 c5).ownBlock = some ((wa.alloc (.cells #[.int .i64 c1, .slice qa (Z[k]).1.2.length qc] 69)).drew).heap.size := hown
   have hbX2 : Below wr.heap.size wr ((wa.alloc (.cells #[.int .i64 c1, .slice qa (Z[k]).1.2.length qc] 69)).drew) := hbX _
   generalize hWX : (wa.alloc (.cells #[.int .i64 c1, .slice qa (Z[k]).1.2.length qc] 69)).drew = wx at hg6 hown6 hbX2
   have hax : Below wa.heap.size wa wx := by rw [← hWX]; exact (Below.refl _ wa).drew.alloc (by simp) _
   have hxs := hax.size
   have hown0 : ∀ q, (Value.slice ua un uc).ownBlock = some q → q < wr.heap.size := fun q hq => HBl.out.lt_top hq
   have HD5 := Lib.hid (DU.push (y := (c1, .slice qa (Z[k]).1.2.length qc)) (HDK.out.below hbX2 (Nat.le_refl _) hse) hln hB5 (by rw [HUL.out]; exact hg6) (by rw [HUL.out]; exact hown6) hbX2.size)
   have HLS : Hid ((fun v => if v = l then (zL Z k l).map (·.2) ++ [(c1, Value.slice qa (Z[k]).1.2.length qc)] else (zL Z k v).map (·.2)) = fun v => (zL Z (k + 1) v).map (·.2)) := by
    unfold Hid
    funext v
    by_cases e : v = l
    ·subst e
     rw [if_pos rfl, zL_yes hkz HL.out, List.map_append, List.map_cons, List.map_nil, HY.out]
    ·rw [if_neg e, zL_no hkz (by rw [HL.out]; intro h; exact e (by omega))]
   rw [HLS.out] at HD5
   have hb5 : Below (bs + 1) wr w5 := (hbX2.mono (by omega)).grown hg6 (by omega) (fun q hq => HBl.out.ge hq)
   have i3 := (cellB (hb5) (by omega)).trans ((World.cell?_of_block (a := ⟨bs, 3, none⟩) (HBB.out)).trans s3)
   have i4 := (cellB hb5 (show g < bs + 1 by omega)).trans (HDK.out.cell hln)
   rw [HUL.out] at i4
   have i5 := (frozenB hb5 (show g < bs + 1 by omega)).trans (HDK.out.free l)
   have j0 := ((grown_cell' (i := 0) hg6 (show wr.heap.size < wx.heap.size by omega) (fun e => by have := hown0 _ e; omega)).trans (cellB hax (show wr.heap.size < wa.heap.size by omega))).trans e0
   have j1 := ((grown_cell' (i := 1) hg6 (show wr.heap.size < wx.heap.size by omega) (fun e => by have := hown0 _ e; omega)).trans (cellB hax (show wr.heap.size < wa.heap.size by omega))).trans e1
   have hz5 := hb5.size
   have hbs5 : w5.heap[bs]? = ws.heap[bs]? := (hb5.block bs (by omega)).trans HBB.out
   have HBS5 := Lib.hid hbs5
   have hbe5 : Below g ws w5 := hbe.trans (hb5.mono (by omega))
   clear hB5 hg5 hown hg6 hown6 hWX hbs5 hown0
   refine hK.out _ _ ⟨i3, i4, j0, j1⟩ (fun hHeld => ?_)
   clear hK K
   refine wpAnyT_take (i := 15) (v := ?_) rfl (by kernel_rfl) (fun _ _ _ h => h) (Or.inl ⟨by rfl, ?_⟩) (by assumption) ?_
   rotate_left
   ·(intro w hSw; (try dsimp only at hSw); go_simp <;> with_reducible rfl)
   try simp only [Act.put]
   refine wpAnyT_last (i := 16) rfl (by kernel_rfl) (by kernel_rfl) (fun K hK => ?_)
   go_simp
   refine hK.out _ _ ?_
   clear hK K
   refine wpAnyT_done (by kernel_rfl) ?_ _
   go_simp
   go_wp2_with fail
   go_roundw
   case rel => exact ⟨k + 1, _, by omega, by go_num, by rw [size_set]; exact HD5.out, hbe5.setCell (Nat.le_refl _) _, (Below.heap_setCell _ _ _ _ (by simp; omega)).trans HBS5.out, by rw [size_set]; omega⟩
   case measure => simp [intOf]; omega
  ·obtain rfl : k = ats.length := by omega
   have hzl : ats.length = Z.length := HZL.out.symm
   have HSV : Hid (Sv (fun k => ok0 k ∨ w.heap.size ≤ k) wr bs t n (duesL ats n)) := by
    refine ⟨by omega, .inr (by omega), v1, _, (World.cell?_of_block (a := ⟨bs, 0, none⟩) HBB.out).trans s0, (World.cell?_of_block (a := ⟨bs, 1, none⟩) HBB.out).trans s1, (World.cell?_of_block (a := ⟨bs, 2, none⟩) HBB.out).trans s2, (World.cell?_of_block (a := ⟨bs, 3, none⟩) HBB.out).trans s3, (HT.out.below hbw).mono (fun _ _ h => .inl h), ?_⟩
    have h1 := dues_of (ok := fun k => ok0 k ∨ w.heap.size ≤ k) HDK.out (by unfold capMax; omega) (fun v _ => by have := zL_len (Z := Z) (k := ats.length) (v := v); unfold capMax; omega) (fun v _ z hz => ((HZR.out z (zL_mem hz)).below hbw).mono (fun _ _ h => .inl h)) (.inr (by omega)) (fun q hq _ => .inr (by omega))
    have h2 : (fun v => (zL Z ats.length v).map (·.1)) = dueL ats := by
     funext v
     rw [hzl, zL_fst, HZ.out]
    rw [h2] at h1
    exact h1
   clear HZC
   go_wp2_with fail
   go_ret
   exact ⟨bs, rfl, HSV.out, hbw⟩
end Go.Proofs.YtajmjfbejfiipaaGreat
namespace Go.Proofs.YtajmjfbejfiipaaGreat
open Go.RowKit Go.Sort
theorem Ty.Fr.P {α : Type} {E : Ty α} {base : Nat} {w : World} {cs : List Value} {x : α} (h : E.Fr base w cs x) : E.RdP (fun k => base ≤ k) w cs x := let ⟨fp, h1, _, h3, _⟩ := h; ⟨fp, h1, h3⟩
theorem rd_prefix {w : World} {ad : Option Addr} {n c k : Nat} {xs : List Int} (h : intsT.Rd w [.slice ad n c] xs) (hk : k ≤ xs.length) : intsT.Rd w [.slice ad k c] (xs.take k) := by
 obtain ⟨fp, ad', cap, hv, h1, h2, h3⟩ := h
 simp only [List.cons.injEq, Value.slice.injEq, and_true] at hv
 obtain ⟨rfl, rfl, rfl⟩ := hv
 have hl : (xs.take k).length = k := List.length_take_of_le hk
 rcases Nat.eq_zero_or_pos k with h0 | h0
 ·subst h0
  exact ⟨[], ad, c, by simp, by simp, by simp, .inl ⟨by simp, rfl⟩⟩
 ·rcases h3 with ⟨h3, _⟩ | ⟨h3, b, o, fps, rfl, hb, rfl, h4⟩
  ·omega
  ·refine ⟨_, some ⟨b, o, none⟩, c, by rw [hl], by rw [hl]; omega, by rw [hl]; unfold capMax at *; omega, .inr ⟨by rw [hl]; exact h0, b, o, fps, rfl, hb, rfl, fun i hi => ?_⟩⟩
   rw [hl] at hi
   obtain ⟨cs, h5, h6⟩ := h4 i (by omega)
   exact ⟨cs, by rw [List.getElem_take]; exact h5, h6⟩
/-- the beginnings go, as far as k of them -/
def preTo (sure : List Int → Bool) (b : List Int) (k : Nat) : Prop := ∀ j, j < k → sure (b.take (j + 1)) = true
theorem preTo_zero {sure : List Int → Bool} {b : List Int} : preTo sure b 0 := fun _ h => absurd h (Nat.not_lt_zero _)
theorem preTo_succ {sure : List Int → Bool} {b : List Int} {k : Nat} (h : preTo sure b k) (h' : sure (b.take (k + 1)) = true) : preTo sure b (k + 1) := fun j hj => by
 by_cases e : j = k
 ·subst e; exact h'
 ·exact h j (by omega)
/-- all lists of values that begin with some -/
noncomputable def witL (s : Nat) (sure : List Int → Bool) (n : Nat) (b : List Int) : List (List Int) := match tb (preTo sure b b.length) with
 | true => solsL s sure (n - b.length) b
 | false => []
theorem witL_no {s : Nat} {sure : List Int → Bool} {n : Nat} {b : List Int} {k : Nat} (hk : k < b.length) (h : sure (b.take (k + 1)) = false) : witL s sure n b = [] := by
 have : tb (preTo sure b b.length) = false := tb_false (fun hh => by have := hh k hk; rw [h] at this; cases this)
 simp only [witL, this]
theorem witL_yes {s : Nat} {sure : List Int → Bool} {n : Nat} {b : List Int} (h : preTo sure b b.length) : witL s sure n b = solsL s sure (n - b.length) b := by simp only [witL, tb_true h]
def headV (l : List (List Int)) : List Int := match l with
 | [] => []
 | x :: _ => x
def headB (l : List (List Int)) : Bool := match l with
 | [] => false
 | _ :: _ => true
/-- a box that keeps the last that was told -/
def lastI (bx : Nat) (told : List (List Int)) (O : List Nat) (w : World) : Prop :=
 O = [bx] ∧ bx < w.heap.size ∧ w.frozen? ⟨bx, 0, none⟩ = false ∧ ((told = [] ∧ w.cell? ⟨bx, 0, none⟩ = some (.slice none 0 0)) ∨ ∃ x u, told.getLast? = some x ∧ w.cell? ⟨bx, 0, none⟩ = some u ∧ intsT.Fr (bx + 1) w [u] x)
set_option maxHeartbeats 800000 in
theorem first1_yl (bx : Nat) : Yl Tryz.prog 208 #[.pointer (some ⟨bx, 0, none⟩)] (fun _ => false) (lastI bx) := by
 refine ⟨?_, ?_, ?_⟩
 ·rintro told O w w' ⟨rfl, h1, h2, h3⟩ hb
  refine ⟨rfl, Nat.lt_of_lt_of_le h1 hb.size, (frozenB hb h1).trans h2, ?_⟩
  rcases h3 with ⟨h3, h4⟩ | ⟨x, u, h3, h4, h5⟩
  ·exact .inl ⟨h3, (cellB hb h1).trans h4⟩
  ·exact .inr ⟨x, u, h3, (cellB hb h1).trans h4, h5.below hb⟩
 ·rintro told O w ⟨rfl, h1, -, -⟩ k hk
  obtain rfl : k = bx := by simpa using hk
  exact h1
 ·rintro told O w0 w u x ⟨rfl, h1, h2, h3⟩ hb hf hlx -
  obtain ⟨a, c, rfl⟩ := fr_slice hf
  have HF := Lib.hid hf
  have hz := hb.size
  have f0 := (frozenB hb h1).trans h2
  obtain ⟨u0, c0⟩ : ∃ u0, w.cell? ⟨bx, 0, none⟩ = some u0 := by
   rcases h3 with ⟨-, h4⟩ | ⟨x, u, -, h4, -⟩
   ·exact ⟨_, (cellB hb h1).trans h4⟩
   ·exact ⟨_, (cellB hb h1).trans h4⟩
  clear h3 hf h2
  show Calls Tryz.prog 208 #[.slice a x.length c, .pointer (some ⟨bx, 0, none⟩)] w _
  go_enter Tryz.func208, Tryz.ntmps208
  go_wp2_with fail
  go_ret
  refine ⟨rfl, [bx], ⟨rfl, by rw [size_set]; omega, (World.frozen?_setCell _ _ _ _).trans f0, .inr ⟨x, _, by simp, World.cell?_setCell_same _ _ _ c0, (HF.out.mono (by omega)).set (by simp)⟩⟩, TchF.setCell (List.mem_singleton.2 rfl) _ _ _, fun k hk => .inl hk⟩
set_option maxHeartbeats 3200000 in
set_option maxRecDepth 100000 in
theorem first_any (w : World) {t : Int × List (Int × List (List Int))} {n : Nat} {due : List (List (Int × List Int))} (hT : tplOk t) {s : Nat} (hs : t.1 = s) (hn : n ≤ 10) (hdl : due.length = n) (hD : dueOk t n due) {ok : Nat → Prop} {bs : Nat} (hS : Sv ok w bs t n due) {v : Value} {b : List Int} (hv : intsT.Rd w [v] b) (hl : b.length ≤ n) :
  Calls Tryz.prog 158 #[.pointer (some ⟨bs, 0, none⟩), v] w fun e w' => ∃ u, e = .returned (.tuple #[u, .bool (headB (witL s (goesB t due) n b))]) ∧ intsT.Fr w.heap.size w' [u] (headV (witL s (goesB t due) n b)) ∧ Below w.heap.size w w' := by
 have HT := Lib.hid hT
 have HD := Lib.hid hD
 have HS := Lib.hid hS
 have HV := Lib.hid hv
 obtain ⟨va, vc, rfl⟩ := rd_slice hv
 have hvc : b.length ≤ vc := by obtain ⟨_, _, he, h, _⟩ := ints_ex hv; simp at he; omega
 have hs4 := hT.1
 unfold sizeOk at hs4
 clear hT hD hS hv
 go_enter Tryz.func158, Tryz.ntmps158
 go_wp2_with fail
 go_loopw [11] (fun i wr => ∃ k : Nat, k ≤ b.length ∧ i = .int .i64 k ∧ preTo (goesB t due) b k ∧ Below w.heap.size w wr) (fun i _ => b.length - (intOf i).toNat)
 case atStart => exact ⟨0, Nat.zero_le _, rfl, preTo_zero, Below.refl _ _⟩
 case round =>
  obtain ⟨k, hk, rfl, hpre, hbe⟩ := hrel
  have HP := Lib.hid hpre
  clear hpre
  by_cases hkl : k < b.length
  ·have hk1 : k + 1 ≤ vc := by omega
   go_wp2_with fail
   refine (goes_any _ (HS.out.below hbe) (rd_prefix (HV.out.below hbe) (show k + 1 ≤ b.length by omega)) HT.out HD.out (by rw [take_len (show k + 1 ≤ b.length by omega)]; omega) (by rw [take_len (show k + 1 ≤ b.length by omega)]; omega)).mono ?_
   rintro e w1 ⟨rfl, hb1⟩
   have hbw1 := bthen hbe hb1
   cases hg : goesB t due (b.take (k + 1))
   ·have HW := Lib.hid (witL_no (s := s) (n := n) hkl hg)
    clear hg
    go_wp2_with fail
    go_ret2
    exact ⟨.slice none 0 0, by rw [HW.out]; rfl, by rw [HW.out]; exact fr_nil, hbw1⟩
   ·have HP1 := Lib.hid (preTo_succ HP.out hg)
    clear hg
    go_wp2_with fail
    go_roundw
    case rel => exact ⟨k + 1, by omega, by go_num, HP1.out, hbw1⟩
    case measure => simp [intOf]; omega
  ·obtain rfl : k = b.length := by omega
   have HW := Lib.hid (witL_yes (s := s) (n := n) HP.out)
   go_wp2_with fail
   generalize hWa : World.alloc wr _ = wa
   have hba : Below wr.heap.size wr wa := hWa ▸ bA
   have hsa : wr.heap.size + 1 ≤ wa.heap.size := by rw [← hWa]; simp
   have hI0 : lastI wr.heap.size [] [wr.heap.size] wa := ⟨rfl, by omega, by rw [← hWa]; simp, .inl ⟨rfl, by rw [← hWa]; simp⟩⟩
   have HI0 := Lib.hid hI0
   have hbwa := bthen hbe hba
   have hSa : Sv (fun q => q < wr.heap.size) wa bs t n due := ((HS.out.below hbe).mono (ok' := fun q => q < wr.heap.size) (fun q hq _ => hq)).below hba
   have HSA := Lib.hid hSa
   obtain ⟨fpv, hrv⟩ := HV.out.below hbe
   have HRV := Lib.hid hrv
   have hfl : ∀ q ∈ fpv, q < wr.heap.size := Ty.lt _ hrv
   have HFL := Lib.hid hfl
   have hsl := solsL_len (s := s) (sure := goesB t due) (m := n - b.length) (vals := b)
   have hpow : s ^ (n - b.length) ≤ 4 ^ 10 := Nat.le_trans (Nat.pow_le_pow_left (by omega) _) (Nat.pow_le_pow_right (by omega) (by omega))
   have HBD : Hid (([] : List (List Int)).length + (solsL s (goesB t due) (n - b.length) b).length ≤ 2000000) := by
    unfold Hid
    have : (4 : Nat) ^ 10 = 1048576 := by decide
    simp only [List.length_nil]
    omega
   clear hWa hI0 hSa hrv hfl hsl hpow
   refine (walk_any HT.out hs hn hdl HD.out 208 #[.pointer (some ⟨wr.heap.size, 0, none⟩)] (enters Tryz.func208 (by kernel_rfl) rfl) (fun _ => false) (lastI wr.heap.size) (first1_yl _) bs (fun q => q < wr.heap.size) (n - b.length) wa _ b fpv [] [wr.heap.size] (by omega) HSA.out (fun q hq => ⟨by omega, fun hm => by simp at hm; omega⟩) (HRV.out.below hba) (fun q hq hm => by have := HFL.out q hq; simp at hm; omega) HI0.out HBD.out).mono ?_
   rintro e w2 ⟨rfl, O', hI, ht, hO⟩
   have hbw2 : Below w.heap.size w w2 := hbwa.trans (ht.below hbwa.size (fun q hq => by simp at hq; have := hbe.size; omega))
   have hse := hbe.size
   clear ht hO HI0 HSA HRV HFL HBD
   generalize solsL s (goesB t due) (n - b.length) b = L at hI HW ⊢
   rcases L with _ | ⟨x, r⟩
   ·obtain ⟨rfl, h1, h2, h3⟩ := hI
    have c0 : w2.cell? ⟨wr.heap.size, 0, none⟩ = some (.slice none 0 0) := by
     rcases h3 with ⟨-, h3⟩ | ⟨x, u, h3, -, -⟩
     ·exact h3
     ·simp [tellL] at h3
    clear h3
    rw [tellL_nil]
    go_wp2_with fail
    go_ret2
    exact ⟨.slice none 0 0, by rw [HW.out]; rfl, by rw [HW.out]; exact fr_nil, hbw2⟩
   ·rw [tellL_first] at hI ⊢
    obtain ⟨rfl, h1, h2, h3⟩ := hI
    obtain ⟨u, c0, hf⟩ : ∃ u, w2.cell? ⟨wr.heap.size, 0, none⟩ = some u ∧ intsT.Fr (wr.heap.size + 1) w2 [u] x := by
     rcases h3 with ⟨h3, -⟩ | ⟨y, u, h3, h4, h5⟩
     ·simp at h3
     ·obtain rfl : x = y := by simpa using h3
      exact ⟨u, h4, h5⟩
    obtain ⟨ua, uc, rfl⟩ := fr_slice hf
    have HF := Lib.hid hf
    clear h3 hf
    go_wp2_with fail
    go_ret2
    exact ⟨.slice ua x.length uc, by rw [HW.out]; rfl, by rw [HW.out]; exact HF.out.mono (by omega), hbw2⟩
end Go.Proofs.YtajmjfbejfiipaaGreat
namespace Go.Proofs.YtajmjfbejfiipaaGreat
open Go.RowKit Go.Sort
section
variable {t : Int × List (Int × List (List Int))} {x : Int × List (Int × List Int)}
end
end Go.Proofs.YtajmjfbejfiipaaGreat
namespace Go.Proofs.YtajmjfbejfiipaaGreat
open Go.RowKit Go.Sort
/-- a pointer to a datum in blocks below B -/
def Ty.PtB {α : Type} (E : Ty α) (B : Nat) (w : World) (v : Value) (x : α) : Prop := ∃ b o cs, v = .pointer (some ⟨b, o, none⟩) ∧ b < B ∧ b < w.heap.size ∧ E.RdB B w cs x ∧ ∀ j (hj : j < cs.length), w.cell? ⟨b, o + j, none⟩ = some cs[j]
theorem Ty.PtB.below {α : Type} {E : Ty α} {B : Nat} {w w' : World} {v : Value} {x : α} (h : E.PtB B w v x) (hb : Below B w w') : E.PtB B w' v x :=
 let ⟨b, o, cs, h1, h2, h3, h4, h5⟩ := h
 ⟨b, o, cs, h1, h2, Nat.lt_of_lt_of_le h3 hb.size, h4.below hb (Nat.le_refl _), fun j hj => (cellB hb h2).trans (h5 j hj)⟩
theorem Ty.Pt.B {α : Type} {E : Ty α} {w : World} {v : Value} {x : α} (h : E.Pt w v x) : E.PtB w.heap.size w v x := let ⟨b, o, cs, h1, h2, h3, h4⟩ := h; ⟨b, o, cs, h1, h2, h2, h3.B, h4⟩
/-- a search in progress, at block bf: what it was told so far -/
def Fnd (e bf most : Nat) (vt vx : Value) (told : List (List Int)) (O : List Nat) (w : World) : Prop :=
 ∃ v, O = bf :: v.ownBlock.toList ∧ bf < w.heap.size ∧ w.cell? ⟨bf, 0, none⟩ = some vt ∧ w.cell? ⟨bf, 1, none⟩ = some vx ∧ w.cell? ⟨bf, 2, none⟩ = some (.int .i64 most) ∧ w.cell? ⟨bf, 3, none⟩ = some v ∧ w.cell? ⟨bf, 4, none⟩ = some (.int .i64 told.length) ∧
  w.frozen? ⟨bf, 3, none⟩ = false ∧ w.frozen? ⟨bf, 4, none⟩ = false ∧ Bl intsT e (bf + 1) w.heap.size w v (told.take most)
theorem Fnd.below {e bf most : Nat} {vt vx : Value} {told : List (List Int)} {O : List Nat} {w w' : World} (h : Fnd e bf most vt vx told O w) (hb : Below w.heap.size w w') : Fnd e bf most vt vx told O w' := by
 obtain ⟨v, h0, h1, c0, c1, c2, c3, c4, m3, m4, hB⟩ := h
 exact ⟨v, h0, Nat.lt_of_lt_of_le h1 hb.size, (cellB hb h1).trans c0, (cellB hb h1).trans c1, (cellB hb h1).trans c2, (cellB hb h1).trans c3, (cellB hb h1).trans c4, (frozenB hb h1).trans m3, (frozenB hb h1).trans m4, (hB.below hb (Nat.le_refl _)).mono hb.size⟩
theorem Fnd.ge {e bf most : Nat} {vt vx : Value} {told : List (List Int)} {O : List Nat} {w : World} (h : Fnd e bf most vt vx told O w) : ∀ k ∈ O, bf ≤ k := by
 obtain ⟨v, rfl, h1, c0, c1, c2, c3, c4, m3, m4, hB⟩ := h
 intro k hk
 rcases List.mem_cons.1 hk with rfl | hk
 ·exact Nat.le_refl _
 ·have := hB.ge (show v.ownBlock = some k by simpa using hk)
  omega
theorem Fnd.lt {e bf most : Nat} {vt vx : Value} {told : List (List Int)} {O : List Nat} {w : World} (h : Fnd e bf most vt vx told O w) : ∀ k ∈ O, k < w.heap.size := by
 obtain ⟨v, rfl, h1, c0, c1, c2, c3, c4, m3, m4, hB⟩ := h
 intro k hk
 rcases List.mem_cons.1 hk with rfl | hk
 ·exact h1
 ·exact hB.lt_top (show v.ownBlock = some k by simpa using hk)
end Go.Proofs.YtajmjfbejfiipaaGreat
namespace Go.Proofs.YtajmjfbejfiipaaGreat
open Go.RowKit Go.Sort
end Go.Proofs.YtajmjfbejfiipaaGreat
namespace Go.Proofs.YtajmjfbejfiipaaGreat
open Go.RowKit Go.Sort
noncomputable def witX (t : Int × List (Int × List (List Int))) (f : Int × Int × List (Int × List Int)) (tu : List Int) : List (List Int) := witL t.1.toNat (goesB t (duesL f.2.2 f.2.1.toNat)) f.2.1.toNat tu
section
variable {t : Int × List (Int × List (List Int))} {f : Int × Int × List (Int × List Int)} {tu : List Int}
theorem frm_nums (h : frmOk t f) : 1 ≤ t.1 ∧ t.1 ≤ 4 ∧ 1 ≤ f.1 ∧ f.1 ≤ 4 ∧ f.1 ≤ f.2.1 ∧ f.2.1 ≤ 8 ∧ f.2.2.length ≤ 16 := by
 have h1 := h.1.1
 have h2 := h.2.1
 unfold sizeOk at h1
 unfold frameOk at h2
 omega
end
end Go.Proofs.YtajmjfbejfiipaaGreat
namespace Go.Proofs.YtajmjfbejfiipaaGreat
open Go.RowKit Go.Sort
noncomputable def vaP (t : Int × List (Int × List (List Int))) (f : Int × Int × List (Int × List Int)) (tu : List Int) : Bool := headB (witX t f tu)
/-- the value of a formula -/
noncomputable def vaR (t : Int × List (Int × List (List Int))) (f : Int × Int × List (Int × List Int)) : Int × List (List Int) := (f.1, relL t.1 f.1.toNat (vaP t f) (t.1 ^ f.1.toNat).toNat)
set_option maxHeartbeats 1600000 in
set_option maxRecDepth 100000 in
theorem valueOf1_any (w : World) {b1 bs : Nat} {v : Value} {tu : List Int} {t : Int × List (Int × List (List Int))} {f : Int × Int × List (Int × List Int)} (hok : frmOk t f) {n s : Nat} (hn : f.2.1 = n) (hs : t.1 = s) {ok : Nat → Prop} (hS : Sv ok w bs t n (duesL f.2.2 n)) (c0 : w.cell? ⟨b1, 0, none⟩ = some (.pointer (some ⟨bs, 0, none⟩))) (hv : intsT.Rd w [v] tu) (hl : tu.length ≤ n) :
  Calls Tryz.prog 157 #[v, .pointer (some ⟨b1, 0, none⟩)] w fun e w' => e = .returned (.bool (vaP t f tu)) ∧ Below w.heap.size w w' := by
 have HS := Lib.hid hS
 have HV := Lib.hid hv
 have HOK := Lib.hid hok
 have hn8 : n ≤ 8 := by have := frm_nums hok; omega
 have HWX : Hid (witL s (goesB t (duesL f.2.2 n)) n tu = witX t f tu) := by
  unfold Hid witX
  rw [show f.2.1.toNat = n by omega, show t.1.toNat = s by omega]
 have HDU : Hid (dueOk t n (duesL f.2.2 n)) := duesL_ok (fun a ha => by have := hok.2.2 a ha; rwa [hn] at this)
 have HSM := Lib.hid hs
 obtain ⟨va, vc, rfl⟩ := rd_slice hv
 clear hS hv hok hn hs
 go_enter Tryz.func157, Tryz.ntmps157
 go_wp2_with fail
 refine (first_any (n := n) (s := s) w HOK.out.1 HSM.out (by omega) duesL_len HDU.out HS.out HV.out hl).mono ?_
 rintro e w1 ⟨u, rfl, hf, hb1⟩
 rw [HWX.out]
 obtain ⟨ua, un, uc, rfl⟩ := ex_slice hf
 clear hf
 go_wp2_with fail
 go_ret
 exact ⟨rfl, hb1⟩
set_option maxHeartbeats 3200000 in
set_option maxRecDepth 100000 in
theorem valueOf_any (w : World) {cs cf : Array Value} {t : Int × List (Int × List (List Int))} {f : Int × Int × List (Int × List Int)} (h : tplT.Rd w cs.toList t) (hf : frmT.Rd w cf.toList f) (hok : frmOk t f) :
  Calls Tryz.prog 79 #[.agg cs, .agg cf] w (RetA relT w (vaR t f)) := by
 have HT := Lib.hid h
 have HF := Lib.hid hf
 have HOK := Lib.hid hok
 obtain ⟨v1, hv1, hI, -⟩ := pair_ex h
 obtain rfl := agg_of hv1
 obtain ⟨v2, hv2, hIf, hIf2, hfx⟩ := trip_ex hf
 obtain rfl := agg_of hv2
 obtain ⟨fa, fn, fc, rfl⟩ := rd_sl hfx
 have HFX := Lib.hid hfx
 have hnum := frm_nums hok
 obtain ⟨n, hn⟩ : ∃ n : Nat, f.2.1 = n := ⟨f.2.1.toNat, by omega⟩
 obtain ⟨s, hs⟩ : ∃ s : Nat, t.1 = s := ⟨t.1.toNat, by omega⟩
 obtain ⟨ar, har⟩ : ∃ ar : Nat, f.1 = ar := ⟨f.1.toNat, by omega⟩
 have HN := Lib.hid hn
 have HS := Lib.hid hs
 have HAR := Lib.hid har
 have hn8 : n ≤ 8 := by omega
 have har4 : ar ≤ 4 := by omega
 have harn : ar ≤ n := by omega
 have ht4 : 1 ≤ t.1 ∧ t.1 ≤ 4 := by omega
 have hfl : f.2.2.length ≤ 16 := hnum.2.2.2.2.2.2
 have HP : Hid (t.1 ^ ar = ((t.1 ^ ar).toNat : Int)) := by
  unfold Hid
  have := pow_nn (s := t.1) (by omega) ar
  omega
 clear h hv1 hf hv2 hfx hok hnum
 go_enter Tryz.func79, Tryz.ntmps79
 rw [hn, har]
 clear hn har hs
 go_wp2_with fail
 generalize hW : World.alloc _ _ = W
 have hbW : Below w.heap.size w W := hW ▸ ((bAA (w := w)).alloc (by simp; omega) _)
 have hsW : w.heap.size + 3 ≤ W.heap.size := by rw [← hW]; simp
 have t0 : W.cell? ⟨w.heap.size, 0, none⟩ = some (.int .i64 t.1) := by rw [← hW]; simp [go_sem]
 have t1 : W.cell? ⟨w.heap.size, 1, none⟩ = some v1 := by rw [← hW]; simp [go_sem]
 have f0 : W.cell? ⟨w.heap.size + 1, 0, none⟩ = some (.int .i64 ar) := by rw [← hW]; simp [go_sem]
 have f1 : W.cell? ⟨w.heap.size + 1, 1, none⟩ = some (.int .i64 n) := by rw [← hW]; simp [go_sem]
 have f2 : W.cell? ⟨w.heap.size + 1, 2, none⟩ = some (.slice fa fn fc) := by rw [← hW]; simp [go_sem]
 have r0 : W.cell? ⟨w.heap.size + 2, 0, none⟩ = some (.int .i64 0) := by rw [← hW]; simp [go_sem]
 have r1 : W.cell? ⟨w.heap.size + 2, 1, none⟩ = some (.slice none 0 0) := by rw [← hW]; simp [go_sem]
 have m0 : W.frozen? ⟨w.heap.size + 2, 0, none⟩ = false := by rw [← hW]; simp [go_sem]
 have m1 : W.frozen? ⟨w.heap.size + 2, 1, none⟩ = false := by rw [← hW]; simp [go_sem]
 clear hW
 refine (solverOf_any (ct := #[.int .i64 t.1, v1]) _ ((HT.out.below hbW).P) (n := n) (by omega) ((HFX.out.below hbW).P) (by omega) (fun a ha => by
  have h1 := HOK.out.2.2 a ha
  have h2 := atom_len HOK.out.1 h1
  exact ⟨h2.1, fun p hp => by have := h1.2.2 p hp; have := HN.out; omega⟩)).mono ?_
 rintro e w1 ⟨bs, rfl, hsv, hb1⟩
 have hB1 := bthen hbW hb1
 have hz1 := hb1.size
 replace t0 := (cellB hb1 (by omega)).trans t0
 replace f0 := (cellB hb1 (by omega)).trans f0
 replace r0 := (cellB hb1 (by omega)).trans r0
 replace r1 := (cellB hb1 (by omega)).trans r1
 replace m0 := (frozenB hb1 (by omega)).trans m0
 replace m1 := (frozenB hb1 (by omega)).trans m1
 have HSV := Lib.hid hsv
 have hl1 : w.heap.size + 2 < w1.heap.size := by omega
 have hl0 : w.heap.size + 1 < w1.heap.size := by omega
 have hl2 : w.heap.size < w1.heap.size := by omega
 clear hsv t1 f1 f2
 go_wp2_with fail
 generalize hWa : World.alloc w1 _ = wa
 have hba : Below w1.heap.size w1 wa := hWa ▸ bA
 have hsa : w1.heap.size + 1 ≤ wa.heap.size := by rw [← hWa]; simp
 have y0 : wa.cell? ⟨w1.heap.size, 0, none⟩ = some (.pointer (some ⟨bs, 0, none⟩)) := by rw [← hWa]; simp
 replace t0 := (cellB hba (by omega)).trans t0
 replace f0 := (cellB hba (by omega)).trans f0
 replace r0 := (cellB hba (by omega)).trans r0
 replace r1 := (cellB hba (by omega)).trans r1
 replace m0 := (frozenB hba (by omega)).trans m0
 replace m1 := (frozenB hba (by omega)).trans m1
 have hBa := bthen hB1 hba
 clear hWa
 refine (relOf_any _ t.1 ar ht4 har4 157 #[.pointer (some ⟨w1.heap.size, 0, none⟩)] (enters Tryz.func157 (by kernel_rfl) rfl) (vaP t f) _ HP.out (Lib.hid (fun W' u k hW' hk hu => valueOf1_any W' HOK.out HN.out HS.out ((HSV.out.below hba).below hW') ((cellB hW' (by omega)).trans y0) hu (by rw [digL_len]; exact harn)))).mono ?_
 rintro e w2 ⟨cs2, rfl, hf2, hb2⟩
 obtain ⟨a2, c2, rfl⟩ := fr_pair hf2
 have HF2 := Lib.hid hf2
 have hB2 := bthen hBa hb2
 have hz2 := hb2.size
 replace r0 := (cellB hb2 (by omega)).trans r0
 replace r1 := (cellB hb2 (by omega)).trans r1
 replace m0 := (frozenB hb2 (by omega)).trans m0
 replace m1 := (frozenB hb2 (by omega)).trans m1
 obtain ⟨g0, g1⟩ := set2_cells (x := .int .i64 (ar : Int)) (y := .slice a2 (relL t.1 ar (vaP t f) (t.1 ^ ar).toNat).length c2) r0 r1
 have hl3 : w.heap.size + 2 < w2.heap.size := by omega
 clear hf2 y0 t0 f0
 go_wp2_with fail
 refine bodyPost_ret (v := .agg #[.int .i64 (ar : Int), .slice a2 (relL t.1 ar (vaP t f) (t.1 ^ ar).toNat).length c2]) (by simp [results, Tryz.results79, go_sem, g0, g1]) rfl ⟨[.int .i64 (ar : Int), .slice a2 (relL t.1 ar (vaP t f) (t.1 ^ ar).toNat).length c2], rfl, ?_, ?_⟩
 ·have e : vaR t f = ((ar : Int), relL t.1 ar (vaP t f) (t.1 ^ ar).toNat) := by unfold vaR; rw [HAR.out, Int.toNat_natCast]
  rw [e]
  exact (fr_set2 HF2.out (by omega)).mono (by omega)
 ·exact (hB2.setCell (show w.heap.size ≤ w.heap.size + 2 by omega) _).setCell (show w.heap.size ≤ w.heap.size + 2 by omega) _
end Go.Proofs.YtajmjfbejfiipaaGreat
namespace Go.Proofs.YtajmjfbejfiipaaGreat
open Go.RowKit Go.Sort
section
variable (t : Int × List (Int × List (List Int))) (f : Int × Int × List (Int × List Int)) (free : Int) (places : List Int)
end
section
variable {t : Int × List (Int × List (List Int))} {f : Int × Int × List (Int × List Int)} {free : Int} {places : List Int}
end
end Go.Proofs.YtajmjfbejfiipaaGreat
namespace Go.Proofs.YtajmjfbejfiipaaGreat
open Go.RowKit Go.Sort
section
variable {t : Int × List (Int × List (List Int))} {x : Int × List (Int × List Int)} {n : Int}
end
end Go.Proofs.YtajmjfbejfiipaaGreat
namespace Go.Proofs.YtajmjfbejfiipaaGreat
open Go.RowKit
end Go.Proofs.YtajmjfbejfiipaaGreat
namespace Go.Proofs.YtajmjfbejfiipaaGreat
open Go.RowKit Go.Sort
section
variable {t : Int × List (Int × List (List Int))} {f g : Int × Int × List (Int × List Int)}
end
section
variable (t : Int × List (Int × List (List Int))) (f g : Int × Int × List (Int × List Int))
end
section
variable {t : Int × List (Int × List (List Int))} {f g : Int × Int × List (Int × List Int)}
end
end Go.Proofs.YtajmjfbejfiipaaGreat
namespace Go.Proofs.YtajmjfbejfiipaaGreat
open Go.RowKit Go.Sort
section
variable (t : Int × List (Int × List (List Int))) (f g : Int × Int × List (Int × List Int))
end
section
variable {t : Int × List (Int × List (List Int))} {f g : Int × Int × List (Int × List Int)}
end
end Go.Proofs.YtajmjfbejfiipaaGreat
namespace Go.Proofs.YtajmjfbejfiipaaGreat
open Go.RowKit Go.Sort
section
variable (t : Int × List (Int × List (List Int))) (f : Int × Int × List (Int × List Int))
noncomputable def voV : Int × List (List Int) := match tb (frmOk t f) with
 | true => vaR t f
 | false => (0, [])
noncomputable def voC : Int := match tb (frmOk t f) with
 | true => 0
 | false => 1
end
section
variable {t : Int × List (Int × List (List Int))} {f : Int × Int × List (Int × List Int)}
theorem vo_no (h : tb (frmOk t f) = false) : voV t f = (0, []) ∧ voC t f = 1 := by simp [voV, voC, h]
theorem vo_yes (h : tb (frmOk t f) = true) : voV t f = vaR t f ∧ voC t f = 0 := by simp [voV, voC, h]
end
theorem fr_rel0v {base : Nat} {w : World} : relT.Fr base w [.int .i64 0, .slice none 0 0] (0, []) := fr_cons (I64.small (by omega) (by omega)) fr_nil
set_option maxHeartbeats 1600000 in
set_option maxRecDepth 100000 in
theorem ValueOf_any (w : World) {cs cf : Array Value} {t : Int × List (Int × List (List Int))} {f : Int × Int × List (Int × List Int)} (h : tplT.Rd w cs.toList t) (hf : frmT.Rd w cf.toList f) :
  Calls Tryz.prog 19 #[.agg cs, .agg cf] w (RetAC relT w (voV t f) (voC t f)) := by
 have HT := Lib.hid h
 have HF := Lib.hid hf
 obtain ⟨v1, hv1, hI, -⟩ := pair_ex h
 obtain rfl := agg_of hv1
 obtain ⟨v2, hv2, hIf, hIf2, -⟩ := trip_ex hf
 obtain rfl := agg_of hv2
 clear h hf hv1 hv2
 go_enter Tryz.func19, Tryz.ntmps19
 go_wp2_with fail
 generalize hW : World.alloc _ _ = W
 have hbW : Below w.heap.size w W := hW ▸ ((bAA (w := w)).alloc (by simp; omega) _)
 have hsW : w.heap.size + 3 ≤ W.heap.size := by rw [← hW]; simp
 have t0 : W.cell? ⟨w.heap.size, 0, none⟩ = some (.int .i64 t.1) := by rw [← hW]; simp [go_sem]
 have t1 : W.cell? ⟨w.heap.size, 1, none⟩ = some v1 := by rw [← hW]; simp [go_sem]
 have f0 : W.cell? ⟨w.heap.size + 1, 0, none⟩ = some (.int .i64 f.1) := by rw [← hW]; simp [go_sem]
 have f1 : W.cell? ⟨w.heap.size + 1, 1, none⟩ = some (.int .i64 f.2.1) := by rw [← hW]; simp [go_sem]
 have f2 : W.cell? ⟨w.heap.size + 1, 2, none⟩ = some v2 := by rw [← hW]; simp [go_sem]
 have r0 : W.cell? ⟨w.heap.size + 2, 0, none⟩ = some (.int .i64 0) := by rw [← hW]; simp [go_sem]
 have r1 : W.cell? ⟨w.heap.size + 2, 1, none⟩ = some (.slice none 0 0) := by rw [← hW]; simp [go_sem]
 have m0 : W.frozen? ⟨w.heap.size + 2, 0, none⟩ = false := by rw [← hW]; simp [go_sem]
 have m1 : W.frozen? ⟨w.heap.size + 2, 1, none⟩ = false := by rw [← hW]; simp [go_sem]
 clear hW
 refine (ValidFormula_any _ (cs := #[.int .i64 t.1, v1]) (cs' := #[.int .i64 f.1, .int .i64 f.2.1, v2]) (HT.out.below hbW) (HF.out.below hbW)).mono ?_
 rintro e w1 ⟨rfl, hb1⟩
 have hz1 := hb1.size
 have hB1 := bthen hbW hb1
 replace t0 := (cellB hb1 (by omega)).trans t0
 replace t1 := (cellB hb1 (by omega)).trans t1
 replace f0 := (cellB hb1 (by omega)).trans f0
 replace f1 := (cellB hb1 (by omega)).trans f1
 replace f2 := (cellB hb1 (by omega)).trans f2
 replace r0 := (cellB hb1 (by omega)).trans r0
 replace r1 := (cellB hb1 (by omega)).trans r1
 replace m0 := (frozenB hb1 (by omega)).trans m0
 replace m1 := (frozenB hb1 (by omega)).trans m1
 cases hT : tb (frmOk t f)
 ·have HR := Lib.hid (vo_no hT)
  clear hT
  obtain ⟨g0, g1⟩ := set2_cells (x := .int .i64 0) (y := .slice none 0 0) r0 r1
  go_wp2_with fail
  refine bodyPost_ret (v := .tuple #[.agg #[.int .i64 0, .slice none 0 0], .int .i64 1]) (by simp [results, Tryz.results19, go_sem, g0, g1]) rfl ⟨[.int .i64 0, .slice none 0 0], by rw [HR.out.2], by rw [HR.out.1]; exact fr_rel0v, (hB1.setCell (show w.heap.size ≤ w.heap.size + 2 by omega) _).setCell (show w.heap.size ≤ w.heap.size + 2 by omega) _⟩
 ·have HR := Lib.hid (vo_yes hT)
  have HOK := Lib.hid (tb_iff.1 hT)
  clear hT
  go_wp2_with fail
  refine (valueOf_any _ (cs := #[.int .i64 t.1, v1]) (cf := #[.int .i64 f.1, .int .i64 f.2.1, v2]) (HT.out.below hB1) (HF.out.below hB1) HOK.out).mono ?_
  rintro e w2 ⟨cs2, rfl, hf2, hb2⟩
  obtain ⟨a2, c2, rfl⟩ := fr_pair hf2
  have HF2 := Lib.hid hf2
  have hB2 := bthen hB1 hb2
  have hz2 := hb2.size
  replace r0 := (cellB hb2 (by omega)).trans r0
  replace r1 := (cellB hb2 (by omega)).trans r1
  replace m0 := (frozenB hb2 (by omega)).trans m0
  replace m1 := (frozenB hb2 (by omega)).trans m1
  obtain ⟨g0, g1⟩ := set2_cells (x := .int .i64 (vaR t f).1) (y := .slice a2 (vaR t f).2.length c2) r0 r1
  clear hf2 t0 t1 f0 f1 f2
  go_wp2_with fail
  refine bodyPost_ret (v := .tuple #[.agg #[.int .i64 (vaR t f).1, .slice a2 (vaR t f).2.length c2], .int .i64 0]) (by simp [results, Tryz.results19, go_sem, g0, g1]) rfl ⟨[.int .i64 (vaR t f).1, .slice a2 (vaR t f).2.length c2], by rw [HR.out.2], ?_, ?_⟩
  ·rw [HR.out.1]
   exact (fr_set2 HF2.out (by omega)).mono (by omega)
  ·exact (hB2.setCell (show w.heap.size ≤ w.heap.size + 2 by omega) _).setCell (show w.heap.size ≤ w.heap.size + 2 by omega) _
end Go.Proofs.YtajmjfbejfiipaaGreat
namespace Go.Proofs.YtajmjfbejfiipaaGreat
open Go.RowKit Go.Sort
section
variable (t : Int × List (Int × List (List Int))) (f : Int × Int × List (Int × List Int))
end
section
variable {t : Int × List (Int × List (List Int))} {f : Int × Int × List (Int × List Int)}
end
set_option maxHeartbeats 1600000 in
set_option maxRecDepth 100000 in
theorem ownLists_any (w : World) {v : Value} {xs : List (List Int)} (h : rowsT.Rd w [v] xs) (hl : xs.length ≤ 1000000) (hl2 : ∀ y ∈ xs, y.length ≤ 1000000) :
  Calls Tryz.prog 162 #[v] w (RetS rowsT w xs) := by
 obtain ⟨ad, cap, hv, -, -, hcell⟩ := slices_ex h
 obtain rfl : v = _ := by simpa using hv
 have HC := Lib.hid hcell
 have HL2 := Lib.hid hl2
 clear h hv hcell hl2
 go_enter Tryz.func162, Tryz.ntmps162
 go_wp2_with fail
 generalize hW : World.alloc w _ = W
 have hbW : Below w.heap.size w W := hW ▸ bA
 have HB0 : Hid (Bl intsT 38 w.heap.size W.heap.size W (.slice (some ⟨w.heap.size, 0, none⟩) 0 0) []) := by
  unfold Hid
  rw [← hW]
  simpa using Bl.lit0 (E := intsT) (e := 38) (base := w.heap.size) (w := w) (Nat.le_refl _)
 clear hW
 go_loopw [9, 3] (fun i o wr => ∃ k : Nat, k ≤ xs.length ∧ i = .int .i64 k ∧ Bl intsT 38 w.heap.size wr.heap.size wr o (xs.take k) ∧ Below w.heap.size w wr) (fun i _ _ => xs.length - (intOf i).toNat)
 case atStart => exact ⟨0, Nat.zero_le _, rfl, by simpa using HB0.out, hbW⟩
 case round =>
  obtain ⟨k, hk, rfl, hBl, hbe⟩ := hrel
  have HB := Lib.hid hBl
  have hse := hbe.size
  clear hBl HB0
  by_cases hkl : k < xs.length
  ·obtain ⟨b, o, rfl, hb, hce⟩ := HC.out (by omega)
   obtain ⟨uk, huk, g0⟩ := hce k hkl
   obtain ⟨ak, nk, ck, rfl⟩ := rd_sl huk
   have d0 := (hbe.cell hb).trans g0
   have HU := Lib.hid (huk.below hbe)
   have hlk := HL2.out _ (List.getElem_mem hkl)
   have HTK := Lib.hid (take_snoc hkl)
   clear hce huk g0
   go_wp2_with fail
   refine (Clone_any _ HU.out hlk).mono ?_
   rintro e w1 ⟨u2, rfl, hf, hb1⟩
   obtain ⟨a2, n2, c2, rfl⟩ := ex_slice hf
   have HF := Lib.hid hf
   have hz1 := hb1.size
   have HB1 : Hid (Bl intsT 38 w.heap.size wr.heap.size w1 _ (xs.take k)) := HB.out.below hb1 (Nat.le_refl _)
   clear hf HU d0
   go_wp2_with (refine wpList_push (E := intsT) _ rfl _ _ 29 38 rfl elInt64SS rfl (HB1.out.below (bA.mono (by omega)) (Nat.le_refl _)) rfl news1 (HF.out.below bA) (by rw [take_len hk]; omega) (by decide) (by omega) (by first | (simp; done) | (simp; omega)) ?_; intro v5 w5 hB5 hg5 _; have hb5 : Below w.heap.size w1 w5 := ((Below.refl _ w1).alloc (by omega) _).grown hg5 (by first | (simp; done) | (simp; omega)) (fun q hq => HB1.out.own hq))
   rw [HTK.out] at hB5
   have HB5 := Lib.hid hB5
   clear hB5 hg5
   go_roundw
   case rel => exact ⟨k + 1, by omega, by go_num, HB5.out, (bthen hbe hb1).trans hb5⟩
   case measure => simp [intOf]; omega
  ·obtain rfl : k = xs.length := by omega
   rw [List.take_length] at HB
   have HFO := Lib.hid (HB.out.fr (by unfold capMax; omega))
   go_wp2_with fail
   go_ret
   exact ⟨_, rfl, HFO.out, hbe⟩
end Go.Proofs.YtajmjfbejfiipaaGreat
namespace Go.Proofs.YtajmjfbejfiipaaGreat
open Go.RowKit Go.Sort
set_option maxHeartbeats 1600000 in
theorem makeRel_any (w : World) {v : Value} {ts M : List (List Int)} (h : rowsT.Rd w [v] ts) (hn : 1 ≤ ts.length ∧ ts.length ≤ 3) (hl2 : ∀ y ∈ ts, y.length ≤ 1000000) (hM : ∀ l, l ∈ M ↔ l ∈ ts) (hP : M.Pairwise ltL) {ar : Int} (har : I64 ar) :
  Calls Tryz.prog 85 #[.int .i64 ar, v] w (RetA relT w (ar, M)) := by
 obtain ⟨ad, cap, rfl⟩ := rd_slice h
 have H := Lib.hid h
 have HL2 := Lib.hid hl2
 have HE : Hid (∀ L L0 : List PV, L0.map (·.2) = ts → L = ddL (insRest (ts.length - 1) L0 1) → L.map (·.2) = M ∧ L.Sublist (insRest (ts.length - 1) L0 1) ∧ (insRest (ts.length - 1) L0 1).Perm L0) := fun L L0 h0 h1 => by
  have hl : L0.length = ts.length := by rw [← h0, List.length_map]
  rw [← hl] at h1 ⊢
  obtain ⟨g1, g2⟩ := insRest_3 (L := L0) (by omega)
  refine ⟨pw_ext (by rw [h1]; exact dd_pw g2) hP fun a => ?_, by rw [h1]; exact ddL_sub _, g1⟩
  rw [h1, dd_mem, hM, ← h0, List.mem_map, List.mem_map]
  exact exists_congr fun p => and_congr_left fun _ => g1.mem_iff
 have HAR := Lib.hid har
 clear h hl2 hM hP har
 go_enter Tryz.func85, Tryz.ntmps85
 go_wp2_with fail
 generalize hW : World.alloc w _ = W
 have hbW : Below w.heap.size w W := hW ▸ bA
 have hsW : w.heap.size + 1 ≤ W.heap.size := by rw [← hW]; simp
 obtain ⟨z0, f0⟩ : ∃ z, W.cell? ⟨w.heap.size, 0, none⟩ = some z := ⟨_, by rw [← hW]; simp [go_sem]; rfl⟩
 obtain ⟨z1, f1⟩ : ∃ z, W.cell? ⟨w.heap.size, 1, none⟩ = some z := ⟨_, by rw [← hW]; simp [go_sem]; rfl⟩
 have y0 : W.frozen? ⟨w.heap.size, 0, none⟩ = false := by rw [← hW]; simp [go_sem]
 have y1 : W.frozen? ⟨w.heap.size, 1, none⟩ = false := by rw [← hW]; simp [go_sem]
 clear hW
 refine (ownLists_any W (H.out.below hbW) (by omega) HL2.out).mono ?_
 rintro e w1 ⟨u1, rfl, hf, hb1⟩
 obtain ⟨a1, c1, rfl⟩ := fr_slice hf
 have hcap : ts.length ≤ c1 := by obtain ⟨_, ⟨_, _, hv, hc, _⟩, _⟩ := hf; simp at hv; omega
 obtain ⟨b, o, rfl⟩ : ∃ b o, a1 = some ⟨b, o, none⟩ := by
  obtain ⟨_, _, hv, _, _, hc⟩ := Ty.slice_ex hf.rd
  obtain ⟨b, o, h, _⟩ := hc (by omega)
  simp at hv
  exact ⟨b, o, by rw [hv.1, h]⟩
 obtain ⟨hbb, L0, hL0, hS, hR⟩ := sr_of_fr hf (by omega)
 have hLl : L0.length = ts.length := by rw [← hL0, List.length_map]
 have HLl := Lib.hid hLl
 have HL0 := Lib.hid hL0
 have HS := Lib.hid hS
 have HR := Lib.hid hR
 have hz1 := hb1.size
 replace f0 := (cellB hb1 (by omega)).trans f0
 replace f1 := (cellB hb1 (by omega)).trans f1
 replace y0 := (frozenB hb1 (by omega)).trans y0
 replace y1 := (frozenB hb1 (by omega)).trans y1
 have hbw1 := bthen hbW hb1
 clear hf hL0 hS hR hLl
 go_wp2_with fail
 refine (sortRows_any w1 HLl.out HS.out (by omega)).mono ?_
 rintro e w2 ⟨rfl, hS2, hT2⟩
 have HS2 := Lib.hid hS2
 have hb2 : Below W.heap.size w1 w2 := hT2.below hb1.size (fun k hk e => by omega)
 have HR2 : Hid (SRf W.heap.size w2 (insRest (ts.length - 1) L0 1)) := by
  have g := HR.out.tch HS.out.apart hT2
  exact g.perm (HE.out _ L0 HL0.out rfl).2.2
 have hz2 := hT2.size
 have HLl2 : Hid ((insRest (ts.length - 1) L0 1).length = ts.length) := ((HE.out _ L0 HL0.out rfl).2.2.length_eq).trans HLl.out
 replace f0 := (cellB hb2 (show w.heap.size < W.heap.size by omega)).trans f0
 replace f1 := (cellB hb2 (show w.heap.size < W.heap.size by omega)).trans f1
 replace y0 := (frozenB hb2 (show w.heap.size < W.heap.size by omega)).trans y0
 replace y1 := (frozenB hb2 (show w.heap.size < W.heap.size by omega)).trans y1
 clear hS2 hT2
 go_wp2_with fail
 refine (compactRows_any w2 HLl2.out HS2.out (by omega) hcap).mono ?_
 rintro e w3 ⟨rfl, hS3, hT3⟩
 have HS3 := Lib.hid hS3
 have hb3 : Below W.heap.size w2 w3 := hT3.below (by omega) (fun k hk e => by omega)
 have HR3 : Hid (SRf W.heap.size w3 (ddL (insRest (ts.length - 1) L0 1))) := (HR2.out.tch HS2.out.apart hT3).sub (HE.out _ L0 HL0.out rfl).2.1
 have hz3 := hT3.size
 replace f0 := (cellB hb3 (show w.heap.size < W.heap.size by omega)).trans f0
 replace f1 := (cellB hb3 (show w.heap.size < W.heap.size by omega)).trans f1
 replace y0 := (frozenB hb3 (show w.heap.size < W.heap.size by omega)).trans y0
 replace y1 := (frozenB hb3 (show w.heap.size < W.heap.size by omega)).trans y1
 have HF : Hid (rowsT.Fr W.heap.size w3 [.slice (some ⟨b, o, none⟩) (ddL (insRest (ts.length - 1) L0 1)).length c1] M) := by
  have hlen : (ddL (insRest (ts.length - 1) L0 1)).length ≤ ts.length := Nat.le_trans (ddL_len _) (Nat.le_of_eq HLl2.out)
  have := fr_of_sr (c := c1) HS3.out HR3.out hbb rfl (by omega) (by unfold capMax; omega)
  rw [(HE.out _ L0 HL0.out rfl).1] at this
  exact this
 have hbw3 : Below w.heap.size w w3 := hbw1.trans ((hb2.mono (by omega)).trans (hb3.mono (by omega)))
 have HN : Hid ((ddL (insRest (ts.length - 1) L0 1)).length = M.length) := by
  obtain ⟨_, _, hh⟩ := fr_slice HF.out
  simp at hh
  exact hh.2.1
 rw [HN.out] at HF ⊢
 generalize insRest (ts.length - 1) L0 1 = LL at *
 clear hS3 hT3 HE HS3 HR3 HLl2 HS2 HR2 HN
 go_wp2_with fail
 obtain ⟨g0, g1⟩ := set2_cells (x := .int .i64 ar) (y := .slice (some ⟨b, o, none⟩) M.length c1) f0 f1
 refine bodyPost_ret (v := .agg #[.int .i64 ar, .slice (some ⟨b, o, none⟩) M.length c1]) (by simp [results, Tryz.results85, go_sem, g0, g1]) rfl ⟨_, rfl, ?_, ?_⟩
 ·exact ((fr_cons HAR.out HF.out).mono (by omega : w.heap.size + 1 ≤ W.heap.size)).set (by simp) |>.set (by simp) |>.mono (by omega)
 ·exact (hbw3.setCell (by simp) _).setCell (by simp) _
theorem MakeRel1_any (w : World) {b1 b2 : Nat} {u : Value} {x : List Int} (h : intsT.Rd w [u] x) {s ar : Int} (hs : 1 ≤ s ∧ s ≤ 4) (t0 : w.cell? ⟨b1, 0, none⟩ = some (.int .i64 s)) (u0 : w.cell? ⟨b2, 0, none⟩ = some (.int .i64 ar)) :
  Calls Tryz.prog 83 #[u, .pointer (some ⟨b1, 0, none⟩), .pointer (some ⟨b2, 0, none⟩)] w fun e w' => e = .returned (.bool (!(tb (rowOk s ar x)))) ∧ Below w.heap.size w w' := by
 have HX := Lib.hid h
 obtain ⟨ad, cap, rfl⟩ := rd_slice h
 clear h
 go_enter Tryz.func83, Tryz.ntmps83
 go_wp2_with fail
 refine (areValues_any w HX.out s ar (by omega) (by omega)).mono ?_
 rintro e w1 ⟨rfl, hbb⟩
 go_wp2_with fail
 go_ret
 exact ⟨rfl, hbb⟩
set_option maxHeartbeats 3200000 in
set_option maxRecDepth 100000 in
theorem MakeRel_any (w : World) {v : Value} {ts M : List (List Int)} (h : rowsT.Rd w [v] ts) (hn : 1 ≤ ts.length ∧ ts.length ≤ 3) {s : Int} (hs : 1 ≤ s ∧ s ≤ 4) {ar : Nat} (ha : 1 ≤ ar ∧ ar ≤ 4) (hall : ∀ l ∈ ts, l.length = ar ∧ inS s l) (hM : ∀ l, l ∈ M ↔ l ∈ ts) (hP : M.Pairwise ltL) :
  Calls Tryz.prog 20 #[.int .i64 s, .int .i64 (ar : Int), v] w (RetAC relT w ((ar : Int), M) 0) := by
 have hs2 : inB s 1 4 = true := inB_true.2 hs
 have ha2 : inB (ar : Int) 1 4 = true := inB_true.2 (by omega)
 obtain ⟨ad, cap, hv, -, -, hce⟩ := slices_ex h
 obtain rfl : v = _ := by simpa using hv
 have H := Lib.hid h
 have HC := Lib.hid hce
 have HA := Lib.hid hall
 have HM := Lib.hid hM
 have HP := Lib.hid hP
 clear h hall hM hP hce hv
 go_enter Tryz.func20, Tryz.ntmps20
 go_wp2_with fail
 generalize hW : World.alloc (World.alloc (World.alloc w _) _) _ = W
 have hbW : Below w.heap.size w W := hW ▸ bthen bAA bA
 have hsW : w.heap.size + 3 ≤ W.heap.size := by rw [← hW]; simp
 have t0 : W.cell? ⟨w.heap.size, 0, none⟩ = some (.int .i64 s) := by rw [← hW]; simp [go_sem]
 have u0 : W.cell? ⟨w.heap.size + 1, 0, none⟩ = some (.int .i64 (ar : Int)) := by rw [← hW]; simp [go_sem]
 obtain ⟨z0, f0⟩ : ∃ z, W.cell? ⟨w.heap.size + 1 + 1, 0, none⟩ = some z := ⟨_, by rw [← hW]; simp [go_sem]; rfl⟩
 obtain ⟨z1, f1⟩ : ∃ z, W.cell? ⟨w.heap.size + 1 + 1, 1, none⟩ = some z := ⟨_, by rw [← hW]; simp [go_sem]; rfl⟩
 have y0 : W.frozen? ⟨w.heap.size + 1 + 1, 0, none⟩ = false := by rw [← hW]; simp [go_sem]
 have y1 : W.frozen? ⟨w.heap.size + 1 + 1, 1, none⟩ = false := by rw [← hW]; simp [go_sem]
 clear hW
 refine (isSize_any s W).mono ?_
 rintro e _ ⟨rfl, rfl⟩
 rw [hs2]
 clear hs2
 go_wp2_with fail
 refine (isArity_any (ar : Int) W).mono ?_
 rintro e _ ⟨rfl, rfl⟩
 rw [ha2]
 clear ha2
 have hno : anyB (fun l => !(tb (rowOk s (ar : Int) l))) ts = false := by
  unfold anyB
  rw [List.any_eq_false]
  intro l hl
  obtain ⟨g1, g2⟩ := HA.out l hl
  rw [tb_true (show rowOk s (ar : Int) l from ⟨by omega, g2⟩)]
  simp
 have HPF : Hid (∀ W', Below W.heap.size W W' → ∀ k (h : k < ts.length) (x : Value), intsT.Rd W' [x] ts[k] → Calls Tryz.prog 83 (#[x] ++ #[.pointer (some ⟨w.heap.size, 0, none⟩), .pointer (some ⟨w.heap.size + 1, 0, none⟩)]) W' fun e W'' => e = .returned (.bool ((fun l => !(tb (rowOk s (ar : Int) l))) ts[k])) ∧ Below W'.heap.size W' W'') := by
  intro W' hW' k hk x hx
  have hz := hW'.size
  exact MakeRel1_any W' hx (by omega) ((cellB hW' (by omega)).trans t0) ((cellB hW' (by omega)).trans u0)
 go_wp2_with fail
 refine (ContainsFuncInts_any _ (H.out.below hbW) (fun l => !(tb (rowOk s (ar : Int) l))) 83 _ (enters Tryz.func83 (by kernel_rfl) rfl) HPF.out).mono ?_
 rintro e w1 ⟨rfl, hb1⟩
 rw [hno]
 have hz1 := hb1.size
 have hbw1 := bthen hbW hb1
 replace t0 := (cellB hb1 (by omega)).trans t0
 replace u0 := (cellB hb1 (by omega)).trans u0
 replace f0 := (cellB hb1 (by omega)).trans f0
 replace f1 := (cellB hb1 (by omega)).trans f1
 replace y0 := (frozenB hb1 (by omega)).trans y0
 replace y1 := (frozenB hb1 (by omega)).trans y1
 clear hno HPF
 go_wp2_with fail
 refine (makeRel_any w1 (H.out.below hbw1) hn (fun y hy => by rw [(HA.out y hy).1]; omega) HM.out HP.out (ar := (ar : Int)) (I64.small (by omega) (by omega))).mono ?_
 rintro e w2 ⟨cs, rfl, hf2, hb2⟩
 obtain ⟨a2, c2, rfl⟩ := fr_pair hf2
 have HF2 := Lib.hid hf2
 have hz2 := hb2.size
 have hbw2 := bthen hbw1 hb2
 replace f0 := (cellB hb2 (by omega)).trans f0
 replace f1 := (cellB hb2 (by omega)).trans f1
 replace y0 := (frozenB hb2 (by omega)).trans y0
 replace y1 := (frozenB hb2 (by omega)).trans y1
 clear hf2 t0 u0
 go_wp2_with fail
 obtain ⟨g0, g1⟩ := set2_cells (x := .int .i64 (ar : Int)) (y := .slice a2 M.length c2) f0 f1
 refine bodyPost_ret (v := .tuple #[.agg #[.int .i64 (ar : Int), .slice a2 M.length c2], .int .i64 0]) (by simp [results, Tryz.results20, go_sem, g0, g1]) rfl ⟨[.int .i64 (ar : Int), .slice a2 M.length c2], rfl, ?_, ?_⟩
 ·exact ((HF2.out.mono (by omega : w.heap.size + 3 ≤ w1.heap.size)).set (by first | (simp; done) | (simp; omega)) |>.set (by first | (simp; done) | (simp; omega))).mono (by omega)
 ·exact (hbw2.setCell (by first | (simp; done) | (simp; omega)) _).setCell (by first | (simp; done) | (simp; omega)) _
end Go.Proofs.YtajmjfbejfiipaaGreat
