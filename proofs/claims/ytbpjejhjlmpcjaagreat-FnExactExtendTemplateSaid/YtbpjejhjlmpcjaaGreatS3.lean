/-
  Contracts: whether the atoms that are due hold.
-/
import Derived.Test.YtbpjejhjlmpcjaaGreatS2
import Derived.Test.YtbpjejhjlmpcjaaGreatSv
import Derived.Test.YtbpjejhjlmpcjaaGreatKL
import Derived.Test.YtbpjejhjlmpcjaaGreatReg
import Derived.Test.YtbpjejhjlmpcjaaGreatK14
namespace Go.Proofs.YtbpjejhjlmpcjaaGreat
open Go.RowKit Go.Sort
/-- do all atoms hold that are due when so many values are there? -/
noncomputable def goesB (t : Int × List (Int × List (List Int))) (due : List (List (Int × List Int))) (vals : List Int) : Bool := !anyB (fun a => !holdsA t vals a) (due.getD (vals.length - 1) [])
theorem goesB_at {t : Int × List (Int × List (List Int))} {due : List (List (Int × List Int))} {vals : List Int} {k : Nat} (h : vals.length = k + 1) (hk : k < due.length) : goesB t due vals = !anyB (fun a => !holdsA t vals a) due[k] := by
  unfold goesB
  rw [h, Nat.add_sub_cancel, List.getD_eq_getElem?_getD, List.getElem?_eq_getElem hk]
  rfl
/-- the atoms that are due are right -/
def dueOk (t : Int × List (Int × List (List Int))) (vars : Int) (due : List (List (Int × List Int))) : Prop := ∀ k (h : k < due.length), ∀ a ∈ due[k], atomOk t vars a ∧ ∀ p ∈ a.2, 0 ≤ p ∧ p < (k : Int) + 1
set_option maxHeartbeats 1600000 in
set_option maxRecDepth 100000 in
theorem goes1_any (w : World) {ca : Array Value} {a : Int × List Int} (ha : opT.Rd w ca.toList a) {ok : Nat → Prop} {bs : Nat} {t : Int × List (Int × List (List Int))} {vars : Int} {due : List (List (Int × List Int))} (hS : Sv ok w bs t vars due) {b1 b2 : Nat} {v : Value} {vals : List Int}
    (s0 : w.cell? ⟨b1, 0, none⟩ = some (.pointer (some ⟨bs, 0, none⟩))) (v0 : w.cell? ⟨b2, 0, none⟩ = some v) (hv : intsT.Rd w [v] vals) (hT : tplOk t) (hA : atomOk t vars a) (hin : ∀ p ∈ a.2, 0 ≤ p ∧ p < (vals.length : Int)) :
    Calls Tryz.prog 112 #[.agg ca, .pointer (some ⟨b1, 0, none⟩), .pointer (some ⟨b2, 0, none⟩)] w fun e w' => e = .returned (.bool (!holdsA t vals a)) ∧ Below w.heap.size w w' := by
  have HA := Lib.hid ha
  obtain ⟨hbs, -, v1, v3, c0, c1, -, -, ht, -⟩ := hS
  obtain ⟨va, hca, -, -⟩ := pair_ex ha
  obtain rfl := agg_of hca
  have HTR := Lib.hid ht.rd
  have HV := Lib.hid hv
  have HT := Lib.hid hT
  have HAO := Lib.hid hA
  have HIN := Lib.hid hin
  clear ha hca ht hv hT hA hin
  go_enter Tryz.func112, Tryz.ntmps112
  go_wp2_with fail
  generalize hW : World.alloc _ _ = W
  have hbW : Below w.heap.size w W := hW ▸ bA
  have a0 : W.cell? ⟨w.heap.size, 0, none⟩ = some (.int .i64 a.1) := by rw [← hW]; simp
  have a1 : W.cell? ⟨w.heap.size, 1, none⟩ = some va := by rw [← hW]; simp
  have k0 := (hbW.cell (cell_lt c0)).trans c0
  have k1 := (hbW.cell (cell_lt c1)).trans c1
  have k2 := (hbW.cell (cell_lt s0)).trans s0
  have k3 := (hbW.cell (cell_lt v0)).trans v0
  have hlW : w.heap.size < W.heap.size := by rw [← hW]; simp
  clear hW c0 c1 s0 v0
  refine wp_region_T (fun w' => w'.cell? ⟨w.heap.size, 0, none⟩ = some (.int .i64 a.1) ∧ w'.cell? ⟨w.heap.size, 1, none⟩ = some va ∧ w'.cell? ⟨bs, 0, none⟩ = some (.int .i64 t.1) ∧ w'.cell? ⟨bs, 1, none⟩ = some v1 ∧ w'.cell? ⟨b1, 0, none⟩ = some (.pointer (some ⟨bs, 0, none⟩)) ∧ w'.cell? ⟨b2, 0, none⟩ = some v) [6, 8] (by kernel_rfl) ⟨a0, a1, k0, k1, k2, k3⟩ (fun hHeld => ?_)
  refine wpAnyT_take (i := 0) (v := ?_) rfl (by kernel_rfl) (fun _ _ _ h => h) (Or.inl ⟨by rfl, ?_⟩) (by assumption) ?_
  rotate_left
  · (intro w hSw; (try dsimp only at hSw); go_simp <;> with_reducible rfl)
  try simp only [Act.put]
  refine wpAnyT_take (i := 1) (v := ?_) rfl (by kernel_rfl) (fun _ _ _ h => h) (Or.inl ⟨by rfl, ?_⟩) (by assumption) ?_
  rotate_left
  · (intro w hSw; (try dsimp only at hSw); go_simp <;> with_reducible rfl)
  try simp only [Act.put]
  refine wpAnyT_take (i := 2) (v := ?_) rfl (by kernel_rfl) (fun _ _ _ h => h) (Or.inl ⟨by rfl, ?_⟩) (by assumption) ?_
  rotate_left
  · (intro w hSw; (try dsimp only at hSw); go_simp <;> with_reducible rfl)
  try simp only [Act.put]
  refine wpAnyT_take (i := 3) (v := ?_) rfl (by kernel_rfl) (fun _ _ _ h => h) (Or.inl ⟨by rfl, ?_⟩) (by assumption) ?_
  rotate_left
  · (intro w hSw; (try dsimp only at hSw); go_simp <;> with_reducible rfl)
  try simp only [Act.put]
  refine wpAnyT_take (i := 4) (v := ?_) rfl (by kernel_rfl) (fun _ _ _ h => h) (Or.inl ⟨by rfl, ?_⟩) (by assumption) ?_
  rotate_left
  · (intro w hSw; (try dsimp only at hSw); go_simp <;> with_reducible rfl)
  try simp only [Act.put]
  refine wpAnyT_take (i := 5) (v := ?_) rfl (by kernel_rfl) (fun _ _ _ h => h) (Or.inl ⟨by rfl, ?_⟩) (by assumption) ?_
  rotate_left
  · (intro w hSw; (try dsimp only at hSw); go_simp <;> with_reducible rfl)
  try simp only [Act.put]
  refine wpAnyT_last (i := 6) rfl (by kernel_rfl) (by kernel_rfl) (fun K hK => ?_)
  go_simp
  go_at_call 113
  refine (holds_any (ct := #[.int .i64 t.1, v1]) (ca := #[.int .i64 a.1, va]) _ ((HTR.out.below hbW).below bD) ((HA.out.below hbW).below bD) ((HV.out.below hbW).below bD) HT.out HAO.out HIN.out).mono ?_
  rintro e w2 ⟨rfl, hb2⟩
  have hb2' : Below W.heap.size W w2 := bthen bD hb2
  dsimp only
  refine hK.out _ _ ?_
  clear hK K
  refine wpAnyT_any (i := 7) (v := ?_) rfl (by kernel_rfl) (fun _ _ _ h => h) (Or.inl ⟨by rfl, ?_⟩) (by first | exact fun _ => by assumption | (intro hp; exact absurd hp (by rw [show pastB _ _ = true by kernel_rfl]; simp))) ?_
  rotate_left
  · (intro w hSw; (try dsimp only at hSw); go_simp <;> with_reducible rfl)
  try simp only [Act.put]
  refine wpAnyT_last (i := 8) rfl (by kernel_rfl) (by kernel_rfl) (fun K hK => ?_)
  go_simp
  refine hK.out _ _ ?_
  clear hK K
  refine wpAnyT_done (by kernel_rfl) ?_ _
  go_simp
  go_wp2_with fail
  go_ret
  exact ⟨rfl, bthen hbW hb2'⟩
set_option maxHeartbeats 1600000 in
set_option maxRecDepth 100000 in
theorem goes_any (w : World) {ok : Nat → Prop} {bs : Nat} {t : Int × List (Int × List (List Int))} {vars : Int} {due : List (List (Int × List Int))} (hS : Sv ok w bs t vars due) {v : Value} {vals : List Int} (hv : intsT.Rd w [v] vals) (hT : tplOk t) (hD : dueOk t vars due) (h1 : 1 ≤ vals.length) (h2 : vals.length ≤ due.length) :
    Calls Tryz.prog 100 #[.pointer (some ⟨bs, 0, none⟩), v] w fun e w' => e = .returned (.bool (goesB t due vals)) ∧ Below w.heap.size w w' := by
  have HS := Lib.hid hS
  obtain ⟨hbs, -, v1, v3, -, -, -, c3, -, hd⟩ := hS
  obtain ⟨k, hk⟩ : ∃ k, vals.length = k + 1 := ⟨vals.length - 1, by omega⟩
  have hkd : k < due.length := by omega
  have HG := Lib.hid (goesB_at (t := t) hk hkd)
  obtain ⟨da, dc, hdv, -, hdl, hdce⟩ := slices_ex hd.rd
  obtain rfl : v3 = _ := by simpa using hdv
  obtain ⟨g, go0, rfl, hg, hce⟩ := hdce (by omega)
  obtain ⟨u, hu, hcu⟩ := hce k hkd
  obtain ⟨ua, un, uc, rfl⟩ := rd_sl hu
  obtain ⟨va, vc, rfl⟩ := rd_slice hv
  have HU := Lib.hid hu
  have HV := Lib.hid hv
  have HT := Lib.hid hT
  have HD := Lib.hid hD
  have HK := Lib.hid hk
  have hwr : IntKind.i64.wrap (k : Int) = k := wrap_small (by omega) (by omega)
  rw [hk]
  clear hd hdv hdce hce hu hv hT hD hk h1 h2
  go_enter Tryz.func100, Tryz.ntmps100
  go_wp2_with fail
  generalize hW : World.alloc _ _ = W
  have hbW : Below w.heap.size w W := hW ▸ bAA
  have hsW : W.heap.size = w.heap.size + 2 := by rw [← hW]; simp
  have p0 : W.cell? ⟨w.heap.size, 0, none⟩ = some (.pointer (some ⟨bs, 0, none⟩)) := by rw [← hW]; simp [go_sem]
  have p1 : W.cell? ⟨w.heap.size + 1, 0, none⟩ = some (.slice va (k + 1) vc) := by rw [← hW]; simp [go_sem]
  have d3 := (cellB hbW hbs).trans c3
  have du := (cellB hbW hg).trans hcu
  clear hW c3 hcu
  refine wp_region_T (fun w' => w'.cell? ⟨w.heap.size, 0, none⟩ = some (.pointer (some ⟨bs, 0, none⟩)) ∧ w'.cell? ⟨w.heap.size + 1, 0, none⟩ = some (.slice va (k + 1) vc) ∧ w'.cell? ⟨bs, 3, none⟩ = some (.slice (some ⟨g, go0, none⟩) due.length dc) ∧ w'.cell? ⟨g, go0 + k, none⟩ = some (.slice ua un uc)) [10, 12] (by kernel_rfl) ⟨p0, p1, d3, du⟩ (fun hHeld => ?_)
  refine wpAnyT_take (i := 0) (v := ?_) rfl (by kernel_rfl) (fun _ _ _ h => h) (Or.inl ⟨by rfl, ?_⟩) (by assumption) ?_
  rotate_left
  · (intro w hSw; (try dsimp only at hSw); go_simp <;> with_reducible rfl)
  try simp only [Act.put]
  refine wpAnyT_take (i := 1) (v := ?_) rfl (by kernel_rfl) (fun _ _ _ h => h) (Or.inl ⟨by rfl, ?_⟩) (by assumption) ?_
  rotate_left
  · (intro w hSw; (try dsimp only at hSw); go_simp <;> with_reducible rfl)
  try simp only [Act.put]
  refine wpAnyT_take (i := 2) (v := ?_) rfl (by kernel_rfl) (fun _ _ _ h => h) (Or.inl ⟨by rfl, ?_⟩) (by assumption) ?_
  rotate_left
  · (intro w hSw; (try dsimp only at hSw); go_simp <;> with_reducible rfl)
  try simp only [Act.put]
  refine wpAnyT_take (i := 3) (v := ?_) rfl (by kernel_rfl) (fun _ _ _ h => h) (Or.inl ⟨by rfl, ?_⟩) (by assumption) ?_
  rotate_left
  · (intro w hSw; (try dsimp only at hSw); go_simp <;> with_reducible rfl)
  try simp only [Act.put]
  refine wpAnyT_take (i := 4) (v := ?_) rfl (by kernel_rfl) (fun _ _ _ h => h) (Or.inl ⟨by rfl, ?_⟩) (by assumption) ?_
  rotate_left
  · (intro w hSw; (try dsimp only at hSw); go_simp <;> with_reducible rfl)
  try simp only [Act.put]
  refine wpAnyT_take (i := 5) (v := ?_) rfl (by kernel_rfl) (fun _ _ _ h => h) (Or.inl ⟨by rfl, ?_⟩) (by assumption) ?_
  rotate_left
  · (intro w hSw; (try dsimp only at hSw); go_simp <;> with_reducible rfl)
  try simp only [Act.put]
  refine wpAnyT_take (i := 6) (v := ?_) rfl (by kernel_rfl) (fun _ _ _ h => h) (Or.inl ⟨by rfl, ?_⟩) (by assumption) ?_
  rotate_left
  · (intro w hSw; (try dsimp only at hSw); go_simp <;> with_reducible rfl)
  try simp only [Act.put]
  refine wpAnyT_take (i := 7) (v := ?_) rfl (by kernel_rfl) (fun _ _ _ h => h) (Or.inl ⟨by rfl, ?_⟩) (by assumption) ?_
  rotate_left
  · (intro w hSw; (try dsimp only at hSw); go_simp <;> with_reducible rfl)
  try simp only [Act.put]
  refine wpAnyT_take (i := 8) (v := ?_) rfl (by kernel_rfl) (fun _ _ _ h => h) (Or.inl ⟨by rfl, ?_⟩) (by assumption) ?_
  rotate_left
  · (intro w hSw; (try dsimp only at hSw); go_simp <;> with_reducible rfl)
  try simp only [Act.put]
  refine wpAnyT_take (i := 9) (v := ?_) rfl (by kernel_rfl) (fun _ _ _ h => h) (Or.inl ⟨by rfl, ?_⟩) (by assumption) ?_
  rotate_left
  · (intro w hSw; (try dsimp only at hSw); go_simp <;> with_reducible rfl)
  try simp only [Act.put]
  refine wpAnyT_last (i := 10) rfl (by kernel_rfl) (by kernel_rfl) (fun K hK => ?_)
  go_simp
  go_at_call 65
  have hbD : Below W.heap.size W W.drew := bD
  refine (ContainsFuncAtom_any _ ((HU.out.below hbW).below hbD) (fun a => !holdsA t vals a) 112 #[.pointer (some ⟨w.heap.size, 0, none⟩), .pointer (some ⟨w.heap.size + 1, 0, none⟩)] (enters Tryz.func112 (by kernel_rfl) rfl) (fun W' hW' q hq cs hcs => goes1_any W' hcs (((HS.out.below hbW).below hbD).below hW') ((hW'.cell (cell_lt hHeld.1)).trans hHeld.1) ((hW'.cell (cell_lt hHeld.2.1)).trans hHeld.2.1) (by have := ((HV.out.below hbW).below hbD).below hW'; rw [HK.out] at this; exact this) HT.out ((HD.out k hkd _ (List.getElem_mem hq)).1) (by have := (HD.out k hkd _ (List.getElem_mem hq)).2; rw [HK.out]; exact this))).mono ?_
  rintro e w2 ⟨rfl, hb2⟩
  have hb2' : Below W.heap.size W w2 := bthen hbD hb2
  dsimp only
  refine hK.out _ _ ?_
  clear hK K
  refine wpAnyT_any (i := 11) (v := ?_) rfl (by kernel_rfl) (fun _ _ _ h => h) (Or.inl ⟨by rfl, ?_⟩) (by first | exact fun _ => by assumption | (intro hp; exact absurd hp (by rw [show pastB _ _ = true by kernel_rfl]; simp))) ?_
  rotate_left
  · (intro w hSw; (try dsimp only at hSw); go_simp <;> with_reducible rfl)
  try simp only [Act.put]
  refine wpAnyT_last (i := 12) rfl (by kernel_rfl) (by kernel_rfl) (fun K hK => ?_)
  go_simp
  refine hK.out _ _ ?_
  clear hK K
  refine wpAnyT_done (by kernel_rfl) ?_ _
  go_simp
  go_wp2_with fail
  go_ret
  exact ⟨ret_bool HG.out.symm, bthen hbW hb2'⟩
end Go.Proofs.YtbpjejhjlmpcjaaGreat
