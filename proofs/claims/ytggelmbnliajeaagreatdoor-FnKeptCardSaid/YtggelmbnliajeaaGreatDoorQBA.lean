/-
Contracts: an operation put into a list in the order of tables.
Contracts: an operation composed with operations, the reference's.
Contracts: a round of compositions, the reference's.
Contracts: the operations up to so many arguments that operations make, the reference's.
Contracts: the operations up to so many arguments that operations make, the program's.
Contracts: relations and templates that are drawn, seldom ones that are not valid.
-/
import Derived.Test.YtggelmbnliajeaaGreatDoorQAJ
import Derived.Test.YtggelmbnliajeaaGreatDoorQAC
import Derived.Test.YtggelmbnliajeaaGreatDoorQAA
import Derived.Test.YtggelmbnliajeaaGreatDoorQAB
import Derived.Test.YtggelmbnliajeaaGreatDoorQAF
import Derived.Test.YtggelmbnliajeaaGreatDoorQAI
import Derived.Test.YtggelmbnliajeaaGreatDoorQAD
import Derived.Test.YtggelmbnliajeaaGreatDoorQAH
import Derived.Test.YtggelmbnliajeaaGreatDoorQAE
namespace Go.Proofs.YtggelmbnliajeaaGreatDoor
open Go.RowKit Go.Sort
theorem fnPut_src {ar : Int} {w : World} {b : Nat} {L : List PV} (h : ∀ i (h : i < L.length), w.cell? ⟨b, i * 2, none⟩ = some (.int .i64 ar) ∧ w.cell? ⟨b, i * 2 + 1, none⟩ = some (L[i]).1) (k : Nat) : ∀ i (h : i < (L.drop k).length), w.cell? ⟨b, k * 2 + i * 2, none⟩ = some (.int .i64 ar) ∧ w.cell? ⟨b, k * 2 + i * 2 + 1, none⟩ = some ((L.drop k)[i]).1 := fun i hi => by
 have hi' : k + i < L.length := by rw [List.length_drop] at hi; omega
 have := h (k + i) hi'
 rw [List.getElem_drop, show k * 2 + i * 2 = (k + i) * 2 by omega]
 exact this
theorem take_src {ar : Int} {w : World} {b : Nat} {L : List PV} (h : ∀ i (h : i < L.length), w.cell? ⟨b, i * 2, none⟩ = some (.int .i64 ar) ∧ w.cell? ⟨b, i * 2 + 1, none⟩ = some (L[i]).1) (k : Nat) : ∀ i (h : i < (L.take k).length), w.cell? ⟨b, 0 + i * 2, none⟩ = some (.int .i64 ar) ∧ w.cell? ⟨b, 0 + i * 2 + 1, none⟩ = some ((L.take k)[i]).1 := fun i hi => by
 have hi' : i < L.length := by rw [List.length_take] at hi; omega
 rw [List.getElem_take, Nat.zero_add]
 exact h i hi'
/-- the list with one more at its place -/
def putL (L : List PV) (k : Nat) (x : PV) : List PV := L.take k ++ x :: L.drop k
theorem putL_perm {L : List PV} {k : Nat} {x : PV} : (putL L k x).Perm (x :: L) := by
 unfold putL
 refine List.perm_middle.trans ?_
 rw [List.take_append_drop]
theorem putL_len {L : List PV} {k : Nat} {x : PV} : (putL L k x).length = L.length + 1 := by rw [putL_perm.length_eq]; simp
theorem putL_pw {L : List PV} {k : Nat} {x : PV} (h : (L.map (·.2)).Pairwise ltL) (h1 : ∀ j (hj : j < L.length), j < k → ltL (L[j]).2 x.2) (h2 : ∀ hk : k < L.length, ltL x.2 (L[k]).2) : ((putL L k x).map (·.2)).Pairwise ltL := by
 rw [List.pairwise_map] at h ⊢
 unfold putL
 rw [List.pairwise_append]
 have hd := h.sublist (List.drop_sublist k L)
 refine ⟨h.sublist (List.take_sublist k L), List.pairwise_cons.2 ⟨fun y hy => ?_, hd⟩, fun a ha b hb => ?_⟩
 ·obtain ⟨i, hi, rfl⟩ := List.mem_iff_getElem.1 hy
  have hi' : k + i < L.length := by rw [List.length_drop] at hi; omega
  rw [List.getElem_drop]
  rcases Nat.eq_zero_or_pos i with h0 | h0
  ·subst h0; exact h2 (by omega)
  ·exact ltL_trans (h2 (by omega)) (List.pairwise_iff_getElem.1 h k (k + i) (by omega) hi' (by omega))
 ·obtain ⟨i, hi, rfl⟩ := List.mem_take_iff_getElem.1 ha
  have hik : i < k := by omega
  have hil : i < L.length := by omega
  rcases List.mem_cons.1 hb with rfl | hb
  ·exact h1 i hil hik
  ·obtain ⟨j, hj, rfl⟩ := List.mem_iff_getElem.1 hb
   have hj' : k + j < L.length := by rw [List.length_drop] at hj; omega
   rw [List.getElem_drop]
   exact List.pairwise_iff_getElem.1 h i (k + j) hil hj' (by omega)
theorem PutN {L : List PV} {k : Nat} {xt : List Int} (h : (L.map (·.2)).Pairwise ltL) (h1 : ∀ j (hj : j < L.length), j < k → ltL (L[j]).2 xt) (h2 : ∀ hk : k < L.length, ltL xt (L[k]).2) : xt ∉ L.map (·.2) := fun hm => by
 obtain ⟨p, hp, e⟩ := List.mem_map.1 hm
 obtain ⟨i, hi, rfl⟩ := List.mem_iff_getElem.1 hp
 rw [List.pairwise_map] at h
 rcases Nat.lt_or_ge i k with hlt | hge
 ·exact ltL_ne (h1 i hi hlt) e
 ·have h3 := h2 (by omega)
  rcases Nat.eq_or_lt_of_le hge with e2 | e2
  ·subst e2; exact ltL_ne h3 e.symm
  ·exact ltL_ne (ltL_trans h3 (List.pairwise_iff_getElem.1 h k i (by omega) hi e2)) e.symm
/-- what is put: the list with it, or as it was -/
def PutR (base : Nat) (ar : Int) (w : World) (v : Value) (L : List PV) (x : PV) (e : Ending) (w' : World) : Prop :=
 Below w.heap.size w w' ∧ ((x.2 ∈ L.map (·.2) ∧ e = .returned (.tuple #[v, .bool false])) ∨ (x.2 ∉ L.map (·.2) ∧ ∃ (v' : Value) (k : Nat), e = .returned (.tuple #[v', .bool true]) ∧ OpL base ar w' v' (putL L k x) ∧ ((putL L k x).map (·.2)).Pairwise ltL))
set_option maxHeartbeats 6400000 in
set_option maxRecDepth 100000 in
theorem l02Put_any (w : World) {base : Nat} {ar : Int} {v : Value} {L : List PV} (h : OpL base ar w v L) (hP : (L.map (·.2)).Pairwise ltL) (hL : L.length ≤ 100000) {x : PV} {n : Nat} (hln : ∀ p ∈ L, p.2.length = n) (hxn : x.2.length = n) (hx : SRf base w (x :: L)) (hxr : intsT.Rd w [x.1] x.2) (hB : base ≤ w.heap.size) :
  Calls Tryz.prog 85 #[v, .agg #[.int .i64 ar, x.1]] w (PutR base ar w v L x) := by
 obtain ⟨b, cap, rfl, hc, hbb, hbw, hfz, hnb, hcl⟩ := h.row
 obtain ⟨xv, xt⟩ := x
 change intsT.Rd w [xv] xt at hxr
 obtain ⟨xa, xc, rfl⟩ := rd_slice hxr
 have H := Lib.hid h
 have HP := Lib.hid hP
 have HX := Lib.hid hxr
 have HS := Lib.hid hx
 have HCL := Lib.hid hcl
 have HLN := Lib.hid hln
 have hxn' : xt.length = n := hxn
 have HXN := Lib.hid hxn'
 have HONE : Hid (∀ p ∈ L, p.1.oneCell' = true) := fun p hp => by
  obtain ⟨ya, yc, e⟩ := rd_slice (h.rd p hp)
  rw [e]; rfl
 clear h hP hxr hx hfz hnb hcl hln hxn hxn'
 go_enter Tryz.func85, Tryz.ntmps85
 go_wp2_with fail
 generalize hW : World.alloc w _ = W
 have hbW : Below w.heap.size w W := hW ▸ bA
 have hsW : W.heap.size = w.heap.size + 1 := by rw [← hW]; simp
 have y0 : W.cell? ⟨w.heap.size, 0, none⟩ = some (.int .i64 ar) := by rw [← hW]; simp [go_sem]
 have y1 : W.cell? ⟨w.heap.size, 1, none⟩ = some (.slice xa xt.length xc) := by rw [← hW]; simp [go_sem]
 clear hW
 go_loopw [6] (fun i wr => ∃ k : Nat, k ≤ L.length ∧ i = .int .i64 k ∧ (∀ j (hj : j < L.length), j < k → ltL (L[j]).2 xt) ∧ Quiet W wr) (fun i _ => L.length - (intOf i).toNat)
 case atStart => exact ⟨0, Nat.zero_le _, rfl, fun j hj h => absurd h (Nat.not_lt_zero _), Quiet.refl _⟩
 case round =>
  obtain ⟨k, hk, rfl, hlt, hq⟩ := hrel
  have HLT := Lib.hid hlt
  have hqb := hq.below
  have z0 := (cellB hqb (by omega)).trans y0
  have z1 := (cellB hqb (by omega)).trans y1
  have hbwr : Below w.heap.size w wr := bthen hbW hqb
  clear hlt
  by_cases hkl : k < L.length
  ·have hd : decide ((k : Int) < (L.length : Int)) = true := by simp; omega
   have hd' : decide (k < L.length) = true := by simp; omega
   obtain ⟨c0, c1⟩ := HCL.out k hkl
   have e1 := (cellB hbwr hbw).trans c1
   have hrk := H.out.rd _ (List.getElem_mem hkl)
   obtain ⟨ya, yc, hy⟩ := rd_slice hrk
   have hlk : (L[k]).2.length = xt.length := by rw [HLN.out _ (List.getElem_mem hkl), HXN.out]
   have cQ : ∀ m, Calls Tryz.prog 133 #[(L[k]).1, .slice xa xt.length xc] (wr.drewN m) fun e w'' => e = .returned (.bool (tb (ltL (L[k]).2 xt))) ∧ ∃ q, w'' = wr.drewN q := fun m =>
    quiet_call (l01Before_quiet _ ((hrk.below hbwr).below (Quiet.drewN wr m).below) ((HX.out.below hbwr).below (Quiet.drewN wr m).below) (by omega) hlk)
   rw [hy] at e1 cQ
   cases hb : tb (ltL (L[k]).2 xt)
   rotate_left
   ·rw [hb] at cQ
    have HLT2 : Hid (∀ j (hj : j < L.length), j < k + 1 → ltL (L[j]).2 xt) := fun j hj hjk => by
     by_cases e : j = k
     ·subst e; exact tb_iff.1 hb
     ·exact HLT.out j hj (by omega)
    clear c0 c1 hrk hy hb hlk
    go_wp2_with fail
    go_quiet (exact cQ _)
    go_wp2_with fail
    go_roundw
    case rel => exact ⟨k + 1, by omega, by go_num, HLT2.out, hq.then (by first | exact Quiet.refl _ | exact Quiet.drewN _ _ | exact (Quiet.drewN _ _).then (Quiet.drewN _ _) | exact ((Quiet.drewN _ _).then (Quiet.drewN _ _)).then (Quiet.drewN _ _))⟩
    case measure => simp [intOf]; omega
   ·rw [hb] at cQ
    have cS : ∀ X m, Quiet wr X → Calls Tryz.prog 69 #[(L[k]).1, .slice xa xt.length xc] (X.drewN m) fun e w'' => e = .returned (.bool (eqB (L[k]).2 xt)) ∧ ∃ q, w'' = X.drewN q := fun X m hX =>
     quiet_call (l00Same_quiet _ (((hrk.below hbwr).below hX.below).below (Quiet.drewN X m).below) (((HX.out.below hbwr).below hX.below).below (Quiet.drewN X m).below))
    rw [hy] at cS
    have HNL : Hid (¬ ltL (L[k]).2 xt) := fun hh => by have := tb_true hh; rw [hb] at this; cases this
    clear c0 c1 hrk hb hlk
    go_wp2_with fail
    go_quiet (exact cQ _)
    generalize hwq : World.drewN wr _ = wq
    have hqq : Quiet wr wq := ⟨_, hwq.symm⟩
    clear hwq
    have z0 := (cellB hqq.below (by have := hqb.size; omega)).trans z0
    have z1 := (cellB hqq.below (by have := hqb.size; omega)).trans z1
    have e1 := (cellB hqq.below (by have := hbwr.size; omega)).trans e1
    have hbwq : Below w.heap.size w wq := bthen hbwr hqq.below
    cases he : eqB (L[k]).2 xt
    rotate_left
    ·have HME : Hid (xt ∈ L.map (·.2)) := List.mem_map.2 ⟨_, List.getElem_mem hkl, eqB_iff.1 he⟩
     simp only [he] at cS
     go_wp2_with fail
     go_quiet (exact cS wq _ hqq)
     go_wp2_with fail
     go_ret2
     exact ⟨bDN hbwq, .inl ⟨HME.out, rfl⟩⟩
    ·have HGT : Hid (∀ hk : k < L.length, ltL xt (L[k]).2) := fun _ => by
      rcases cmpL_total HNL.out with e | e
      ·rw [eqB_true e] at he; cases he
      ·exact e
     simp only [he] at cS
     go_wp2_with fail
     go_quiet (exact cS wq _ hqq)
     generalize hwq2 : World.drewN wq _ = wq2
     have hqq2 : Quiet wq wq2 := ⟨_, hwq2.symm⟩
     clear hwq2
     replace z0 := (cellB hqq2.below (by have := hqb.size; have := hqq.below.size; omega)).trans z0
     replace z1 := (cellB hqq2.below (by have := hqb.size; have := hqq.below.size; omega)).trans z1
     have hbq : Below w.heap.size w wq2 := bthen hbwq hqq2.below
     have hsq : w.heap.size + 1 ≤ wq2.heap.size := by have := hqb.size; have := hqq.below.size; have := hqq2.below.size; omega
     clear cQ cS e1 hqq2 hqq hbwq HNL hy
     go_wp2_with fail
     have hk1 : (k : Int) ≤ (L.length : Int) := by omega
     have hk2 : (0 : Int) ≤ (k : Int) := by omega
     have hk3 : (k : Int) ≤ (cap : Int) := by omega
     refine wp_region_T (fun w' => w'.cell? ⟨w.heap.size, 0, none⟩ = some (.int .i64 ar) ∧ w'.cell? ⟨w.heap.size, 1, none⟩ = some (.slice xa xt.length xc)) [5, 6] (by kernel_rfl) ⟨z0, z1⟩ (fun hHeld => ?_)
     refine wpAnyT_take (i := 0) (v := ?_) rfl (by kernel_rfl) (fun _ _ _ h => h) (Or.inl ⟨by rfl, ?_⟩) (by assumption) ?_
     rotate_left
     ·(intro w hSw; (try dsimp only at hSw); go_simp <;> with_reducible rfl)
     go_simp
     refine wpAnyT_take (i := 2) (v := ?_) rfl (by kernel_rfl) (fun _ _ _ h => h) (Or.inl ⟨by rfl, ?_⟩) (by assumption) ?_
     rotate_left
     ·(intro w hSw; (try dsimp only at hSw); go_simp <;> with_reducible rfl)
     go_simp
     refine wpAnyT_take (i := 3) (v := ?_) rfl (by kernel_rfl) (fun _ _ _ h => h) (Or.inl ⟨by rfl, ?_⟩) (by assumption) ?_
     rotate_left
     ·(intro w hSw; (try dsimp only at hSw); go_simp <;> with_reducible rfl)
     go_simp
     refine wpAnyT_take (i := 4) (v := ?_) rfl (by kernel_rfl) (fun _ _ _ h => h) (Or.inl ⟨by rfl, ?_⟩) (by assumption) ?_
     rotate_left
     ·(intro w hSw; (try dsimp only at hSw); go_simp <;> with_reducible rfl)
     go_simp
     refine wpAnyT_one (i := 1) rfl (by kernel_rfl) (fun K hK => ?_)
     go_simp
     refine hK.out _ _ ⟨by go_keep, by go_keep⟩ (fun hHeld => ?_)
     clear hK K
     refine wpAnyT_last (i := 5) rfl (by kernel_rfl) (by kernel_rfl) (fun K hK => ?_)
     have hbA : Below w.heap.size w (wq2.drew.alloc (.cells #[.int .i64 ar, .slice xa xt.length xc] 44)) := (bDN (n := 1) hbq).alloc (by show w.heap.size ≤ wq2.heap.size; omega) _
     have hown1 : (wq2.drew.alloc (.cells #[.int .i64 ar, .slice xa xt.length xc] 44)).ownsRow wq2.heap.size 44 2 (.slice (some ⟨wq2.heap.size, 0, none⟩) 1 1) 1 [.int .i64 ar, .slice xa xt.length xc] := World.ownsRow_lit wq2.drew #[.int .i64 ar, .slice xa xt.length xc] 1 (Nat.le_refl _) (by decide) rfl
     refine step_pushRow _ rfl _ _ 30 44 rfl elOpS (base := wq2.heap.size) rfl hown1 (m := L.length - k) (news := cellsOf ar (L.drop k)) rfl (by rw [cellsOf_len, List.length_drop]) (fun hm => ⟨⟨b, k * 2, none⟩, if_neg (by omega), cellsOf_src fun i hi => ⟨(cellB hbA hbw).trans (fnPut_src HCL.out k i hi).1, (cellB hbA hbw).trans (fnPut_src HCL.out k i hi).2⟩⟩) (cellsOf_one fun p hp => HONE.out p (List.mem_of_mem_drop hp)) (by omega) (by decide) (by simp) ?_
     intro v7 w7 hown7 hg7 hb7
     obtain ⟨g7, c7, rfl, hc7, hg7b, hg7l⟩ := own_shape hown7 (by omega)
     have hbq7 : Below wq2.heap.size wq2 w7 := ((bD (w := wq2)).alloc (by simp) _).grown hg7 (by simp) (fun q hq => by cases hq; exact Nat.le_refl _)
     have hB7 : Below w.heap.size w w7 := bthen hbq hbq7
     have hz7 := hbq7.size
     have HO7 : Hid (w7.ownsRow wq2.heap.size 44 2 (.slice (some ⟨g7, 0, none⟩) (1 + (L.length - k)) c7) (1 + (L.length - k)) (cellsOf ar ((.slice xa xt.length xc, xt) :: L.drop k))) := hown7
     clear hown1 hown7 hg7 hb7 hHeld z0 z1 hbA
     refine hK.out _ _ ?_
     clear hK K
     refine wpAnyT_last (i := 6) rfl (by kernel_rfl) (by kernel_rfl) (fun K hK => ?_)
     go_simp
     refine hK.out _ _ ?_
     clear hK K
     refine wpAnyT_done (by kernel_rfl) ?_ _
     go_simp
     have hown8 : (w7.alloc (.cells #[] 44)).ownsRow w7.heap.size 44 2 (.slice (some ⟨w7.heap.size, 0, none⟩) 0 0) 0 [] := World.ownsRow_lit w7 #[] 0 (Nat.le_refl _) (by decide) rfl
     have hB8 : Below w.heap.size w (w7.alloc (.cells #[] 44)) := hB7.alloc hB7.size _
     have H8 : Hid (∀ (v8 : Value) (w8 : World) (c0 : List Value), w8.ownsRow w7.heap.size 44 2 v8 (0 + k) c0 → (w7.alloc (.cells #[] 44)).grownBy w8 (some w7.heap.size) → w7.heap.size + 1 ≤ w8.heap.size ∧ Below w7.heap.size w7 w8 ∧ ∀ q, v8.ownBlock = some q → w7.heap.size ≤ q) := fun v8 w8 c0 h1 h2 => ⟨(by have := h2.size; rw [World.size_alloc] at this; exact this), (bA (w := w7)).grown h2 (by simp) (fun q hq => Nat.le_of_eq (Option.some.inj hq)), fun q hq => (h1.lt q hq).1⟩
     go_wp2_with (first | (at_builtin; refine wpList_pushRow _ rfl (.tmp 45) (.tmp 48) 30 44 rfl elOpS (base := w7.heap.size) rfl hown8 (m := k) (news := cellsOf ar (L.take k)) rfl (by rw [cellsOf_len, List.length_take]; omega) (fun hm => ⟨⟨b, 0, none⟩, rfl, cellsOf_src fun i hi => ⟨(cellB hB8 hbw).trans (take_src HCL.out k i hi).1, (cellB hB8 hbw).trans (take_src HCL.out k i hi).2⟩⟩) (cellsOf_one fun p hp => HONE.out p (List.mem_of_mem_take hp)) (by omega) (by decide) (by simp) ?_; intro v8 w8 hown8' hg8 hb8; have HO8 := Lib.hid hown8'; obtain ⟨hs8, hbw8, hv8⟩ := H8.out v8 w8 _ hown8' hg8; have HV8 := Lib.hid hv8; clear hown8' hg8 hb8 hv8) | (at_builtin; refine wpList_pushRow _ rfl (.tmp 49) (.tmp 50) 30 44 rfl elOpS (base := w7.heap.size) rfl HO8.out (m := 1 + (L.length - k)) (news := cellsOf ar ((.slice xa xt.length xc, xt) :: L.drop k)) rfl (by rw [cellsOf_len, List.length_cons, List.length_drop]; omega) (fun hm => ⟨⟨g7, 0, none⟩, rfl, fun j u hj => by rw [add_atO, Nat.zero_add]; have hc7' := HO7.out.cells (g := g7) rfl j u hj; rw [add_atO, Nat.zero_add] at hc7'; exact (cellB hbw8 hg7l).trans hc7'⟩) (cellsOf_one fun p hp => (List.mem_cons.1 hp).elim (fun e => by rw [e]; rfl) (fun hp => HONE.out p (List.mem_of_mem_drop hp))) (by omega) (by decide) (by omega) ?_; intro v9 w9 hown9 hg9 hb9))
     all_goals
      go_ret2
      have hl9 : 0 + k + (1 + (L.length - k)) = (putL L k (.slice xa xt.length xc, xt)).length := by rw [putL_len]; omega
      have hc9 : [] ++ cellsOf ar (L.take k) ++ cellsOf ar ((.slice xa xt.length xc, xt) :: L.drop k) = cellsOf ar (putL L k (.slice xa xt.length xc, xt)) := by rw [List.nil_append, ← cellsOf_app]; rfl
      rw [hl9, hc9] at hown9
      obtain ⟨g9, c9, hv9, -, -, -⟩ := own_shape hown9 (by rw [putL_len]; omega)
      have hb9w : Below w7.heap.size w8 w9 := (Below.refl _ w8).grown hg9 (by omega) (fun q hq => HV8.out q hq)
      have hBf : Below w.heap.size w w9 := bthen hB7 (hbw8.trans hb9w)
      refine ⟨hBf, .inr ⟨PutN HP.out HLT.out HGT.out, v9, k, rfl, OpL.of_own hown9 ⟨g9, c9, hv9⟩ (by omega) (fun g hg p hp hm => ?_) ((HS.out.perm putL_perm).below hBf) (fun p hp => ?_), putL_pw HP.out HLT.out HGT.out⟩⟩
      ·have h1 := (HS.out.2 p (putL_perm.mem_iff.1 hp) g hm).2.1
       have h2 := (hown9.lt g hg).1
       omega
      ·rcases List.mem_cons.1 (putL_perm.mem_iff.1 hp) with e | e
       ·rw [e]; exact HX.out.below hBf
       ·exact (H.out.rd p e).below hBf
  ·have hd : decide ((k : Int) < (L.length : Int)) = false := by simp; omega
   have hd' : decide (k < L.length) = false := by simp; omega
   go_wp2_with fail
   go_quiet (fail)
   go_wp2_with fail
   go_quiet (fail)
   generalize hwq2 : World.drewN _ _ = wq2
   have hqq2 : Quiet wr wq2 := by rw [← hwq2]; exact (by first | exact Quiet.refl _ | exact Quiet.drewN _ _ | exact (Quiet.drewN _ _).then (Quiet.drewN _ _) | exact ((Quiet.drewN _ _).then (Quiet.drewN _ _)).then (Quiet.drewN _ _))
   clear hwq2
   replace z0 := (cellB hqq2.below (by have := hqb.size; omega)).trans z0
   replace z1 := (cellB hqq2.below (by have := hqb.size; omega)).trans z1
   have hbq : Below w.heap.size w wq2 := bthen hbwr hqq2.below
   have hsq : w.heap.size + 1 ≤ wq2.heap.size := by have := hqb.size; have := hqq2.below.size; omega
   have HGT : Hid (∀ hk : k < L.length, ltL xt (L[k]).2) := fun h => absurd h hkl
   clear hqq2
   go_wp2_with fail
   have hk1 : (k : Int) ≤ (L.length : Int) := by omega
   have hk2 : (0 : Int) ≤ (k : Int) := by omega
   have hk3 : (k : Int) ≤ (cap : Int) := by omega
   refine wp_region_T (fun w' => w'.cell? ⟨w.heap.size, 0, none⟩ = some (.int .i64 ar) ∧ w'.cell? ⟨w.heap.size, 1, none⟩ = some (.slice xa xt.length xc)) [5, 6] (by kernel_rfl) ⟨z0, z1⟩ (fun hHeld => ?_)
   refine wpAnyT_take (i := 0) (v := ?_) rfl (by kernel_rfl) (fun _ _ _ h => h) (Or.inl ⟨by rfl, ?_⟩) (by assumption) ?_
   rotate_left
   ·(intro w hSw; (try dsimp only at hSw); go_simp <;> with_reducible rfl)
   go_simp
   refine wpAnyT_take (i := 2) (v := ?_) rfl (by kernel_rfl) (fun _ _ _ h => h) (Or.inl ⟨by rfl, ?_⟩) (by assumption) ?_
   rotate_left
   ·(intro w hSw; (try dsimp only at hSw); go_simp <;> with_reducible rfl)
   go_simp
   refine wpAnyT_take (i := 3) (v := ?_) rfl (by kernel_rfl) (fun _ _ _ h => h) (Or.inl ⟨by rfl, ?_⟩) (by assumption) ?_
   rotate_left
   ·(intro w hSw; (try dsimp only at hSw); go_simp <;> with_reducible rfl)
   go_simp
   refine wpAnyT_take (i := 4) (v := ?_) rfl (by kernel_rfl) (fun _ _ _ h => h) (Or.inl ⟨by rfl, ?_⟩) (by assumption) ?_
   rotate_left
   ·(intro w hSw; (try dsimp only at hSw); go_simp <;> with_reducible rfl)
   go_simp
   refine wpAnyT_one (i := 1) rfl (by kernel_rfl) (fun K hK => ?_)
   go_simp
   refine hK.out _ _ ⟨by go_keep, by go_keep⟩ (fun hHeld => ?_)
   clear hK K
   refine wpAnyT_last (i := 5) rfl (by kernel_rfl) (by kernel_rfl) (fun K hK => ?_)
   have hbA : Below w.heap.size w (wq2.drew.alloc (.cells #[.int .i64 ar, .slice xa xt.length xc] 44)) := (bDN (n := 1) hbq).alloc (by show w.heap.size ≤ wq2.heap.size; omega) _
   have hown1 : (wq2.drew.alloc (.cells #[.int .i64 ar, .slice xa xt.length xc] 44)).ownsRow wq2.heap.size 44 2 (.slice (some ⟨wq2.heap.size, 0, none⟩) 1 1) 1 [.int .i64 ar, .slice xa xt.length xc] := World.ownsRow_lit wq2.drew #[.int .i64 ar, .slice xa xt.length xc] 1 (Nat.le_refl _) (by decide) rfl
   refine step_pushRow _ rfl _ _ 30 44 rfl elOpS (base := wq2.heap.size) rfl hown1 (m := L.length - k) (news := cellsOf ar (L.drop k)) rfl (by rw [cellsOf_len, List.length_drop]) (fun hm => ⟨⟨b, k * 2, none⟩, if_neg (by omega), cellsOf_src fun i hi => ⟨(cellB hbA hbw).trans (fnPut_src HCL.out k i hi).1, (cellB hbA hbw).trans (fnPut_src HCL.out k i hi).2⟩⟩) (cellsOf_one fun p hp => HONE.out p (List.mem_of_mem_drop hp)) (by omega) (by decide) (by simp) ?_
   intro v7 w7 hown7 hg7 hb7
   obtain ⟨g7, c7, rfl, hc7, hg7b, hg7l⟩ := own_shape hown7 (by omega)
   have hbq7 : Below wq2.heap.size wq2 w7 := ((bD (w := wq2)).alloc (by simp) _).grown hg7 (by simp) (fun q hq => by cases hq; exact Nat.le_refl _)
   have hB7 : Below w.heap.size w w7 := bthen hbq hbq7
   have hz7 := hbq7.size
   have HO7 : Hid (w7.ownsRow wq2.heap.size 44 2 (.slice (some ⟨g7, 0, none⟩) (1 + (L.length - k)) c7) (1 + (L.length - k)) (cellsOf ar ((.slice xa xt.length xc, xt) :: L.drop k))) := hown7
   clear hown1 hown7 hg7 hb7 hHeld z0 z1 hbA
   refine hK.out _ _ ?_
   clear hK K
   refine wpAnyT_last (i := 6) rfl (by kernel_rfl) (by kernel_rfl) (fun K hK => ?_)
   go_simp
   refine hK.out _ _ ?_
   clear hK K
   refine wpAnyT_done (by kernel_rfl) ?_ _
   go_simp
   have hown8 : (w7.alloc (.cells #[] 44)).ownsRow w7.heap.size 44 2 (.slice (some ⟨w7.heap.size, 0, none⟩) 0 0) 0 [] := World.ownsRow_lit w7 #[] 0 (Nat.le_refl _) (by decide) rfl
   have hB8 : Below w.heap.size w (w7.alloc (.cells #[] 44)) := hB7.alloc hB7.size _
   have H8 : Hid (∀ (v8 : Value) (w8 : World) (c0 : List Value), w8.ownsRow w7.heap.size 44 2 v8 (0 + k) c0 → (w7.alloc (.cells #[] 44)).grownBy w8 (some w7.heap.size) → w7.heap.size + 1 ≤ w8.heap.size ∧ Below w7.heap.size w7 w8 ∧ ∀ q, v8.ownBlock = some q → w7.heap.size ≤ q) := fun v8 w8 c0 h1 h2 => ⟨(by have := h2.size; rw [World.size_alloc] at this; exact this), (bA (w := w7)).grown h2 (by simp) (fun q hq => Nat.le_of_eq (Option.some.inj hq)), fun q hq => (h1.lt q hq).1⟩
   go_wp2_with (first | (at_builtin; refine wpList_pushRow _ rfl (.tmp 45) (.tmp 48) 30 44 rfl elOpS (base := w7.heap.size) rfl hown8 (m := k) (news := cellsOf ar (L.take k)) rfl (by rw [cellsOf_len, List.length_take]; omega) (fun hm => ⟨⟨b, 0, none⟩, rfl, cellsOf_src fun i hi => ⟨(cellB hB8 hbw).trans (take_src HCL.out k i hi).1, (cellB hB8 hbw).trans (take_src HCL.out k i hi).2⟩⟩) (cellsOf_one fun p hp => HONE.out p (List.mem_of_mem_take hp)) (by omega) (by decide) (by simp) ?_; intro v8 w8 hown8' hg8 hb8; have HO8 := Lib.hid hown8'; obtain ⟨hs8, hbw8, hv8⟩ := H8.out v8 w8 _ hown8' hg8; have HV8 := Lib.hid hv8; clear hown8' hg8 hb8 hv8) | (at_builtin; refine wpList_pushRow _ rfl (.tmp 49) (.tmp 50) 30 44 rfl elOpS (base := w7.heap.size) rfl HO8.out (m := 1 + (L.length - k)) (news := cellsOf ar ((.slice xa xt.length xc, xt) :: L.drop k)) rfl (by rw [cellsOf_len, List.length_cons, List.length_drop]; omega) (fun hm => ⟨⟨g7, 0, none⟩, rfl, fun j u hj => by rw [add_atO, Nat.zero_add]; have hc7' := HO7.out.cells (g := g7) rfl j u hj; rw [add_atO, Nat.zero_add] at hc7'; exact (cellB hbw8 hg7l).trans hc7'⟩) (cellsOf_one fun p hp => (List.mem_cons.1 hp).elim (fun e => by rw [e]; rfl) (fun hp => HONE.out p (List.mem_of_mem_drop hp))) (by omega) (by decide) (by omega) ?_; intro v9 w9 hown9 hg9 hb9))
   all_goals
    go_ret2
    have hl9 : 0 + k + (1 + (L.length - k)) = (putL L k (.slice xa xt.length xc, xt)).length := by rw [putL_len]; omega
    have hc9 : [] ++ cellsOf ar (L.take k) ++ cellsOf ar ((.slice xa xt.length xc, xt) :: L.drop k) = cellsOf ar (putL L k (.slice xa xt.length xc, xt)) := by rw [List.nil_append, ← cellsOf_app]; rfl
    rw [hl9, hc9] at hown9
    obtain ⟨g9, c9, hv9, -, -, -⟩ := own_shape hown9 (by rw [putL_len]; omega)
    have hb9w : Below w7.heap.size w8 w9 := (Below.refl _ w8).grown hg9 (by omega) (fun q hq => HV8.out q hq)
    have hBf : Below w.heap.size w w9 := bthen hB7 (hbw8.trans hb9w)
    refine ⟨hBf, .inr ⟨PutN HP.out HLT.out HGT.out, v9, k, rfl, OpL.of_own hown9 ⟨g9, c9, hv9⟩ (by omega) (fun g hg p hp hm => ?_) ((HS.out.perm putL_perm).below hBf) (fun p hp => ?_), putL_pw HP.out HLT.out HGT.out⟩⟩
    ·have h1 := (HS.out.2 p (putL_perm.mem_iff.1 hp) g hm).2.1
     have h2 := (hown9.lt g hg).1
     omega
    ·rcases List.mem_cons.1 (putL_perm.mem_iff.1 hp) with e | e
     ·rw [e]; exact HX.out.below hBf
     ·exact (H.out.rd p e).below hBf
end Go.Proofs.YtggelmbnliajeaaGreatDoor
namespace Go.Proofs.YtggelmbnliajeaaGreatDoor
open Go.RowKit Go.Sort
set_option maxHeartbeats 6400000 in
set_option maxRecDepth 100000 in
theorem l02Compose_any (w : World) {fv : Value} {f : Int × List Int} (h : opT.Pt w fv f) {v : Value} {ts : List (List Int)} {ar : Int} (h' : opsT.Rd w [v] (ts.map fun t => (ar, t))) {s : Int} {m : Nat} (hf : opOk s f) (ht : tupsOk s f.1 m ts) (hm : m ≤ 1000) :
  Calls Tryz.prog 134 #[.int .i64 s, fv, v] w (RetA opT w (ar, madeL s f.2 ts m)) := by
 obtain ⟨ad, cap, hvv, -, hL, hcell⟩ := pairs_ex h'
 obtain rfl : v = _ := by simpa using hvv
 have hn : (ts.length : Int) = f.1 := ht.1
 have hs := hf.1
 have ha := hf.2.1
 unfold sizeOk at hs
 have h0 : 0 < ts.length := by omega
 have hml : (ts.map fun t => (ar, t)).length = ts.length := List.length_map ..
 obtain ⟨b, o, rfl, hb, hce⟩ := hcell (by rw [hml]; exact h0)
 have HC : Hid (∀ i (h : i < ts.length), ∃ u, intsT.Rd w [u] ts[i] ∧ I64 ar ∧ w.cell? ⟨b, o + i * 2, none⟩ = some (.int .i64 ar) ∧ w.cell? ⟨b, o + i * 2 + 1, none⟩ = some u) := fun i hi => by
  obtain ⟨u, h1, h2, h3, h4⟩ := hce i (by rw [hml]; exact hi)
  rw [List.getElem_map] at h1 h2 h3
  exact ⟨u, h1, h2, h3, h4⟩
 obtain ⟨u0, hu0, hI0, hc0, hc1⟩ := HC.out 0 h0
 obtain ⟨a0, c0, rfl⟩ := rd_slice hu0
 have hm0 : (ts[0]).length = m := (ht.2 _ (List.getElem_mem h0)).1
 rw [hm0] at hc1
 have hc0' : w.cell? ⟨b, o, none⟩ = some (.int .i64 ar) := by simpa using hc0
 have hc1' : w.cell? ⟨b, o + 1, none⟩ = some (.slice a0 m c0) := by simpa using hc1
 have HF := Lib.hid hf
 have HT := Lib.hid ht
 have HP := Lib.hid h
 have HI := Lib.hid hI0
 obtain ⟨fb, fo, _, _, rfl, -⟩ := pt_pair h
 clear h h' hvv hf ht hcell hce hu0 hc0 hc1 hI0 hml hm0
 go_enter Tryz.func134, Tryz.ntmps134
 go_wp2_with fail
 generalize hW : World.alloc (World.alloc w _) _ = W
 have hbW : Below w.heap.size w W := hW ▸ bAA
 have hsW : W.heap.size = w.heap.size + 2 := by rw [← hW]; simp
 have y0 : W.cell? ⟨w.heap.size + 1, 0, none⟩ = some (.int .i64 ar) := by rw [← hW]; simp [go_sem]
 have y1 : W.cell? ⟨w.heap.size + 1, 1, none⟩ = some (.slice none 0 0) := by rw [← hW]; simp [go_sem]
 have y2 : W.frozen? ⟨w.heap.size + 1, 1, none⟩ = false := by rw [← hW]; simp [go_sem]
 have r0 : W.cell? ⟨w.heap.size, 0, none⟩ = some (.int .i64 0) := by rw [← hW]; simp [go_sem]
 have r1 : W.cell? ⟨w.heap.size, 1, none⟩ = some (.slice none 0 0) := by rw [← hW]; simp [go_sem]
 have r2 : W.frozen? ⟨w.heap.size, 0, none⟩ = false := by rw [← hW]; simp [go_sem]
 have r3 : W.frozen? ⟨w.heap.size, 1, none⟩ = false := by rw [← hW]; simp [go_sem]
 clear hW
 go_loopw [8] (fun i wr => ∃ (p : Nat) (q : Value), p ≤ m ∧ i = .int .i64 p ∧ Bl Ty.int 2 (w.heap.size + 2) wr.heap.size wr q (madeL s f.2 ts p) ∧ wr.cell? ⟨w.heap.size + 1, 1, none⟩ = some q ∧ wr.cell? ⟨w.heap.size + 1, 0, none⟩ = some (.int .i64 ar) ∧ wr.frozen? ⟨w.heap.size + 1, 1, none⟩ = false ∧ Below (w.heap.size + 1) W wr ∧ w.heap.size + 2 ≤ wr.heap.size) (fun i _ => m - (intOf i).toNat)
 case atStart => exact ⟨0, _, Nat.zero_le _, rfl, by simpa [madeL] using Bl.nil, y1, y0, y2, Below.refl _ _, by omega⟩
 case round =>
  obtain ⟨p, q, hp, rfl, hBv, z1, z0, z2, hbe, hse⟩ := hrel
  obtain ⟨wo, rfl⟩ : ∃ wo : World, wo = wr := ⟨_, rfl⟩
  have hbel : Below w.heap.size w wo := hbW.trans (hbe.mono (by omega))
  have hlq : (madeL s f.2 ts p).length = p := madeL_len
  obtain ⟨av0, nv0, cv0, rfl⟩ := sl_ex (hBv.fr (by rw [hlq]; unfold capMax; omega))
  have HB := Lib.hid hBv
  have d0 := (cellB hbel hb).trans hc0'
  have d1 := (cellB hbel hb).trans hc1'
  clear hBv y0 y1 y2 hlq
  by_cases hpl : p < m
  ·obtain ⟨kk, hkk, hkl2, hmv⟩ := madeV_get HF.out HT.out hpl
   have HKK := Lib.hid hkk
   have HMV := Lib.hid hmv
   clear hkk hmv
   go_wp2_with fail
   go_loopw [10, 9] (fun i q wr => ∃ k : Nat, k ≤ ts.length ∧ i = .int .i64 k ∧ Bl Ty.int 2 wo.heap.size wr.heap.size wr q ((colL ts p).take k) ∧ Below wo.heap.size wo wr) (fun i _ _ => ts.length - (intOf i).toNat)
   case atStart => exact ⟨0, Nat.zero_le _, rfl, by simpa using Bl.lit0 (E := Ty.int) (e := 2) (w := wo) (Nat.le_refl _), bA⟩
   case round =>
    obtain ⟨k, hk, rfl, hBi, hbi⟩ := hrel
    have HBi := Lib.hid hBi
    have hbw : Below w.heap.size w wr := bthen hbel hbi
    have hsi := hbi.size
    clear hBi d0 d1
    by_cases hkl : k < ts.length
    ·obtain ⟨uk, huk, -, -, hck⟩ := HC.out k hkl
     obtain ⟨ak, ck, huv, -, -, hkc⟩ := ints_ex huk
     obtain rfl : uk = _ := by simpa using huv
     have hlk : (ts[k]).length = m := (HT.out.2 _ (List.getElem_mem hkl)).1
     obtain ⟨bk, ok, rfl, hbk, hkce⟩ := hkc (by omega)
     have e0 := (cellB hbw hb).trans hck
     have e1 := (cellB hbw hbk).trans (hkce p (by omega)).2
     have hI1 := (hkce p (by omega)).1
     have hpk : p < (ts[k]).length := by omega
     have hcl : k < (colL ts p).length := by rw [colL_len]; exact hkl
     have HTK : Hid ((colL ts p).take k ++ [(ts[k])[p]] = (colL ts p).take (k + 1)) := by
      unfold Hid
      rw [← colL_get hkl hpk hcl]; exact take_snoc hcl
     clear hkc hkce huv huk hck
     go_wp2_with (refine wpList_push (E := Ty.int) _ rfl _ _ 42 2 rfl elInt rfl (HBi.out.below bA (Nat.le_refl _)) rfl news1 (fr_int hI1) (by rw [List.length_take]; omega) (by decide) hsi (by simp) ?_; intro v1 w3 hB3 hg1 _)
     have hbel1 : Below wo.heap.size wo w3 := (hbi.alloc hbi.size _).grown hg1 (by simp; omega) (fun k hk => HBi.out.own hk)
     rw [HTK.out] at hB3
     have HB3 := Lib.hid hB3
     clear hB3
     go_wp2_with fail
     go_roundw
     case rel => exact ⟨k + 1, by omega, by go_num, HB3.out, hbel1⟩
     case measure => simp [intOf]; omega
    ·obtain rfl : k = ts.length := by omega
     have hfi := HBi.out.fr (by rw [List.length_take]; unfold capMax; omega)
     rw [List.take_of_length_le (by rw [colL_len]; exact Nat.le_refl _)] at hfi
     obtain ⟨aq, nq, cq, rfl⟩ := sl_ex hfi
     have HQ := Lib.hid hfi.rd
     have HIN := Lib.hid (colL_in HT.out hpl)
     have hl5 : (colL ts p).length ≤ 5 := by rw [colL_len]; omega
     obtain ⟨wi, rfl⟩ : ∃ wi : World, wi = wr := ⟨_, rfl⟩
     have hI4 : I64 f.2[kk] := I64.small (by have := HF.out.2.2.2 _ (List.getElem_mem hkl2); omega) (by have := HF.out.2.2.2 _ (List.getElem_mem hkl2); omega)
     have HY : Hid (madeL s f.2 ts p ++ [f.2[kk]] = madeL s f.2 ts (p + 1)) := by unfold Hid; rw [← HMV.out, madeL_succ]
     have HLV : Hid (∀ X, Below wi.heap.size wi X → Calls Tryz.prog 135 #[.int .i64 s, .pointer (some ⟨fb, fo, none⟩), .slice aq nq cq] X fun e w' => e = .returned (.int .i64 f.2[kk]) ∧ Quiet X w') := fun X hX => l02Value_quiet X ((HP.out.below hbw).below hX) (HQ.out.below hX) (by omega) (by omega) hl5 HIN.out HKK.out hkl2
     generalize f.2[kk] = fk at hI4 HY HLV
     replace z1 := (cellB hbi (show w.heap.size + 1 < wo.heap.size by omega)).trans z1
     replace z0 := (cellB hbi (show w.heap.size + 1 < wo.heap.size by omega)).trans z0
     replace z2 := (frozenB hbi (show w.heap.size + 1 < wo.heap.size by omega)).trans z2
     clear hfi HMV
     go_wp2_with fail
     refine wp_region_T (fun w' => w'.cell? ⟨w.heap.size + 1, 1, none⟩ = some (.slice av0 nv0 cv0)) [7, 9] (by kernel_rfl) z1 (fun hHeld => ?_)
     refine wpAnyT_take (i := 0) (v := ?_) rfl (by kernel_rfl) (fun _ _ _ h => h) (Or.inl ⟨by rfl, ?_⟩) (by assumption) ?_
     rotate_left
     ·(intro w hSw; (try dsimp only at hSw); go_simp <;> with_reducible rfl)
     go_simp
     refine wpAnyT_take (i := 1) (v := ?_) rfl (by kernel_rfl) (fun _ _ _ h => h) (Or.inl ⟨by rfl, ?_⟩) (by assumption) ?_
     rotate_left
     ·(intro w hSw; (try dsimp only at hSw); go_simp <;> with_reducible rfl)
     go_simp
     refine wpAnyT_take (i := 2) (v := ?_) rfl (by kernel_rfl) (fun _ _ _ h => h) (Or.inl ⟨by rfl, ?_⟩) (by assumption) ?_
     rotate_left
     ·(intro w hSw; (try dsimp only at hSw); go_simp <;> with_reducible rfl)
     go_simp
     refine wpAnyT_take (i := 3) (v := ?_) rfl (by kernel_rfl) (fun _ _ _ h => h) (Or.inl ⟨by rfl, ?_⟩) (by assumption) ?_
     rotate_left
     ·(intro w hSw; (try dsimp only at hSw); go_simp <;> with_reducible rfl)
     go_simp
     refine wpAnyT_take (i := 4) (v := ?_) rfl (by kernel_rfl) (fun _ _ _ h => h) (Or.inl ⟨by rfl, ?_⟩) (by assumption) ?_
     rotate_left
     ·(intro w hSw; (try dsimp only at hSw); go_simp <;> with_reducible rfl)
     go_simp
     refine wpAnyT_one (i := 5) rfl (by kernel_rfl) (fun K hK => ?_)
     go_simp
     refine (HLV.out wi.drew bD).mono ?_
     rintro e w4 ⟨rfl, hq4⟩
     have hb4 : Below wi.heap.size wi w4 := bthen bD hq4.below
     have hz4 := hb4.size
     have f1 := (cellB hb4 (show w.heap.size + 1 < wi.heap.size by omega)).trans z1
     have f2 := (cellB hb4 (show w.heap.size + 1 < wi.heap.size by omega)).trans z0
     have f3 := (frozenB hb4 (show w.heap.size + 1 < wi.heap.size by omega)).trans z2
     clear hq4 hHeld
     dsimp only
     refine hK.out _ _ f1 (fun hHeld => ?_)
     clear hK K
     refine wpAnyT_one (i := 6) rfl (by kernel_rfl) (fun K hK => ?_)
     go_simp
     refine hK.out _ _ (by go_keep) (fun hHeld => ?_)
     clear hK K
     refine wpAnyT_last (i := 7) rfl (by kernel_rfl) (by kernel_rfl) (fun K hK => ?_)
     have hbo4 : Below wo.heap.size wo w4 := bthen hbi hb4
     refine step_push (E := Ty.int) _ rfl _ _ 42 2 rfl elInt rfl (HB.out.below (hbo4.alloc hbo4.size _) (Nat.le_refl _)) rfl news1 (fr_int hI4) (by rw [madeL_len]; omega) (by decide) hse (by simp; omega) ?_
     intro v5 w5 hB5 hg5 _
     rw [HY.out] at hB5
     have hb5 : Below (w.heap.size + 2) w4 w5 := ((Below.refl _ w4).alloc (by omega) _).grown hg5 (by simp; omega) (fun q hq => HB.out.own hq)
     have i1 := (cellB hb5 (by omega)).trans f1
     have i2 := (cellB hb5 (by omega)).trans f2
     have i3 := (frozenB hb5 (by omega)).trans f3
     have hz5 := hb5.size
     have HB5 := Lib.hid hB5
     obtain ⟨a5, n5, c5, rfl⟩ := sl_ex (hB5.fr (by rw [madeL_len]; unfold capMax; omega))
     clear hB5 hg5 f1 f2 f3
     refine hK.out _ _ ?_
     clear hK K
     refine wpAnyT_any (i := 8) (v := ?_) rfl (by kernel_rfl) (fun _ _ _ h => h) (Or.inl ⟨by rfl, ?_⟩) (by first | exact fun _ => by assumption | (intro hp; exact absurd hp (by rw [show pastB _ _ = true by kernel_rfl]; simp))) ?_
     rotate_left
     ·(intro w hSw; (try dsimp only at hSw); go_simp <;> with_reducible rfl)
     try simp only [Act.put]
     refine wpAnyT_last (i := 9) rfl (by kernel_rfl) (by kernel_rfl) (fun K hK => ?_)
     go_simp
     refine hK.out _ _ ?_
     clear hK K
     refine wpAnyT_done (by kernel_rfl) ?_ _
     go_simp
     go_wp2_with fail
     go_roundw
     case rel => exact ⟨p + 1, _, by omega, by go_num, by rw [size_set]; exact HB5.out.sameB (fun q hq1 hq2 => Below.heap_setCell _ _ _ _ (by simp; omega)), World.cell?_setCell_same _ _ _ i1, (World.cell?_setCell_other _ _ _ _ (by simp)).trans i2, (World.frozen?_setCell _ _ _ _).trans i3, (hbe.trans ((hbo4.mono (by omega)).trans (hb5.mono (by omega)))).setCell (by simp) _, by rw [size_set]; omega⟩
     case measure => simp [intOf]; omega
  ·obtain rfl : p = m := by omega
   have HFR := Lib.hid (HB.out.fr (by rw [madeL_len]; unfold capMax; omega))
   have q0 := (cellB hbe (by omega)).trans r0
   have q1 := (cellB hbe (by omega)).trans r1
   have q2 := (frozenB hbe (by omega)).trans r2
   have q3 := (frozenB hbe (by omega)).trans r3
   obtain ⟨g0, g1⟩ := set2_cells (x := .int .i64 ar) (y := .slice av0 nv0 cv0) q0 q1
   clear HB
   go_wp2_with fail
   refine bodyPost_ret (v := .agg #[.int .i64 ar, .slice av0 nv0 cv0]) (by simp [results, Tryz.results134, go_sem, g0, g1]) rfl ⟨[.int .i64 ar, .slice av0 nv0 cv0], rfl, ?_, ?_⟩
   ·exact (fr_set2 (fr_cons HI.out HFR.out) (by omega)).mono (by omega)
   ·exact (hbel.setCell (by simp) _).setCell (by simp) _
end Go.Proofs.YtggelmbnliajeaaGreatDoor
namespace Go.Proofs.YtggelmbnliajeaaGreatDoor
open Go.RowKit Go.Sort
/-- the list while compositions come in -/
structure RndS (base : Nat) (ar s : Int) (ops : List (Int × List Int)) (N : Nat) (T : List (List Int)) (L : List PV) (wr : World) (b : Bool) (v1 : Value) (L1 : List PV) : Prop where
 op : OpL base ar wr v1 L1
 pw : (L1.map (·.2)).Pairwise ltL
 cl : ∀ p ∈ L1, Clo s ops N T p.2
 sub : ∀ l ∈ L.map (·.2), l ∈ L1.map (·.2)
 no : b = false → L1.map (·.2) = L.map (·.2)
 yes : b = true → L.length < L1.length
 le : L.length ≤ L1.length
section
variable {base : Nat} {ar s : Int} {ops : List (Int × List Int)} {N : Nat} {T : List (List Int)} {L L1 : List PV} {wr wr' : World} {b : Bool} {v1 v2 : Value}
theorem RndS.below (h : RndS base ar s ops N T L wr b v1 L1) (hb : Below wr.heap.size wr wr') : RndS base ar s ops N T L wr' b v1 L1 := { h with op := h.op.below hb }
theorem RndS.put {x : PV} {k : Nat} (h : RndS base ar s ops N T L wr b v1 L1) (ho : OpL base ar wr' v2 (putL L1 k x)) (hp : ((putL L1 k x).map (·.2)).Pairwise ltL) (hc : Clo s ops N T x.2) : RndS base ar s ops N T L wr' true v2 (putL L1 k x) where
 op := ho
 pw := hp
 cl := fun p hp => (List.mem_cons.1 (putL_perm.mem_iff.1 hp)).elim (fun e => by rw [e]; exact hc) (h.cl p)
 sub := fun l hl => by
  obtain ⟨p, hp, rfl⟩ := List.mem_map.1 (h.sub l hl)
  exact List.mem_map.2 ⟨p, putL_perm.mem_iff.2 (List.mem_cons_of_mem _ hp), rfl⟩
 no := fun h => by cases h
 yes := fun _ => by rw [putL_len]; have := h.le; omega
 le := by rw [putL_len]; have := h.le; omega
end
/-- what a round answers -/
def RndR (base : Nat) (ar s : Int) (ops : List (Int × List Int)) (N : Nat) (T : List (List Int)) (L : List PV) (w : World) (e : Ending) (w' : World) : Prop :=
 Below w.heap.size w w' ∧ ∃ (v' : Value) (b : Bool), (e = .returned (.tuple #[v', .bool b, .int .i64 3]) ∧ cloBig s ops N T) ∨
  (e = .returned (.tuple #[v', .bool b, .int .i64 0]) ∧ ∃ L1, RndS base ar s ops N T L w' b v' L1 ∧ L1.length ≤ 64 ∧ ∀ f ∈ ops, ∀ k : Nat, (k : Int) < ((L.map (·.2)).length : Int) ^ f.1.toNat → makes s f ((N : Int), L.map (·.2)) k ∈ L1.map (·.2))
/-- a list that a call hands back, as one more of the list's -/
theorem srf_cons {base : Nat} {w : World} {L : List PV} {tv : Value} {t : List Int} {B : Nat} (h : SRf base w L) (hB : ∀ p ∈ L, ∀ k ∈ bkV p.1, k < B) (hf : intsT.Fr B w [tv] t) (hb : base ≤ B) : SRf base w ((tv, t) :: L) := by
 obtain ⟨fp, h1, h2, h3, h4⟩ := hf
 rw [bkV_ints h1] at h2 h3 h4
 have hlt : ∀ k ∈ bkV tv, k < w.heap.size := fun k hk => intsT.lt h1 k (by rw [bkV_ints h1]; exact hk)
 refine ⟨?_, fun p hp k hk => ?_⟩
 ·rw [List.flatMap_cons]
  refine List.nodup_append.2 ⟨h2, h.1, fun a ha c hc e => ?_⟩
  subst e
  obtain ⟨p, hp, hk⟩ := List.mem_flatMap.1 hc
  have := hB p hp a hk
  have := h3 a ha
  omega
 ·rcases List.mem_cons.1 hp with rfl | hp
  ·exact ⟨Nat.le_trans hb (h3 k hk), hlt k hk, fun o => h4 k hk o⟩
  ·exact h.2 p hp k hk
set_option maxHeartbeats 6400000 in
set_option maxRecDepth 100000 in
theorem l02Round_any (w : World) {base : Nat} {ar s : Int} {v : Value} {L : List PV} (h : OpL base ar w v L) (hP : (L.map (·.2)).Pairwise ltL) (hL : 1 ≤ L.length ∧ L.length ≤ 64) {ops : List (Int × List Int)} {vo : Value} (hops : opsT.Rd w [vo] ops) (ho : ∀ f ∈ ops, opOk s f) (hs : sizeOk s) (hI : I64 ar) {N : Nat} (hN : N ≤ 64) {T : List (List Int)} (hT : ∀ l ∈ T, tupP s N l) (hcl : ∀ p ∈ L, Clo s ops N T p.2) (hB : base ≤ w.heap.size) :
  Calls Tryz.prog 87 #[.int .i64 s, vo, v] w (RndR base ar s ops N T L w) := by
 obtain ⟨oad, ocap, hov, -, hol, hoc⟩ := pairs_ex hops
 obtain rfl : vo = _ := by simpa using hov
 obtain ⟨lb, lcap, rfl, hlc, hlb, hlw, -, -, hcell⟩ := h.row
 have H := Lib.hid h
 have HP := Lib.hid hP
 have HO := Lib.hid ho
 have HOC := Lib.hid hoc
 have HOPS := Lib.hid hops
 have HT := Lib.hid hT
 have HCL := Lib.hid hcl
 have HC := Lib.hid hcell
 have HI := Lib.hid hI
 have HRL : Hid ((L.map (·.2)).length = L.length) := List.length_map ..
 have HST : Hid (RndS base ar s ops N T L w false (.slice (some ⟨lb, 0, none⟩) L.length lcap) L) := ⟨h, hP, hcl, fun l hl => hl, fun _ => rfl, fun h => (by cases h), Nat.le_refl _⟩
 have hs4 : 1 ≤ s ∧ s ≤ 4 := hs
 clear h hP hops hov ho hoc hT hcl hcell hI hs
 go_enter Tryz.func87, Tryz.ntmps87
 go_wp2_with fail
 go_loopw [11, 10, 9] (fun i q v1 wr => ∃ (ii : Nat) (b : Bool) (L1 : List PV), ii ≤ ops.length ∧ i = .int .i64 ii ∧ q = .bool b ∧ RndS base ar s ops N T L wr b v1 L1 ∧ L1.length ≤ 64 ∧ (∀ j (hj : j < ops.length), j < ii → ∀ k : Nat, (k : Int) < ((L.map (·.2)).length : Int) ^ (ops[j]).1.toNat → makes s ops[j] ((N : Int), L.map (·.2)) k ∈ L1.map (·.2)) ∧ Below w.heap.size w wr) (fun i _ _ _ => ops.length - (intOf i).toNat)
 case atStart => exact ⟨0, false, L, Nat.zero_le _, rfl, rfl, HST.out, hL.2, fun j hj h => absurd h (Nat.not_lt_zero _), Below.refl _ _⟩
 case round =>
  obtain ⟨ii, b1, L1, hii, rfl, rfl, hS1, hL1, hd1, hb1⟩ := hrel
  obtain ⟨wv, rfl⟩ : ∃ wv : World, wv = wr := ⟨_, rfl⟩
  have HS1 := Lib.hid hS1
  have HD1 := Lib.hid hd1
  clear hS1 hd1 HST
  by_cases hil : ii < ops.length
  ·obtain ⟨ob, oo, rfl, hob, hoce⟩ := HOC.out (by omega)
   obtain ⟨tv, htv, hIf, hc0, hc1⟩ := hoce ii hil
   have e0 := (cellB hb1 hob).trans hc0
   have hfo : opOk s ops[ii] := HO.out _ (List.getElem_mem hil)
   have haf := hfo.2.1
   obtain ⟨af, haf2⟩ : ∃ af : Nat, (ops[ii]).1 = (af : Int) := ⟨(ops[ii]).1.toNat, by omega⟩
   have hafn : (ops[ii]).1.toNat = af := by omega
   have haf3 : 1 ≤ af ∧ af ≤ 3 := by omega
   rw [haf2] at e0 hc0
   have HMEM := Lib.hid (List.getElem_mem hil)
   have HPT : Hid (∀ X, Below w.heap.size w X → opT.Pt X (.pointer (some ⟨ob, oo + ii * 2, none⟩)) ops[ii]) := fun X hX => pt_elem (E := opT) (HOPS.out.below hX) hil
   have HDN : Hid (∀ L2 : List PV, (∀ l ∈ L1.map (·.2), l ∈ L2.map (·.2)) → (∀ k : Nat, (k : Int) < ((L.map (·.2)).length : Int) ^ af → makes s ops[ii] ((N : Int), L.map (·.2)) k ∈ L2.map (·.2)) → ∀ j (hj : j < ops.length), j < ii + 1 → ∀ k : Nat, (k : Int) < ((L.map (·.2)).length : Int) ^ (ops[j]).1.toNat → makes s ops[j] ((N : Int), L.map (·.2)) k ∈ L2.map (·.2)) := fun L2 h1 h2 j hj hlt k hk => by
    by_cases e : j = ii
    ·subst e; rw [hafn] at hk; exact h2 k hk
    ·exact h1 _ (HD1.out j hj (by omega) k hk)
   have HFO := Lib.hid hfo
   have HAF := Lib.hid haf2
   have HAFN := Lib.hid hafn
   have HC0 := Lib.hid hc0
   generalize ops[ii] = f at HFO HAF HAFN HMEM HPT HDN
   obtain ⟨Mf, hMf⟩ : ∃ Mf : Nat, (L.length : Int) ^ af = (Mf : Int) := ⟨((L.length : Int) ^ af).toNat, by have := pow_nn (s := (L.length : Int)) (by omega) af; omega⟩
   have HMF := Lib.hid hMf
   have hMle : (Mf : Int) ≤ 1000000000000000 := by rw [← hMf]; exact pow_le (by omega) (by omega) (by omega)
   clear hfo haf haf2 hafn hMf HD1 hoce htv hIf hc0 hc1
   go_wp2_with fail
   refine (l01Power_any _ (L.length : Int) (af : Int) (by omega) (by omega) (by omega)).mono ?_
   rintro e _ ⟨rfl, rfl⟩
   rw [Int.toNat_natCast, HMF.out]
   clear e0
   go_wp2_with fail
   go_loopw [14, 10, 9] (fun i q v2 wr => ∃ (k : Nat) (b : Bool) (L2 : List PV), k ≤ Mf ∧ i = .int .i64 k ∧ q = .bool b ∧ RndS base ar s ops N T L wr b v2 L2 ∧ L2.length ≤ 64 ∧ (∀ l ∈ L1.map (·.2), l ∈ L2.map (·.2)) ∧ (∀ k' : Nat, k' < k → makes s f ((N : Int), L.map (·.2)) k' ∈ L2.map (·.2)) ∧ Below w.heap.size w wr) (fun i _ _ _ => Mf - (intOf i).toNat)
   case atStart => exact ⟨0, b1, L1, Nat.zero_le _, by first | rfl | go_num, rfl, HS1.out, hL1, fun _ h => h, fun _ h => absurd h (Nat.not_lt_zero _), hb1⟩
   case round =>
    obtain ⟨k, b2, L2, hk, rfl, rfl, hS2, hL2, hsub2, hd2, hb2⟩ := hrel
    obtain ⟨wp, rfl⟩ : ∃ wp : World, wp = wr := ⟨_, rfl⟩
    obtain ⟨g2, q2, rfl, -⟩ := hS2.op.row
    have HS2 := Lib.hid hS2
    have HSUB2 := Lib.hid hsub2
    have HD2 := Lib.hid hd2
    clear hS2 hsub2 hd2 HS1
    by_cases hkl : k < Mf
    ·have e0 := (cellB hb2 hob).trans HC0.out
     go_wp2_with fail
     refine (l01Digits_any wp (L.length : Int) (k : Int) af (by omega) (by omega) (by omega) (by omega) (by omega)).mono ?_
     rintro e w3 ⟨u, rfl, hfr, hb3⟩
     obtain ⟨dad, dcap, hdv, -, -, hdc⟩ := ints_ex hfr.rd
     obtain rfl : u = _ := by simpa using hdv
     obtain ⟨db, dof, rfl, hdb, hdce⟩ := hdc (by rw [digL_len]; omega)
     rw [digL_len]
     have HDC := Lib.hid hdce
     have hB3 := bthen hb2 hb3
     have hz3 := hb3.size
     have HS3 := Lib.hid (HS2.out.below hb3)
     clear hdv hdc hdce hfr e0 HS2
     go_wp2_with fail
     go_loopw [17, 16] (fun i q wr => ∃ (j : Nat) (VS : List (Int × Value)), j ≤ af ∧ i = .int .i64 j ∧ VS.length = j ∧ (∀ i (h : i < VS.length) (h' : i < (picks (L.map (·.2)) af k).length), (VS[i]).1 = ar ∧ intsT.Rd w3 [(VS[i]).2] (picks (L.map (·.2)) af k)[i]) ∧ Bl pvT 44 w3.heap.size wr.heap.size wr q VS ∧ Below w3.heap.size w3 wr) (fun i _ _ => af - (intOf i).toNat)
     case atStart => exact ⟨0, [], Nat.zero_le _, by first | rfl | go_num, rfl, fun i h => absurd h (Nat.not_lt_zero _), by simpa using Bl.lit0 (E := pvT) (e := 44) (w := w3) (Nat.le_refl _), bA⟩
     case round =>
      obtain ⟨j, VS, hj, rfl, hvl, hpk, hBl, hb4⟩ := hrel
      obtain ⟨wz, rfl⟩ : ∃ wz : World, wz = wr := ⟨_, rfl⟩
      have HB := Lib.hid hBl
      have HVL := Lib.hid hvl
      have HPK := Lib.hid hpk
      have hz4 := hb4.size
      clear hBl hvl hpk
      by_cases hjl : j < af
      ·have hjd : j < (digL (L.length : Int) k af).length := by rw [digL_len]; exact hjl
       have hdm := dig_mem (n := (L.length : Int)) (i := (k : Int)) (ar := af) (by omega) (List.getElem_mem hjd)
       obtain ⟨dn, hdn⟩ : ∃ dn : Nat, (digL (L.length : Int) k af)[j] = (dn : Int) := ⟨((digL (L.length : Int) k af)[j]).toNat, by omega⟩
       have hdl : dn < L.length := by omega
       have hDC0 := (HDC.out j hjd).2
       rw [hdn] at hDC0
       have e0 := (cellB hb4 hdb).trans hDC0
       obtain ⟨hc0, hc1⟩ := HC.out dn hdl
       have hlw4 : lb < w3.heap.size := by have := hB3.size; omega
       have e1 := (cellB (bthen hB3 hb4) hlw).trans hc0
       have e2 := (cellB (bthen hB3 hb4) hlw).trans hc1
       have hrd := (H.out.rd _ (List.getElem_mem hdl)).below hB3
       obtain ⟨ua, uc, hu⟩ := rd_slice hrd
       have HPN : Hid (∀ i (h : i < (VS ++ [(ar, (L[dn]).1)]).length) (h' : i < (picks (L.map (·.2)) af k).length), ((VS ++ [(ar, (L[dn]).1)])[i]).1 = ar ∧ intsT.Rd w3 [((VS ++ [(ar, (L[dn]).1)])[i]).2] (picks (L.map (·.2)) af k)[i]) := fun i hi hi' => by
        by_cases e : i < VS.length
        ·rw [List.getElem_append_left e]
         exact HPK.out i e hi'
        ·have hij : i = j := by have := HVL.out; simp at hi; omega
         subst hij
         have hjm : i < (digL ((L.map (·.2)).length : Int) k af).length := by rw [digL_len]; exact hjl
         have hdl' : dn < (L.map (·.2)).length := by rw [HRL.out]; exact hdl
         have hg := picks_get (ts := L.map (·.2)) (ar := af) (i := (k : Int)) (j := i) (dn := dn) hjm (by rw [← hdn]; simp only [HRL.out]) hdl' hi'
         rw [hg, List.getElem_map]
         have hv := HVL.out
         have e3 : (VS ++ [(ar, (L[dn]).1)])[i]'hi = (ar, (L[dn]).1) := by
          rw [List.getElem_append_right (by omega)]
          simp
         rw [e3]
         exact ⟨rfl, hrd⟩
       have hvj : VS.length ≤ 1000000000 := by rw [HVL.out]; omega
       rw [hu] at e2 HPN
       clear hdm hdn hDC0 hc0 hc1 hrd hu
       go_wp2_with (refine wpList_push (E := pvT) _ rfl _ _ 30 44 rfl elOpS rfl (HB.out.below bA (Nat.le_refl _)) rfl news2 (fr_pv HI.out rfl) hvj (by decide) hz4 (by simp) ?_; intro v5 w5 hB5 hg5 hown5)
       have hb5 : Below w3.heap.size w3 w5 := (hb4.alloc hb4.size _).grown hg5 (by simp; omega) (fun q hq => HB.out.own hq)
       have HB5 := Lib.hid hB5
       clear hB5 hg5 hown5
       refine ⟨⟨j + 1, _, by omega, by go_num, by rw [List.length_append, HVL.out]; rfl, HPN.out, HB5.out, hb5⟩, by simp [intOf]; omega⟩
      ·obtain rfl : j = af := by omega
       have hfv := HB.out.fr (by rw [HVL.out]; unfold capMax; omega)
       have HLR : Hid (opsT.Rd wz [_] ((picks (L.map (·.2)) j k).map fun t => (ar, t))) := ops_of_vals hfv.rd (by rw [HVL.out, List.length_map, picks_len]) (fun i h h' => by
        have h2 : i < (picks (L.map (·.2)) j k).length := by rw [List.length_map] at h'; exact h'
        obtain ⟨g1, g2⟩ := HPK.out i h h2
        rw [List.getElem_map]
        exact ⟨g1, by rw [g1]; exact HI.out, g2.below hb4⟩)
       obtain ⟨la, lnn, lc, hq⟩ := ex_slice hfv
       subst hq
       have hB4 := bthen hB3 hb4
       have HS4 := Lib.hid (HS3.out.below hb4)
       have hpm : ∀ l ∈ picks (L.map (·.2)) j k, tupP s N l ∧ Clo s ops N T l := fun l hl => by
        obtain ⟨z, hz, rfl⟩ := List.mem_map.1 hl
        have hz2 := dig_mem (by rw [HRL.out]; omega) hz
        have hzl : z.toNat < (L.map (·.2)).length := by omega
        rw [List.getD_eq_getElem?_getD, List.getElem?_eq_getElem hzl]
        have hm : (L.map (·.2))[z.toNat] ∈ L.map (·.2) := List.getElem_mem hzl
        obtain ⟨p, hp, e⟩ := List.mem_map.1 hm
        have hc := HCL.out p hp
        rw [e] at hc
        exact ⟨clo_in HO.out HT.out hc, hc⟩
       have HTO : Hid (tupsOk s f.1 N (picks (L.map (·.2)) j k)) := ⟨by rw [picks_len, HAF.out], fun l hl => (hpm l hl).1⟩
       have HCN : Hid (Clo s ops N T (madeL s f.2 (picks (L.map (·.2)) j k) N)) := .step HMEM.out (by rw [picks_len, HAF.out]) (fun l hl => (hpm l hl).2)
       have HMK : Hid (makes s f ((N : Int), L.map (·.2)) k = madeL s f.2 (picks (L.map (·.2)) j k) N) := by
        unfold Hid makes
        rw [HAFN.out]
        simp only [Int.toNat_natCast]
       clear hfv hpm HB HPK HVL HDC HS3
       go_wp2_with fail
       refine (l02Compose_any wz (HPT.out wz hB4) HLR.out HFO.out HTO.out (by omega)).mono ?_
       rintro e w6 ⟨cs6, rfl, hf6, hb6⟩
       obtain ⟨a6, c6, rfl⟩ := fr_pair hf6
       generalize madeL s f.2 (picks (L.map (·.2)) j k) N = mt at hf6 HCN HMK ⊢
       have HF6 : Hid (intsT.Fr wz.heap.size w6 [.slice a6 mt.length c6] mt) := by
        obtain ⟨fp, ⟨cs', he, -, h3⟩, q1, q2, q3⟩ := hf6
        simp only [List.cons.injEq, true_and] at he
        rw [← he] at h3
        exact ⟨fp, h3, q1, q2, q3⟩
       have hB6 := bthen hB4 hb6
       have HS6 := Lib.hid (HS4.out.below hb6)
       have hmtl : mt.length = N := (clo_in HO.out HT.out HCN.out).1
       have HMT := Lib.hid hmtl
       have HPUT : Hid (Calls Tryz.prog 85 #[_, .agg #[.int .i64 ar, .slice a6 mt.length c6]] w6 (PutR base ar w6 _ L2 (.slice a6 mt.length c6, mt))) := l02Put_any w6 HS6.out.op HS6.out.pw (by omega) (x := (.slice a6 mt.length c6, mt)) (n := N) (fun p hp => (clo_in HO.out HT.out (HS6.out.cl p hp)).1) hmtl (srf_cons (B := wz.heap.size) HS6.out.op.tab (fun p hp q hq => (HS4.out.op.tab.2 p hp q hq).2.1) HF6.out (by have := hB4.size; omega)) HF6.out.rd (by have := hB6.size; omega)
       clear hf6 HS4 HLR hmtl
       dsimp only
       go_wp2_with fail
       refine HPUT.out.mono ?_
       rintro e w7 ⟨hb7, hres⟩
       have hB7 := bthen hB6 hb7
       rcases hres with ⟨hin, rfl⟩ | ⟨hnin, v7, kk, rfl, hop7, hpw7⟩
       ·have HS7 := Lib.hid (HS6.out.below hb7)
        have HD7 : Hid (∀ k' : Nat, k' < k + 1 → makes s f ((N : Int), L.map (·.2)) k' ∈ L2.map (·.2)) := fun k' hk' => by
         by_cases e : k' = k
         ·subst e; rw [HMK.out]; exact hin
         ·exact HD2.out k' (by omega)
        have hd : decide ((64 : Int) < (L2.length : Int)) = false := by simp; omega
        have hd' : decide (64 < L2.length) = false := by simp; omega
        clear HS6 HPUT hin
        dsimp only
        cases b2
        ·go_wp2_with fail
         go_roundw
         case rel => exact ⟨k + 1, false, L2, by omega, by go_num, rfl, HS7.out, hL2, HSUB2.out, HD7.out, hB7⟩
         case measure => simp [intOf]; omega
        ·go_wp2_with fail
         go_roundw
         case rel => exact ⟨k + 1, true, L2, by omega, by go_num, rfl, HS7.out, hL2, HSUB2.out, HD7.out, hB7⟩
         case measure => simp [intOf]; omega
       ·obtain ⟨g7, q7, rfl, -⟩ := hop7.row
        have HS7 := Lib.hid (HS6.out.put hop7 hpw7 HCN.out)
        have HSU : Hid (∀ l ∈ L2.map (·.2), l ∈ (putL L2 kk (.slice a6 mt.length c6, mt)).map (·.2)) := fun l hl => by
         obtain ⟨p, hp, rfl⟩ := List.mem_map.1 hl
         exact List.mem_map.2 ⟨p, putL_perm.mem_iff.2 (List.mem_cons_of_mem _ hp), rfl⟩
        have HD7 : Hid (∀ k' : Nat, k' < k + 1 → makes s f ((N : Int), L.map (·.2)) k' ∈ (putL L2 kk (.slice a6 mt.length c6, mt)).map (·.2)) := fun k' hk' => by
         by_cases e : k' = k
         ·subst e; rw [HMK.out]; exact List.mem_map.2 ⟨_, putL_perm.mem_iff.2 (List.mem_cons_self ..), rfl⟩
         ·exact HSU.out _ (HD2.out k' (by omega))
        have HSU1 : Hid (∀ l ∈ L1.map (·.2), l ∈ (putL L2 kk (.slice a6 mt.length c6, mt)).map (·.2)) := fun l hl => HSU.out l (HSUB2.out l hl)
        generalize putL L2 kk (.slice a6 mt.length c6, mt) = L3 at HS7 HSU HD7 HSU1 ⊢
        clear HS6 HPUT hnin hop7 hpw7
        dsimp only
        by_cases h64 : L3.length ≤ 64
        ·have hd : decide ((64 : Int) < (L3.length : Int)) = false := by simp; omega
         have hd' : decide (64 < L3.length) = false := by simp; omega
         cases b2
         ·go_wp2_with fail
          go_roundw
          case rel => exact ⟨k + 1, true, L3, by omega, by go_num, rfl, HS7.out, h64, HSU1.out, HD7.out, hB7⟩
          case measure => simp [intOf]; omega
         ·go_wp2_with fail
          go_roundw
          case rel => exact ⟨k + 1, true, L3, by omega, by go_num, rfl, HS7.out, h64, HSU1.out, HD7.out, hB7⟩
          case measure => simp [intOf]; omega
        ·have hd : decide ((64 : Int) < (L3.length : Int)) = true := by simp; omega
         have hd' : decide (64 < L3.length) = true := by simp; omega
         have HBIG : Hid (cloBig s ops N T) := ⟨L3.map (·.2), pw_nodup HS7.out.pw, fun l hl => by
          obtain ⟨p, hp, rfl⟩ := List.mem_map.1 hl
          exact HS7.out.cl p hp, by rw [List.length_map]; omega⟩
         cases b2
         all_goals
          go_wp2_with fail
          refine bodyPost_ret (v := .tuple #[.slice (some ⟨w7.heap.size, 0, none⟩) 0 0, .bool false, .int .i64 3]) (by simp [results, Tryz.results87, go_sem]) rfl ⟨hB7.alloc hB7.size _, _, false, .inl ⟨rfl, HBIG.out⟩⟩
    ·obtain rfl : k = Mf := by omega
     go_wp2_with fail
     go_roundw
     case rel => exact ⟨ii + 1, b2, L2, by omega, by go_num, rfl, HS2.out, hL2, HDN.out L2 HSUB2.out (fun k' hk' => HD2.out k' (by rw [HRL.out, HMF.out] at hk'; omega)), hb2⟩
     case measure => simp [intOf]; omega
  ·obtain rfl : ii = ops.length := by omega
   go_wp2_with fail
   refine bodyPost_ret (v := .tuple #[_, .bool b1, .int .i64 0]) (by simp [results, Tryz.results87, go_sem]) rfl ⟨hb1, _, b1, .inr ⟨rfl, L1, HS1.out, hL1, fun f hf k hk => ?_⟩⟩
   obtain ⟨j, hj, rfl⟩ := List.mem_iff_getElem.1 hf
   exact HD1.out j hj hj k hk
end Go.Proofs.YtggelmbnliajeaaGreatDoor
namespace Go.Proofs.YtggelmbnliajeaaGreatDoor
open Go.RowKit Go.Sort
theorem opl_nil {base : Nat} {ar : Int} {w : World} {e : TypeId} (hb : base ≤ w.heap.size) : OpL base ar (w.alloc (.cells #[] e)) (.slice (some ⟨w.heap.size, 0, none⟩) 0 0) [] where
 row := ⟨w.heap.size, 0, rfl, Nat.le_refl _, hb, (by simp), fun i => World.ownsRow.frozenAt (World.ownsRow_lit (base := w.heap.size) (e := e) (size := 2) w #[] 0 (Nat.le_refl _) (by decide) (by rfl)) i, fun p hp => (by cases hp), fun i hi => absurd hi (Nat.not_lt_zero _)⟩
 tab := ⟨List.nodup_nil, fun p hp => by cases hp⟩
 rd := fun p hp => by cases hp
/-- all is closed when a round adds nothing -/
theorem rnd_end {s : Int} {ops : List (Int × List Int)} {N : Nat} {T : List (List Int)} {L : List PV} (ho : ∀ f ∈ ops, opOk s f) (h1 : ∀ l ∈ T, l ∈ L.map (·.2)) (h2 : ∀ p ∈ L, Clo s ops N T p.2) (hP : (L.map (·.2)).Pairwise ltL)
  (h3 : ∀ f ∈ ops, ∀ k : Nat, (k : Int) < ((L.map (·.2)).length : Int) ^ f.1.toNat → makes s f ((N : Int), L.map (·.2)) k ∈ L.map (·.2)) : cloIs s ops N T (L.map (·.2)) :=
 ⟨hP, fun l => clo_closed (R := L.map (·.2)) ho h1 (fun l hl => by
  obtain ⟨p, hp, rfl⟩ := List.mem_map.1 hl
  exact h2 p hp) (fun f hf k hk => h3 f hf k hk)⟩
set_option maxHeartbeats 6400000 in
set_option maxRecDepth 100000 in
theorem specCloneUpTo_any (w : World) {vo : Value} {ops : List (Int × List Int)} (hops : opsT.Rd w [vo] ops) {s ar : Int} :
  Calls Tryz.prog 33 #[.int .i64 s, .int .i64 ar, vo] w (RetSC opsT w (cuV s ar ops) (cuC s ar ops)) := by
 have H := Lib.hid hops
 obtain ⟨oa, oc, rfl⟩ := rd_slice hops
 clear hops
 go_enter Tryz.func33, Tryz.ntmps33
 go_wp2_with fail
 refine (l02All_any w H.out s).mono ?_
 rintro e w1 ⟨rfl, hq1⟩
 have hb1 : Below w.heap.size w w1 := hq1.below
 clear hq1
 cases h1 : opsB s ops
 ·have HC := Lib.hid (cuC_1 (ar := ar) h1)
  have HV : Hid (cuV s ar ops = []) := cuV_no (by rw [HC.out]; decide)
  go_wp2_with fail
  go_ret2
  exact ⟨_, by rw [HC.out]; rfl, by rw [HV.out]; exact fr_nil, hb1.alloc hb1.size _⟩
 have HOK := Lib.hid (opsB_yes h1)
 by_cases h2 : 64 < ops.length
 ·have hd : decide ((64 : Int) < (ops.length : Int)) = true := by simp; omega
  have hd' : decide (64 < ops.length) = true := by simp; omega
  have HC := Lib.hid (cuC_2 (ar := ar) h1 hd')
  have HV : Hid (cuV s ar ops = []) := cuV_no (by rw [HC.out]; decide)
  clear h2
  go_wp2_with fail
  go_ret2
  exact ⟨_, by rw [HC.out]; rfl, by rw [HV.out]; exact fr_nil, hb1.alloc hb1.size _⟩
 have hd : decide ((64 : Int) < (ops.length : Int)) = false := by simp; omega
 have hd' : decide (64 < ops.length) = false := by simp; omega
 have HD := Lib.hid hd'
 have H1 := Lib.hid h1
 have hs4 : 1 ≤ s ∧ s ≤ 4 := HOK.out.1
 clear h2 h1
 go_wp2_with fail
 refine (l02Arity_any ar w1).mono ?_
 rintro e _ ⟨rfl, rfl⟩
 cases ha : inB ar 1 3
 ·have HC := Lib.hid (cuC_3 (ar := ar) H1.out HD.out ha)
  have HV : Hid (cuV s ar ops = []) := cuV_no (by rw [HC.out]; decide)
  go_wp2_with fail
  go_ret2
  exact ⟨_, by rw [HC.out]; rfl, by rw [HV.out]; exact fr_nil, hb1.alloc hb1.size _⟩
 have HA := Lib.hid ha
 obtain ⟨an, han⟩ : ∃ an : Nat, ar = (an : Int) := ⟨ar.toNat, by have := inB_true.1 ha; omega⟩
 subst han
 have han4 : 1 ≤ an ∧ an ≤ 3 := by have := inB_true.1 ha; omega
 obtain ⟨N, hN⟩ : ∃ N : Nat, s ^ an = (N : Int) := ⟨(s ^ an).toNat, by have := pow_nn (s := s) (by omega) an; omega⟩
 have hN64 : N ≤ 64 := by
  have h1 := pow_mono' (s := s) (c := 4) (by omega) (by omega) an
  rcases (show an = 1 ∨ an = 2 ∨ an = 3 by omega) with e | e | e <;> subst e <;> simp at h1 <;> omega
 have HN := Lib.hid hN
 have HNT : Hid (cuT s an = projs s an N ∧ (s ^ an).toNat = N) := by
  unfold Hid cuT
  rw [hN, Int.toNat_natCast]
  exact ⟨rfl, rfl⟩
 clear hN ha
 go_wp2_with fail
 generalize hW : World.alloc w1 _ = W
 have hbW : Below w1.heap.size w1 W := hW ▸ bA
 have HL0 : Hid (OpL w1.heap.size (an : Int) W (.slice (some ⟨w1.heap.size, 0, none⟩) 0 0) []) := by
  unfold Hid
  rw [← hW]
  exact opl_nil (Nat.le_refl _)
 clear hW
 go_loopw [9, 8] (fun i q wr => ∃ (p : Nat) (L : List PV), p ≤ an ∧ i = .int .i64 p ∧ OpL w1.heap.size (an : Int) wr q L ∧ (L.map (·.2)).Pairwise ltL ∧ L.length ≤ p ∧ (∀ l, l ∈ L.map (·.2) ↔ l ∈ (projs s an N).take p) ∧ Below w1.heap.size w1 wr) (fun i _ _ => an - (intOf i).toNat)
 case atStart => exact ⟨0, [], Nat.zero_le _, rfl, HL0.out, List.Pairwise.nil, Nat.le_refl _, fun l => by simp, hbW⟩
 case round =>
  obtain ⟨p, L, hp, rfl, hO, hPw, hLl, hme, hbel⟩ := hrel
  obtain ⟨wv, rfl⟩ : ∃ wv : World, wv = wr := ⟨_, rfl⟩
  obtain ⟨g1, q1, rfl, -⟩ := hO.row
  have HO1 := Lib.hid hO
  have HPW := Lib.hid hPw
  have HME := Lib.hid hme
  have hze := hbel.size
  clear hO hPw hme HL0
  by_cases hpl : p < an
  ·have HTK : Hid ((projs s an N).take p ++ [projT s an N p] = (projs s an N).take (p + 1)) := by
    have h1 : p < (projs s an N).length := by rw [projs_len]; exact hpl
    have := take_snoc h1
    rw [show (projs s an N)[p] = projT s an N p by simp [projs]] at this
    exact this
   have HIN : Hid (∀ l ∈ L, l.2.length = N) := fun l hl => by
    have h1 := (HME.out l.2).1 (List.mem_map.2 ⟨l, hl, rfl⟩)
    exact (projs_in (ar := an) (N := N) (by omega) _ (List.mem_of_mem_take h1)).1
   have hptl : (projT s an N p).length = N := tabOf_len
   go_wp2_with fail
   refine (l02Projection_any wv hs4 han4 HN.out hpl).mono ?_
   rintro e w3 ⟨cs3, rfl, hf3, hb3⟩
   obtain ⟨a3, c3, rfl⟩ := fr_pair hf3
   have HF3 : Hid (intsT.Fr wv.heap.size w3 [.slice a3 (projT s an N p).length c3] (projT s an N p)) := by
    obtain ⟨fp, ⟨cs', he, -, h3⟩, q1, q2, q3⟩ := hf3
    simp only [List.cons.injEq, true_and] at he
    rw [← he] at h3
    exact ⟨fp, h3, q1, q2, q3⟩
   have hz3 := hb3.size
   have hB3 := bthen hbel hb3
   clear hf3
   generalize projT s an N p = tp at HF3 HTK hptl ⊢
   have HO3 := Lib.hid (HO1.out.below hb3)
   have HPUT : Hid (Calls Tryz.prog 85 #[_, .agg #[.int .i64 (an : Int), .slice a3 tp.length c3]] w3 (PutR w1.heap.size (an : Int) w3 _ L (.slice a3 tp.length c3, tp))) := l02Put_any w3 HO3.out HPW.out (by omega) (x := (.slice a3 tp.length c3, tp)) (n := N) HIN.out hptl (srf_cons (B := wv.heap.size) HO3.out.tab (fun p hp q hq => (HO1.out.tab.2 p hp q hq).2.1) HF3.out hze) HF3.out.rd (by omega)
   clear hptl
   dsimp only
   go_wp2_with fail
   refine HPUT.out.mono ?_
   rintro e w7 ⟨hb7, hres⟩
   have hB7 := bthen hB3 hb7
   rcases hres with ⟨hin, rfl⟩ | ⟨hnin, v7, kk, rfl, hop7, hpw7⟩
   ·have HS7 := Lib.hid (HO3.out.below hb7)
    have HM7 : Hid (∀ l, l ∈ L.map (·.2) ↔ l ∈ (projs s an N).take (p + 1)) := fun l => by
     rw [← HTK.out, List.mem_append, List.mem_singleton, ← HME.out l]
     exact ⟨.inl, fun h => h.elim id (fun e => by rw [e]; exact hin)⟩
    dsimp only
    go_wp2_with fail
    go_roundw
    case rel => exact ⟨p + 1, L, by omega, by go_num, HS7.out, HPW.out, by omega, HM7.out, hB7⟩
    case measure => simp [intOf]; omega
   ·have HS7 := Lib.hid hop7
    have HP7 := Lib.hid hpw7
    have HM7 : Hid (∀ l, l ∈ (putL L kk (.slice a3 tp.length c3, tp)).map (·.2) ↔ l ∈ (projs s an N).take (p + 1)) := fun l => by
     rw [← HTK.out, List.mem_append, List.mem_singleton, ← HME.out l, (putL_perm.map (·.2)).mem_iff, List.map_cons, List.mem_cons]
     exact Or.comm
    have hl7 : (putL L kk (.slice a3 tp.length c3, tp)).length ≤ p + 1 := by rw [putL_len]; omega
    dsimp only
    go_wp2_with fail
    go_roundw
    case rel => exact ⟨p + 1, _, by omega, by go_num, HS7.out, HP7.out, hl7, HM7.out, hB7⟩
    case measure => simp [intOf]; omega
  ·obtain rfl : p = an := by omega
   have hTK : (projs s p N).take p = projs s p N := List.take_of_length_le (by rw [projs_len]; exact Nat.le_refl _)
   have HME2 : Hid (∀ l, l ∈ L.map (·.2) ↔ l ∈ projs s p N) := by unfold Hid; intro l; rw [HME.out l, hTK]
   have hLne : 1 ≤ L.length := by
    have h1 : projT s p N 0 ∈ L.map (·.2) := (HME2.out _).2 (List.mem_map.2 ⟨0, by simp; omega, rfl⟩)
    have h2 := List.length_pos_of_mem h1
    rw [List.length_map] at h2
    omega
   have HCL : Hid (∀ x ∈ L, Clo s ops N (projs s p N) x.2) := fun x hx => .base ((HME2.out _).1 (List.mem_map.2 ⟨x, hx, rfl⟩))
   have HSB : Hid (∀ l ∈ projs s p N, l ∈ L.map (·.2)) := fun l hl => (HME2.out l).2 hl
   have HIU : Hid (I64 (p : Int)) := I64.small (by omega) (by omega)
   clear hTK
   go_wp2_with fail
   go_loopg [8] (64 - L.length) (fun g q wr => ∃ L2 : List PV, L2.length + g = 64 ∧ OpL w1.heap.size (p : Int) wr q L2 ∧ (L2.map (·.2)).Pairwise ltL ∧ 1 ≤ L2.length ∧ (∀ x ∈ L2, Clo s ops N (projs s p N) x.2) ∧ (∀ l ∈ projs s p N, l ∈ L2.map (·.2)) ∧ Below w1.heap.size w1 wr)
   case atStart => exact ⟨L, by omega, HO1.out, HPW.out, hLne, HCL.out, HSB.out, hbel⟩
   case round =>
    obtain ⟨L2, hg2, hO2, hPw2, hne2, hcl2, hsb2, hbe2⟩ := hrel
    obtain ⟨wp, rfl⟩ : ∃ wp : World, wp = wr := ⟨_, rfl⟩
    have hze2 := hbe2.size
    obtain ⟨g2, q2, rfl, -⟩ := hO2.row
    have HRD : Hid (Calls Tryz.prog 87 #[.int .i64 s, _, _] wp (RndR w1.heap.size (p : Int) s ops N (projs s p N) L2 wp)) := l02Round_any wp hO2 hPw2 ⟨hne2, by omega⟩ (H.out.below (bthen hb1 hbe2)) HOK.out.2 HOK.out.1 HIU.out hN64 (projs_in (by omega)) hcl2 hze2
    have HSB2 := Lib.hid hsb2
    clear hO2 hPw2 hcl2 hsb2
    go_wp2_with fail
    refine HRD.out.mono ?_
    rintro e w5 ⟨hb5, v5, b5, hres⟩
    have hB5 := bthen hbe2 hb5
    have hz5 := hB5.size
    rcases hres with ⟨rfl, hbig⟩ | ⟨rfl, L3, hS3, h64, hall⟩
    ·have HC : Hid (cuC s (p : Int) ops = 3) := cuC_4 H1.out HD.out HA.out (by rw [Int.toNat_natCast, HNT.out.1, HNT.out.2]; exact hbig)
     have HV : Hid (cuV s (p : Int) ops = []) := cuV_no (by rw [HC.out]; decide)
     clear hbig HRD
     dsimp only
     go_wp2_with fail
     go_ret2
     exact ⟨_, by rw [HC.out]; rfl, by rw [HV.out]; exact fr_nil, (bthen hb1 hB5).alloc (bthen hb1 hB5).size _⟩
    ·have HS3 := Lib.hid hS3
     have HALL := Lib.hid hall
     obtain ⟨g5, q5, rfl, -⟩ := hS3.op.row
     clear hS3 hall HRD
     dsimp only
     cases b5
     ·have HNO : Hid (L3.map (·.2) = L2.map (·.2)) := HS3.out.no rfl
      have HIS : Hid (cloIs s ops N (projs s p N) (L3.map (·.2))) := rnd_end HOK.out.2 (fun l hl => by rw [HNO.out]; exact HSB2.out l hl) HS3.out.cl HS3.out.pw (fun f hf k hk => by
       have := HALL.out f hf k (by rw [← HNO.out]; exact hk)
       rw [← HNO.out] at this
       exact this)
      have HNB : Hid (¬ cloBig s ops (s ^ (p : Int).toNat).toNat (cuT s (p : Int).toNat)) := by
       unfold Hid
       rw [Int.toNat_natCast, HNT.out.1, HNT.out.2]
       exact big_no HIS.out.2 (by rw [List.length_map]; exact h64)
      have HC : Hid (cuC s (p : Int) ops = 0) := cuC_5 H1.out HD.out HA.out HNB.out
      have HV : Hid (cuV s (p : Int) ops = (L3.map (·.2)).map fun t => ((p : Int), t)) := cuV_ok HC.out (by rw [Int.toNat_natCast, HNT.out.1, HNT.out.2]; exact HIS.out)
      have hfq := (HS3.out.op.fr HIU.out (by unfold capMax; omega)).mono (show w.heap.size ≤ w1.heap.size from hb1.size)
      rw [show (L3.map fun x : PV => ((p : Int), x.2)) = cuV s (p : Int) ops by rw [HV.out, List.map_map]; rfl] at hfq
      have HFQ := Lib.hid hfq
      clear hfq
      go_wp2_with fail
      go_ret2
      exact ⟨_, by rw [HC.out]; rfl, HFQ.out, bthen hb1 hB5⟩
     ·have hgr : L2.length < L3.length := HS3.out.yes rfl
      have HSB3 : Hid (∀ l ∈ projs s p N, l ∈ L3.map (·.2)) := fun l hl => HS3.out.sub l (HSB2.out l hl)
      go_wp2_with fail
      go_roundg (64 - L3.length)
      case rel => exact ⟨L3, by omega, HS3.out.op, HS3.out.pw, by omega, HS3.out.cl, HSB3.out, hB5⟩
      case measure => omega
end Go.Proofs.YtggelmbnliajeaaGreatDoor
namespace Go.Proofs.YtggelmbnliajeaaGreatDoor
open Go.RowKit Go.Sort
theorem sorted_strict {L : List PV} (h : L.Pairwise leP) (hn : (L.map (·.2)).Nodup) : (L.map (·.2)).Pairwise ltL := by
 rw [List.pairwise_map]
 rw [List.Nodup, List.pairwise_map] at hn
 exact (List.pairwise_and_iff.2 ⟨h, hn⟩).imp fun ⟨h1, h2⟩ => h1.elim (fun e => absurd e h2) id
/-- the closure's list as a row that may be sorted -/
theorem AddI.sr {P : Program} {km em te B bs ba mb : Nat} {w : World} {v : Value} {vs : List Value} {A : List (List Int)} (h : AddI P km em te B bs ba mb w v vs A) {g cap : Nat} (hv : v = .slice (some ⟨g, 0, none⟩) A.length cap) : B ≤ g ∧ g < w.heap.size ∧ ∃ L : List PV, L.map (·.2) = A ∧ SR w g 0 L := by
 subst hv
 obtain ⟨o1, -, -⟩ := bl_val_own h.row
 have hl := h.len
 refine ⟨h.row.own rfl, h.row.own_lt rfl, vs.zip A, ?_, ?_⟩
 ·rw [List.map_snd_zip (by omega)]
 ·refine ⟨h.row.own_lt rfl, fun i => World.ownsRow.frozenAt (by rw [hl] at o1; exact o1) i, fun i hi => ?_⟩
  have hi1 : i < vs.length := by rw [List.length_zip] at hi; omega
  have hi2 : i < A.length := by omega
  rw [List.getElem_zip]
  refine ⟨?_, (h.rd i hi1 hi2).mono fun k _ hk e => hk.2.2.2 (by rw [e]; rfl)⟩
  rw [Nat.zero_add]
  rw [hl] at o1
  rw [World.ownsRow.cellAt o1 i (by omega), List.getElem?_eq_getElem hi1]
theorem CloneUpTo1_any (w : World) {v u : Value} {xs ys : List Int} (h : intsT.Rd w [v] xs) (h' : intsT.Rd w [u] ys) :
  Calls Tryz.prog 81 #[v, u] w fun e w' => e = .returned (.int .i64 (cmpL xs ys)) ∧ w = w' := by
 have H := Lib.hid h
 have H' := Lib.hid h'
 clear h h'
 go_enter Tryz.func81, Tryz.ntmps81
 go_wp2_with fail
 refine (Compare_any w H.out H'.out).mono ?_
 rintro e _ ⟨rfl, rfl⟩
 go_wp2_with fail
 go_ret
 exact ⟨rfl, rfl⟩
theorem fieldOp1 (w : World) (n : Int) (ad : Option Addr) (m c : Nat) : (Instr.field 44 (.agg #[.int .i64 n, .slice ad m c]) 1).run Tryz.prog w = .ok (.slice ad m c) w := by kernel_rfl
set_option maxHeartbeats 6400000 in
set_option maxRecDepth 100000 in
theorem CloneUpTo_any (w : World) {vo : Value} {ops : List (Int × List Int)} (hops : opsT.Rd w [vo] ops) {s ar : Int} :
  Calls Tryz.prog 32 #[.int .i64 s, .int .i64 ar, vo] w (RetSC opsT w (cuV s ar ops) (cuC s ar ops)) := by
 have H := Lib.hid hops
 obtain ⟨oa, oc, rfl⟩ := rd_slice hops
 clear hops
 go_enter Tryz.func32, Tryz.ntmps32
 go_wp2_with fail
 refine (areOpsN_any w H.out s).mono ?_
 rintro e w1 ⟨rfl, hb1⟩
 cases h1 : opsB s ops
 ·have HC := Lib.hid (cuC_1 (ar := ar) h1)
  have HV : Hid (cuV s ar ops = []) := cuV_no (by rw [HC.out]; decide)
  go_wp2_with fail
  go_ret2
  exact ⟨_, by rw [HC.out]; rfl, by rw [HV.out]; exact fr_nil, hb1⟩
 have HOK := Lib.hid (opsB_yes h1)
 by_cases h2 : 64 < ops.length
 ·have hd : decide ((64 : Int) < (ops.length : Int)) = true := by simp; omega
  have hd' : decide (64 < ops.length) = true := by simp; omega
  have HC := Lib.hid (cuC_2 (ar := ar) h1 hd')
  have HV : Hid (cuV s ar ops = []) := cuV_no (by rw [HC.out]; decide)
  clear h2
  go_wp2_with fail
  go_ret2
  exact ⟨_, by rw [HC.out]; rfl, by rw [HV.out]; exact fr_nil, hb1⟩
 have hd : decide ((64 : Int) < (ops.length : Int)) = false := by simp; omega
 have hd' : decide (64 < ops.length) = false := by simp; omega
 have HD := Lib.hid hd'
 have H1 := Lib.hid h1
 have hs4 : 1 ≤ s ∧ s ≤ 4 := HOK.out.1
 clear h2 h1
 go_wp2_with fail
 refine (isOpArity_any ar w1).mono ?_
 rintro e _ ⟨rfl, rfl⟩
 cases ha : inB ar 1 3
 ·have HC := Lib.hid (cuC_3 (ar := ar) H1.out HD.out ha)
  have HV : Hid (cuV s ar ops = []) := cuV_no (by rw [HC.out]; decide)
  go_wp2_with fail
  go_ret2
  exact ⟨_, by rw [HC.out]; rfl, by rw [HV.out]; exact fr_nil, hb1⟩
 have HA := Lib.hid ha
 obtain ⟨an, han⟩ : ∃ an : Nat, ar = (an : Int) := ⟨ar.toNat, by have := inB_true.1 ha; omega⟩
 subst han
 have han4 : 1 ≤ an ∧ an ≤ 3 := by have := inB_true.1 ha; omega
 obtain ⟨N, hN⟩ : ∃ N : Nat, s ^ an = (N : Int) := ⟨(s ^ an).toNat, by have := pow_nn (s := s) (by omega) an; omega⟩
 have hN64 : N ≤ 64 := by
  have h1 := pow_mono' (s := s) (c := 4) (by omega) (by omega) an
  rcases (show an = 1 ∨ an = 2 ∨ an = 3 by omega) with e | e | e <;> subst e <;> simp at h1 <;> omega
 have HN := Lib.hid hN
 have HNT : Hid (cuT s an = projs s an N ∧ (s ^ an).toNat = N) := by
  unfold Hid cuT
  rw [hN, Int.toNat_natCast]
  exact ⟨rfl, rfl⟩
 clear hN ha
 have hfld := fieldOp1
 go_wp2_with fail
 generalize hW : World.alloc w1 _ = W
 have hbW : Below w1.heap.size w1 W := hW ▸ bA
 have hsW : w1.heap.size < W.heap.size := by rw [← hW]; simp
 have HB0 : Hid (Bl intsT 42 w1.heap.size W.heap.size W (.slice (some ⟨w1.heap.size, 0, none⟩) 0 0) []) := by
  unfold Hid
  rw [← hW]
  simpa using Bl.lit0 (E := intsT) (e := 42) (base := w1.heap.size) (w := w1) (Nat.le_refl _)
 clear hW
 go_loopw [30, 8] (fun i q wr => ∃ p : Nat, p ≤ an ∧ i = .int .i64 p ∧ Bl intsT 42 w1.heap.size wr.heap.size wr q ((projs s an N).take p) ∧ Below w1.heap.size w1 wr) (fun i _ _ => an - (intOf i).toNat)
 case atStart => exact ⟨0, Nat.zero_le _, rfl, by rw [List.take_zero]; exact HB0.out, hbW⟩
 case round =>
  obtain ⟨p, hp, rfl, hBl, hbel⟩ := hrel
  obtain ⟨wv, rfl⟩ : ∃ wv : World, wv = wr := ⟨_, rfl⟩
  have HB := Lib.hid hBl
  have hze := hbel.size
  clear hBl HB0
  by_cases hpl : p < an
  ·have HTK : Hid ((projs s an N).take p ++ [projT s an N p] = (projs s an N).take (p + 1)) := by
    have h1 : p < (projs s an N).length := by rw [projs_len]; exact hpl
    have := take_snoc h1
    rw [show (projs s an N)[p] = projT s an N p by simp [projs]] at this
    exact this
   have hkl : ((projs s an N).take p).length ≤ 1000 := by rw [List.length_take, projs_len]; omega
   go_wp2_with fail
   refine (projection_any wv hs4 han4 HN.out hpl).mono ?_
   rintro e w3 ⟨cs3, rfl, hf3, hb3⟩
   obtain ⟨a3, c3, rfl⟩ := fr_pair hf3
   have HF3 : Hid (intsT.Fr wv.heap.size w3 [.slice a3 (projT s an N p).length c3] (projT s an N p)) := by
    obtain ⟨fp, ⟨cs', he, -, h3⟩, q1, q2, q3⟩ := hf3
    simp only [List.cons.injEq, true_and] at he
    rw [← he] at h3
    exact ⟨fp, h3, q1, q2, q3⟩
   have hz3 := hb3.size
   have hB3 := bthen hbel hb3
   clear hf3
   generalize projT s an N p = tp at HF3 HTK ⊢
   dsimp only
   go_wp2_with (at_builtin; go_loud (refine wpList_push (E := intsT) _ rfl _ _ 23 42 rfl elInt64SS rfl (HB.out.below (hb3.alloc hz3 _) (Nat.le_refl _)) rfl news1 (HF3.out.below bA) (by omega) (by decide) hze (by simp; omega) ?_; intro v4 w4 hB4 hg4 hown4))
   have hb4 : Below w1.heap.size w1 w4 := (hB3.alloc hB3.size _).grown hg4 (by simp; omega) (fun q hq => HB.out.own hq)
   rw [HTK.out] at hB4
   have HB4 := Lib.hid hB4
   clear hB4 hg4 hown4
   refine ⟨⟨p + 1, by omega, by go_num, HB4.out, hb4⟩, by simp [intOf]; omega⟩
  ·obtain rfl : p = an := by omega
   have hfv := HB.out.fr (by rw [List.length_take, projs_len]; unfold capMax; omega)
   rw [List.take_of_length_le (by rw [projs_len]; exact Nat.le_refl _)] at hfv
   obtain ⟨a3, c3, hv3⟩ := fr_slice hfv
   subst hv3
   have HT3 := Lib.hid hfv.rd
   have hB3 := bthen hb1 hbel
   have HCLO : Hid (Calls Tryz.prog 49 #[.int .i64 s, .slice oa ops.length oc, .slice a3 (projs s p N).length c3, .int .i64 ((64 : Nat) : Int)] wv (CloA Tryz.prog 9 4 42 s ops N (projs s p N) 64 wv)) := closure_any wv (H.out.below hB3) HOK.out.1 HOK.out.2 HT3.out (by omega) (projs_in (by omega)) (by rw [projs_len]; omega) (by omega)
   rw [projs_len] at HCLO ⊢
   clear hfv HB
   go_wp2_with fail
   refine HCLO.out.mono ?_
   rintro e w5 ⟨v5, vs5, A5, bs, ba, mb, rfl, hI5, hcl5, hall5, hb5, hA5⟩
   have HI5 := Lib.hid hI5
   have HCL5 := Lib.hid hcl5
   have HAL5 := Lib.hid hall5
   obtain ⟨ad5, cp5, hv5, hsh5⟩ := hI5.shape
   subst hv5
   have HSH5 := Lib.hid hsh5
   have hB5 := bthen hB3 hb5
   clear hI5 hcl5 hall5 HCLO hsh5
   by_cases h64 : A5.length ≤ 64
   rotate_left
   ·have hd5 : decide (A5.length ≤ 64) = false := by simp; omega
    have HBIG : Hid (cloBig s ops (s ^ ((p : Int)).toNat).toNat (cuT s ((p : Int)).toNat)) := by
     unfold Hid
     rw [Int.toNat_natCast, HNT.out.1, HNT.out.2]
     exact ⟨A5, HCL5.out.nd, HCL5.out.clo, by omega⟩
    have HC := Lib.hid (cuC_4 (ar := (p : Int)) H1.out HD.out HA.out HBIG.out)
    have HV : Hid (cuV s (p : Int) ops = []) := cuV_no (by rw [HC.out]; decide)
    go_wp2_with fail
    go_ret2
    exact ⟨_, by rw [HC.out]; rfl, by rw [HV.out]; exact fr_nil, hB5⟩
   have hd5 : decide (A5.length ≤ 64) = true := by simp; omega
   have HMM : Hid (∀ l, l ∈ A5 ↔ Clo s ops N (projs s p N) l) := HAL5.out h64
   have h0A : 0 < A5.length := by
    have : projT s p N 0 ∈ A5 := (HMM.out _).2 (.base (List.mem_map.2 ⟨0, by simp; omega, rfl⟩))
    exact List.length_pos_of_mem this
   obtain ⟨g5, rfl, hcp5⟩ := HSH5.out h0A
   obtain ⟨hg5, hgl5, L5, hL5, hS5⟩ := HI5.out.sr rfl
   have HL5 := Lib.hid hL5
   have HS5 := Lib.hid hS5
   have HLl5 : Hid (L5.length = A5.length) := by unfold Hid; rw [← hL5, List.length_map]
   clear hL5 hS5 HI5
   go_wp2_with fail
   refine (sortAll_any w5 HLl5.out HS5.out (by omega) 81 (enters Tryz.func81 (by kernel_rfl) rfl) (fun W v u xs ys h1 h2 => CloneUpTo1_any W h1 h2)).mono ?_
   rintro e w6 ⟨rfl, L6, hp6, hle6, hS6, hT6⟩
   have HS6 := Lib.hid hS6
   have HLl6 : Hid (L6.length = A5.length) := hp6.length_eq.trans HLl5.out
   have HIS : Hid (cloIs s ops N (projs s p N) (L6.map (·.2))) := by
    have hpm : (L6.map (·.2)).Perm A5 := by rw [← HL5.out]; exact hp6.map _
    exact ⟨sorted_strict hle6 (hpm.nodup_iff.2 HCL5.out.nd), fun l => hpm.mem_iff.trans (HMM.out l)⟩
   have hb6 : Below wv.heap.size w5 w6 := hT6.below hb5.size (fun k hk e => by omega)
   have hB6 : Below w.heap.size w w6 := hB5.trans (hb6.mono (by have := hB3.size; omega))
   clear hp6 hle6 hS6 hT6
   go_wp2_with fail
   generalize hW7 : World.alloc w6 _ = w7
   have hb7 : Below w6.heap.size w6 w7 := hW7 ▸ bA
   have hs7 : w6.heap.size < w7.heap.size := by rw [← hW7]; simp
   have HB7 : Hid (Bl opT 44 w6.heap.size w7.heap.size w7 (.slice (some ⟨w6.heap.size, 0, none⟩) 0 0) []) := by
    unfold Hid
    rw [← hW7]
    simpa using Bl.lit0 (E := opT) (e := 44) (base := w6.heap.size) (w := w6) (Nat.le_refl _)
   clear hW7
   go_loopw [56, 12] (fun i q wr => ∃ k : Nat, k ≤ A5.length ∧ i = .int .i64 k ∧ Bl opT 44 w6.heap.size wr.heap.size wr q ((L6.take k).map fun x => ((p : Int), x.2)) ∧ Below w6.heap.size w6 wr) (fun i _ _ => A5.length - (intOf i).toNat)
   case atStart => exact ⟨0, Nat.zero_le _, rfl, by rw [List.take_zero]; exact HB7.out, hb7⟩
   case round =>
    obtain ⟨k, hk, rfl, hBl, hbel7⟩ := hrel
    obtain ⟨wq, rfl⟩ : ∃ wq : World, wq = wr := ⟨_, rfl⟩
    have HBq := Lib.hid hBl
    have hzq := hbel7.size
    clear hBl HB7
    by_cases hkl : k < A5.length
    ·have hk6 : k < L6.length := by rw [HLl6.out]; exact hkl
     obtain ⟨e0', hr0⟩ := HS6.out.2.2 k hk6
     have e0 : wq.cell? ⟨g5, k, none⟩ = some (L6[k]).1 := (cellB hbel7 HS6.out.1).trans (by rw [← e0', Nat.zero_add])
     have HR0 := Lib.hid (hr0.rd.below hbel7)
     have htk : tupP s N (L6[k]).2 := clo_in HOK.out.2 (projs_in (by omega)) ((HIS.out.2 _).1 (List.mem_map.2 ⟨L6[k], List.getElem_mem hk6, rfl⟩))
     have htl := htk.1
     have HTK : Hid ((L6.take k).map (fun x => ((p : Int), x.2)) ++ [((p : Int), (L6[k]).2)] = (L6.take (k + 1)).map fun x => ((p : Int), x.2)) := by
      unfold Hid
      rw [← take_snoc hk6, List.map_append]
      rfl
     have hkl2 : ((L6.take k).map fun x => ((p : Int), x.2)).length ≤ 1000 := by rw [List.length_map, List.length_take]; omega
     generalize (L6[k]).2 = tk at HR0 HTK htl
     generalize (L6[k]).1 = yk at e0 HR0
     have HTL : Hid (tk.length = N) := htl
     obtain ⟨ya, yc, rfl⟩ := rd_slice HR0.out
     clear e0' hr0 htk htl
     go_wp2_with fail
     refine (Clone_any wq HR0.out (by rw [HTL.out]; omega)).mono ?_
     rintro e w8 ⟨u8, rfl, hf8, hb8⟩
     obtain ⟨a8, c8, rfl⟩ := fr_slice hf8
     have HF8 : Hid (opT.Fr wq.heap.size w8 [.int .i64 (p : Int), .slice a8 tk.length c8] ((p : Int), tk)) := fr_cons (I64.small (by omega) (by omega)) hf8
     have hz8 := hb8.size
     have hB8 := bthen hbel7 hb8
     clear hf8
     go_wp2_with (at_builtin; go_loud (refine wpList_push (E := opT) _ rfl _ _ 30 44 rfl elOpS rfl (HBq.out.below (hb8.alloc hz8 _) (Nat.le_refl _)) rfl news2 (HF8.out.below bA) (by omega) (by decide) hzq (by simp; omega) ?_; intro v9 w9 hB9 hg9 hown9))
     have hb9 : Below w6.heap.size w6 w9 := (hB8.alloc hB8.size _).grown hg9 (by simp; omega) (fun q hq => HBq.out.own hq)
     rw [HTK.out] at hB9
     have HB9 := Lib.hid hB9
     clear hB9 hg9 hown9
     refine ⟨⟨k + 1, by omega, by go_num, HB9.out, hb9⟩, by simp [intOf]; omega⟩
    ·obtain rfl : k = A5.length := by omega
     have HVV : Hid (cuV s (p : Int) ops = (L6.map (·.2)).map fun t => ((p : Int), t)) := cuV_ok (cuC_5 H1.out HD.out HA.out (by rw [Int.toNat_natCast, HNT.out.1, HNT.out.2]; exact big_no HMM.out h64)) (by rw [Int.toNat_natCast, HNT.out.1, HNT.out.2]; exact HIS.out)
     have HC : Hid (cuC s (p : Int) ops = 0) := cuC_5 H1.out HD.out HA.out (by rw [Int.toNat_natCast, HNT.out.1, HNT.out.2]; exact big_no HMM.out h64)
     have hfq := HBq.out.fr (by rw [List.length_map, List.length_take]; unfold capMax; omega)
     rw [List.take_of_length_le (Nat.le_of_eq HLl6.out), show (L6.map fun x => ((p : Int), x.2)) = cuV s (p : Int) ops by rw [HVV.out, List.map_map]; rfl] at hfq
     have HFQ := Lib.hid (hfq.mono (show w.heap.size ≤ w6.heap.size from hB6.size))
     have hBq := bthen hB6 hbel7
     clear hfq HBq
     go_wp2_with fail
     go_ret2
     exact ⟨_, by rw [HC.out]; rfl, HFQ.out, hBq⟩
end Go.Proofs.YtggelmbnliajeaaGreatDoor
namespace Go.Proofs.YtggelmbnliajeaaGreatDoor
open Go.RowKit Go.Sort
end Go.Proofs.YtggelmbnliajeaaGreatDoor
