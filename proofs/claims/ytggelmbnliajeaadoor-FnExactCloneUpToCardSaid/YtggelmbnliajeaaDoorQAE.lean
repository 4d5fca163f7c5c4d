/-
Plain: the closure of a set of tuples under operations.
Contracts: the closure of a set of tuples under operations, the reference's.
What ClosureOf answers; contracts: whether operations are valid.
Plain: what CloneUpTo answers.
Plain: a few rows sorted by insertion, and equal neighbours dropped.
A row of rows while it is sorted: its cells, and what they read outside it.
Plain: what slices.CompactFunc leaves of a row, step by step.
A row of rows: from its reading to its cells, and back.
A list of operations of one number of arguments in new memory: its row, its tables' blocks; an append of a row of structs of two cells. No program is named here.
Contracts: an operation put into a list in the order of tables.
Contracts: an operation composed with operations, the reference's.
-/
import Derived.Test.YtggelmbnliajeaaDoorQAD
import Derived.Test.YtggelmbnliajeaaDoorQAC
import Derived.Deep.LoopGhost
import Derived.Test.YtggelmbnliajeaaDoorQAB
import Derived.Test.YtggelmbnliajeaaDoorQAA
namespace Go.Proofs.YtggelmbnliajeaaDoor
open Go.RowKit Go.Sort
/-- what operations make of tuples, and of what they make -/
inductive Clo (s : Int) (ops : List (Int × List Int)) (ar : Nat) (T : List (List Int)) : List Int → Prop
 | base {l : List Int} (h : l ∈ T) : Clo s ops ar T l
 | step {f : Int × List Int} {ts : List (List Int)} (hf : f ∈ ops) (hl : (ts.length : Int) = f.1) (h : ∀ l ∈ ts, Clo s ops ar T l) : Clo s ops ar T (madeL s f.2 ts ar)
def tupP (s : Int) (ar : Nat) (l : List Int) : Prop := l.length = ar ∧ ∀ a ∈ l, 0 ≤ a ∧ a ≤ s - 1
theorem madeL_in {s : Int} {f : Int × List Int} {ts : List (List Int)} {m : Nat} (hf : opOk s f) (ht : tupsOk s f.1 m ts) : tupP s m (madeL s f.2 ts m) := by
 refine ⟨madeL_len, fun a ha => ?_⟩
 obtain ⟨p, hp, rfl⟩ := List.mem_map.1 ha
 rw [madeV_op]
 have hp' : p < m := by simpa using hp
 exact opV_in hf (by rw [colL_len]; exact ht.1) (colL_in ht hp')
theorem clo_in {s : Int} {ops : List (Int × List Int)} {ar : Nat} {T : List (List Int)} (ho : ∀ f ∈ ops, opOk s f) (hT : ∀ l ∈ T, tupP s ar l) {l : List Int} (h : Clo s ops ar T l) : tupP s ar l := by
 induction h with
 | base h => exact hT _ h
 | step hf hl _ ih => exact madeL_in (ho _ hf) ⟨hl, fun l hl => ih l hl⟩
/-- an operation keeps a relation just if it makes a tuple of it of any tuples of it -/
theorem keeps_iff {s : Int} {f : Int × List Int} {ar : Nat} {R : List (List Int)} (hf : 1 ≤ f.1) : keepsP s f ((ar : Int), R) ↔ ∀ ts : List (List Int), (ts.length : Int) = f.1 → (∀ l ∈ ts, l ∈ R) → madeL s f.2 ts ar ∈ R := by
 constructor
 ·intro h ts hl hts
  have h0 : 0 < R.length := by
   cases ts with
   | nil => simp at hl; omega
   | cons a ts => exact List.length_pos_of_mem (hts a (List.mem_cons_self ..))
  obtain ⟨j, hj, hpj⟩ := picks_some (ts := R) (L := ts) hts h0
  have := h j (by rw [← hl, Int.toNat_natCast]; exact hj)
  unfold makes at this
  rw [← hl, Int.toNat_natCast] at this
  simp only [Int.toNat_natCast] at this
  rwa [hpj] at this
 ·intro h i hi
  have h0 : 0 < R.length := by
   rcases Nat.eq_zero_or_pos R.length with h | h
   ·have hi' : (i : Int) < (R.length : Int) ^ f.1.toNat := hi
    rw [h, show ((0 : Nat) : Int) = 0 from rfl, Int.zero_pow (by omega)] at hi'
    omega
   ·exact h
  have := h (picks R f.1.toNat i) (by rw [picks_len]; omega) (fun l hl => by
   obtain ⟨k, hk, rfl⟩ := List.mem_map.1 hl
   obtain ⟨k1, k2⟩ := dig_mem (by omega) hk
   have hkl : k.toNat < R.length := by omega
   rw [List.getD_eq_getElem?_getD, List.getElem?_eq_getElem hkl]
   exact List.getElem_mem hkl)
  unfold makes
  simpa using this
/-- a relation that is closed, and lies in the closure of what lies in it, is the closure -/
theorem clo_closed {s : Int} {ops : List (Int × List Int)} {ar : Nat} {T R : List (List Int)} (ho : ∀ f ∈ ops, opOk s f) (h1 : ∀ l ∈ T, l ∈ R) (h2 : ∀ l ∈ R, Clo s ops ar T l) (h3 : ∀ f ∈ ops, keepsP s f ((ar : Int), R)) {l : List Int} : l ∈ R ↔ Clo s ops ar T l := by
 refine ⟨h2 l, fun h => ?_⟩
 induction h with
 | base h => exact h1 _ h
 | step hf hl _ ih => exact (keeps_iff (ho _ hf).2.1.1).1 (h3 _ hf) _ hl ih
end Go.Proofs.YtggelmbnliajeaaDoor
namespace Go.Proofs.YtggelmbnliajeaaDoor
open Go.RowKit Go.Sort
/-- between some tuples and their closure -/
def Mid (s : Int) (ops : List (Int × List Int)) (ar : Nat) (T0 T : List (List Int)) : Prop := (∀ l ∈ T, tupP s ar l) ∧ (∀ l ∈ T0, l ∈ T) ∧ ∀ l ∈ T, Clo s ops ar T0 l
theorem Mid.add {s : Int} {ops : List (Int × List Int)} {ar : Nat} {T0 T : List (List Int)} (h : Mid s ops ar T0 T) {l : List Int} (h1 : tupP s ar l) (h2 : Clo s ops ar T0 l) : Mid s ops ar T0 (T ++ [l]) :=
 ⟨fun x hx => (List.mem_append.1 hx).elim (h.1 x) (fun h => by rw [List.mem_singleton.1 h]; exact h1), fun x hx => List.mem_append_left _ (h.2.1 x hx), fun x hx => (List.mem_append.1 hx).elim (h.2.2 x) (fun h => by rw [List.mem_singleton.1 h]; exact h2)⟩
end Go.Proofs.YtggelmbnliajeaaDoor
namespace Go.Proofs.YtggelmbnliajeaaDoor
open Go.RowKit Go.Sort
noncomputable def opsB (s : Int) (gs : List (Int × List Int)) : Bool := tb (sizeOk s ∧ ∀ g ∈ gs, opOk s g)
theorem opsB_yes {s : Int} {gs : List (Int × List Int)} (h : opsB s gs = true) : sizeOk s ∧ ∀ g ∈ gs, opOk s g := tb_iff.1 h
theorem areOpsN_any (w : World) {v : Value} {gs : List (Int × List Int)} (h : opsT.Rd w [v] gs) (s : Int) :
  Calls Tryd.prog 18 #[.int .i64 s, v] w fun e w' => e = .returned (.bool (opsB s gs)) ∧ Below w.heap.size w w' := by
 obtain ⟨va, vc, rfl⟩ := rd_slice h
 have H := Lib.hid h
 clear h
 cases b1 : inB s 1 4
 ·have HO : Hid (opsB s gs = false) := tb_false fun hh => by have := inB_true.2 hh.1; rw [b1] at this; cases this
  go_enter Tryd.func18, Tryd.ntmps18
  go_wp2_with (go_at_call 39; refine (isSize_any _ _).mono ?_; rintro e w' ⟨rfl, rfl⟩; rw [b1])
  go_ret
  exact ⟨ret_bool HO.out.symm, (by repeat (first | exact Below.refl _ _ | exact bA | assumption | refine Below.setCell ?_ (by first | omega | (simp; try omega)) _ | refine Below.alloc ?_ (by first | omega | (simp; try omega)) _ | refine Below.drew ?_ | refine bDN ?_ | refine bthen ?_ (by assumption)))⟩
 ·have HO : Hid (opsB s gs = !(anyB (fun g => !tb (opOk s g)) gs)) := by
   unfold Hid opsB anyB
   rw [Bool.eq_iff_iff, tb_iff]
   simp only [List.any_eq_false, Bool.not_eq_eq_eq_not, Bool.not_true]
   constructor
   ·rintro ⟨-, h⟩ x hx
    simp [tb_true (h x hx)]
   ·intro h
    refine ⟨inB_true.1 b1, fun g hg => ?_⟩
    have := h g hg
    simpa [tb_iff] using this
  go_enter Tryd.func18, Tryd.ntmps18
  go_wp2_with (go_at_call 39; refine (isSize_any _ _).mono ?_; rintro e w' ⟨rfl, rfl⟩; rw [b1])
  have hbA : Below w.heap.size w (w.alloc (.cells #[.int .i64 s] 2)) := bA
  refine (ContainsFuncOp_any _ (H.out.below hbA) (fun g => !tb (opOk s g)) 41 #[.pointer (some ⟨w.heap.size, 0, none⟩)] (enters Tryd.func41 (by kernel_rfl) rfl) (Lib.hid (fun W' hW' k hk cs hcs => areOps1_any W' hcs ((cellB hW' (by simp)).trans (by simp [go_sem]))))).mono ?_
  rintro e w2 ⟨rfl, hb2⟩
  cases hany : anyB (fun g => !tb (opOk s g)) gs
  ·rw [hany] at HO
   go_wp2_with fail
   go_ret
   exact ⟨ret_bool HO.out.symm, bthen hbA hb2⟩
  ·rw [hany] at HO
   go_wp2_with fail
   go_ret
   exact ⟨ret_bool HO.out.symm, bthen hbA hb2⟩
set_option maxHeartbeats 800000 in
theorem l02All_any (w : World) {v : Value} {gs : List (Int × List Int)} (h : opsT.Rd w [v] gs) (s : Int) :
  Calls Tryd.prog 12 #[.int .i64 s, v] w fun e w' => e = .returned (.bool (opsB s gs)) ∧ Quiet w w' := by
 obtain ⟨_, _, e1, hle, hle2, hcell⟩ := pairs_ex h
 obtain rfl : v = _ := by simpa using e1
 have H := Lib.hid h
 clear h e1
 go_enter Tryd.func12, Tryd.ntmps12
 go_wp2_with fail
 go_loopw [5] (fun i wr => ∃ k : Nat, k ≤ gs.length ∧ i = .int .i64 k ∧ noneB (fun r => !tb (opOk s r)) (gs.take k) ∧ Quiet w wr) (fun i _ => gs.length - (intOf i).toNat)
 case atStart => exact ⟨0, Nat.zero_le _, rfl, noneB_zero _ _, Quiet.refl _⟩
 case round =>
  obtain ⟨k, hk, rfl, ht, hqw⟩ := hrel
  have HT := Lib.hid ht
  clear ht
  by_cases hkl : k < gs.length
  ·obtain ⟨a, q, rfl, haa, -⟩ := hcell (by omega)
   have p := (pt_elem (E := opT) H.out hkl).below hqw.below
   cases hr : tb (opOk s gs[k])
   ·go_wp2_with fail
    refine (l02Ok_quiet wr p s).mono ?_
    rintro e w2 ⟨rfl, hq2⟩
    rw [hr]
    go_wp2_with fail
    go_ret
    exact ⟨ret_bool (tb_false (fun hh => by have := tb_true (hh.2 _ (List.getElem_mem hkl)); rw [hr] at this; cases this)).symm, hqw.then hq2⟩
   ·go_wp2_with fail
    refine (l02Ok_quiet wr p s).mono ?_
    rintro e w2 ⟨rfl, hq2⟩
    rw [hr]
    go_wp2_with fail
    go_roundw
    case rel => exact ⟨k + 1, by omega, by go_num, noneB_succ hkl HT.out (by rw [hr]; rfl), hqw.then hq2⟩
    case measure => simp [intOf]; omega
  ·obtain rfl : k = gs.length := by omega
   have HALL := Lib.hid (noneB_all HT.out)
   cases hs : inB s 1 4
   ·go_wp2_with (go_at_call 31; refine (l01Size_any _ _).mono ?_; rintro e w' ⟨rfl, rfl⟩)
    go_ret
    exact ⟨ret_bool ((tb_false (fun hr => by have := inB_true.2 hr.1; rw [hs] at this; cases this)).symm), hqw⟩
   have HR : Hid (opsB s gs = true) := tb_true ⟨inB_true.1 hs, HALL.out⟩
   go_wp2_with (go_at_call 31; refine (l01Size_any _ _).mono ?_; rintro e w' ⟨rfl, rfl⟩)
   go_ret
   exact ⟨ret_bool HR.out.symm, hqw⟩
end Go.Proofs.YtggelmbnliajeaaDoor
namespace Go.Proofs.YtggelmbnliajeaaDoor
open Go.RowKit Go.Sort
theorem nodup_leL {α : Type} [DecidableEq α] : ∀ {l m : List α}, l.Nodup → (∀ a ∈ l, a ∈ m) → l.length ≤ m.length
 | [], m, _, _ => Nat.zero_le _
 | a :: l, m, h, hs => by
  have h1 := List.nodup_cons.1 h
  have h2 : l.length ≤ (m.erase a).length := nodup_leL h1.2 fun b hb => by
   have hne : b ≠ a := fun e => h1.1 (e ▸ hb)
   exact (List.mem_erase_of_ne hne).2 (hs b (List.mem_cons_of_mem _ hb))
  have h3 := List.length_erase_of_mem (hs a (List.mem_cons_self ..))
  have h4 : 0 < m.length := List.length_pos_of_mem (hs a (List.mem_cons_self ..))
  simp only [List.length_cons]
  omega
/-- the closure has many members -/
def cloBig (s : Int) (ops : List (Int × List Int)) (n : Nat) (T : List (List Int)) : Prop := ∃ A : List (List Int), A.Nodup ∧ (∀ l ∈ A, Clo s ops n T l) ∧ 64 < A.length
def cloIs (s : Int) (ops : List (Int × List Int)) (n : Nat) (T M : List (List Int)) : Prop := M.Pairwise ltL ∧ ∀ l, l ∈ M ↔ Clo s ops n T l
open Classical in
/-- the closure, in order -/
noncomputable def cloM (s : Int) (ops : List (Int × List Int)) (n : Nat) (T : List (List Int)) : List (List Int) := if h : ∃ M, cloIs s ops n T M then Classical.choose h else []
theorem cloM_eq {s : Int} {ops : List (Int × List Int)} {n : Nat} {T M : List (List Int)} (h : cloIs s ops n T M) : M = cloM s ops n T := by
 have hx : ∃ M, cloIs s ops n T M := ⟨M, h⟩
 unfold cloM
 rw [dif_pos hx]
 have h2 := Classical.choose_spec hx
 exact pw_ext h.1 h2.1 fun a => (h.2 a).trans (h2.2 a).symm
theorem ltL_ne {a b : List Int} (h : ltL a b) : a ≠ b := fun e => by
 subst e
 unfold ltL at h
 rw [cmpL_self] at h
 omega
theorem pw_nodup {M : List (List Int)} (h : M.Pairwise ltL) : M.Nodup := List.Pairwise.imp (fun h => ltL_ne h) h
theorem big_no {s : Int} {ops : List (Int × List Int)} {n : Nat} {T M : List (List Int)} (hM : ∀ l, l ∈ M ↔ Clo s ops n T l) (hl : M.length ≤ 64) : ¬ cloBig s ops n T := fun ⟨A, h1, h2, h3⟩ => by
 have := nodup_leL h1 fun a ha => (hM a).2 (h2 a ha)
 omega
/-- the tables of the projections -/
def projs (s : Int) (ar N : Nat) : List (List Int) := (List.range ar).map fun p => projT s ar N p
noncomputable def cuT (s : Int) (ar : Nat) : List (List Int) := projs s ar (s ^ ar).toNat
noncomputable def cuC (s ar : Int) (ops : List (Int × List Int)) : Int := match opsB s ops with
 | false => 1
 | true => match decide (64 < ops.length) with
  | true => 3
  | false => match inB ar 1 3 with
   | false => 2
   | true => match tb (cloBig s ops (s ^ ar.toNat).toNat (cuT s ar.toNat)) with
    | true => 3
    | false => 0
noncomputable def cuV (s ar : Int) (ops : List (Int × List Int)) : List (Int × List Int) := match cuC s ar ops == 0 with
 | true => (cloM s ops (s ^ ar.toNat).toNat (cuT s ar.toNat)).map fun t => (ar, t)
 | false => []
section
variable {s ar : Int} {ops : List (Int × List Int)}
theorem cuC_1 (h : opsB s ops = false) : cuC s ar ops = 1 := by simp only [cuC, h]
theorem cuC_2 (h : opsB s ops = true) (h2 : decide (64 < ops.length) = true) : cuC s ar ops = 3 := by simp only [cuC, h, h2]
theorem cuC_3 (h : opsB s ops = true) (h2 : decide (64 < ops.length) = false) (h3 : inB ar 1 3 = false) : cuC s ar ops = 2 := by simp only [cuC, h, h2, h3]
theorem cuC_4 (h : opsB s ops = true) (h2 : decide (64 < ops.length) = false) (h3 : inB ar 1 3 = true) (h4 : cloBig s ops (s ^ ar.toNat).toNat (cuT s ar.toNat)) : cuC s ar ops = 3 := by simp only [cuC, h, h2, h3, tb_true h4]
theorem cuC_5 (h : opsB s ops = true) (h2 : decide (64 < ops.length) = false) (h3 : inB ar 1 3 = true) (h4 : ¬ cloBig s ops (s ^ ar.toNat).toNat (cuT s ar.toNat)) : cuC s ar ops = 0 := by simp only [cuC, h, h2, h3, tb_false h4]
theorem cuV_no (h : cuC s ar ops ≠ 0) : cuV s ar ops = [] := by
 have : (cuC s ar ops == 0) = false := by simpa using h
 simp [cuV, this]
theorem cuV_ok {M : List (List Int)} (h : cuC s ar ops = 0) (hM : cloIs s ops (s ^ ar.toNat).toNat (cuT s ar.toNat) M) : cuV s ar ops = M.map fun t => (ar, t) := by
 simp only [cuV, h, ← cloM_eq hM]
 rfl
theorem proj_in {s : Int} {ar N p : Nat} (hs : 1 ≤ s) (hp : p < ar) : tupP s N (projT s ar N p) := by
 refine ⟨tabOf_len, fun a ha => ?_⟩
 obtain ⟨k, _, rfl⟩ := List.mem_map.1 ha
 have hpl : p < (digL s (k : Int) ar).length := by rw [digL_len]; exact hp
 have e : (digL s (k : Int) ar).getD p 0 = (digL s (k : Int) ar)[p] := by rw [List.getD_eq_getElem?_getD, List.getElem?_eq_getElem hpl]; rfl
 show 0 ≤ (digL s (k : Int) ar).getD p 0 ∧ (digL s (k : Int) ar).getD p 0 ≤ s - 1
 rw [e]
 exact digL_in hs _ (List.getElem_mem hpl)
theorem projs_in {s : Int} {ar N : Nat} (hs : 1 ≤ s) : ∀ l ∈ projs s ar N, tupP s N l := fun l hl => by
 obtain ⟨p, hp, rfl⟩ := List.mem_map.1 hl
 exact proj_in hs (by simpa using hp)
theorem projs_len {s : Int} {ar N : Nat} : (projs s ar N).length = ar := by simp [projs]
theorem cu_cnt : cntOps (cuV s ar ops) ≤ 1000000 := by
 by_cases h : cuC s ar ops = 0
 ·have h1 : opsB s ops = true := by
   cases h1 : opsB s ops
   ·rw [cuC_1 h1] at h; omega
   ·rfl
  have h2 : decide (64 < ops.length) = false := by
   cases h2 : decide (64 < ops.length)
   ·rfl
   ·rw [cuC_2 h1 h2] at h; omega
  have h3 : inB ar 1 3 = true := by
   cases h3 : inB ar 1 3
   ·rw [cuC_3 h1 h2 h3] at h; omega
   ·rfl
  have hnb : ¬ cloBig s ops (s ^ ar.toNat).toNat (cuT s ar.toNat) := fun hb => by rw [cuC_4 h1 h2 h3 hb] at h; omega
  have hs := (opsB_yes h1).1
  have hs4 : 1 ≤ s ∧ s ≤ 4 := hs
  have ha := inB_true.1 h3
  by_cases hx : ∃ M, cloIs s ops (s ^ ar.toNat).toNat (cuT s ar.toNat) M
  ·obtain ⟨M, hM⟩ := hx
   rw [cuV_ok h hM]
   have hl : M.length ≤ 64 := by
    rcases Nat.lt_or_ge 64 M.length with hg | hg
    ·exact absurd ⟨M, pw_nodup hM.1, fun l hl => (hM.2 l).1 hl, hg⟩ hnb
    ·exact hg
   have hN : (s ^ ar.toNat).toNat ≤ 64 := by
    have h1 := pow_mono' (s := s) (c := 4) (by omega) (by omega) ar.toNat
    rcases (show ar.toNat = 1 ∨ ar.toNat = 2 ∨ ar.toNat = 3 by omega) with e | e | e <;> rw [e] at h1 ⊢ <;> simp at h1 <;> omega
   have h4 := sumL_bd (f := cntOp1) (c := 65) (xs := M.map fun t => (ar, t)) (fun y hy => by
    obtain ⟨t, ht, rfl⟩ := List.mem_map.1 hy
    have := (clo_in (opsB_yes h1).2 (projs_in (by omega)) ((hM.2 t).1 ht)).1
    unfold cntOp1 cntI
    dsimp only
    omega)
   unfold cntOps
   rw [List.length_map] at h4
   omega
  ·have : cuV s ar ops = [] := by
    simp only [cuV, h, cloM]
    rw [dif_neg hx]
    rfl
   rw [this]; decide
 ·rw [cuV_no h]; decide
end
end Go.Proofs.YtggelmbnliajeaaDoor
namespace Go.Proofs.YtggelmbnliajeaaDoor
open Go.RowKit Go.Sort
/-- a row as it stands in memory, and what it reads -/
abbrev PV := Value × List Int
theorem cmpL_total : ∀ {a b : List Int}, ¬ cmpL a b < 0 → a = b ∨ ltL b a
 | [], [], _ => .inl rfl
 | [], _ :: _, h => by simp [cmpL] at h
 | _ :: _, [], _ => .inr (by simp [ltL, cmpL])
 | x :: a, y :: b, h => by
  unfold ltL
  simp only [cmpL] at h ⊢
  by_cases e : x = y
  ·subst e
   simp only [if_true] at h ⊢
   rcases cmpL_total h with h1 | h1
   ·exact .inl (by rw [h1])
   ·exact .inr h1
  ·rw [if_neg e, cmpI_neg] at h
   rw [if_neg (fun e' => e e'.symm), cmpI_neg]
   exact .inr (by omega)
def leP (a b : PV) : Prop := a.2 = b.2 ∨ ltL a.2 b.2
theorem leP_of {a b : PV} (h : ¬ cmpL b.2 a.2 < 0) : leP a b := (cmpL_total h).elim (fun e => .inl e.symm) .inr
end Go.Proofs.YtggelmbnliajeaaDoor
namespace Go.Proofs.YtggelmbnliajeaaDoor
open Go.RowKit Go.Sort
/-- block b holds the values of L from place o on; what they read lies elsewhere -/
def SR (w : World) (b o : Nat) (L : List PV) : Prop := b < w.heap.size ∧ (∀ i, w.frozen? ⟨b, i, none⟩ = false) ∧ ∀ i (h : i < L.length), w.cell? ⟨b, o + i, none⟩ = some (L[i]).1 ∧ intsT.RdP (fun q => q ≠ b) w [(L[i]).1] (L[i]).2
theorem SR.below {w w' : World} {b o : Nat} {L : List PV} (h : SR w b o L) (hb : Below w.heap.size w w') : SR w' b o L :=
 ⟨Nat.lt_of_lt_of_le h.1 hb.size, fun i => (frozenB hb h.1).trans (h.2.1 i), fun i hi => ⟨(cellB hb h.1).trans (h.2.2 i hi).1, (h.2.2 i hi).2.below hb⟩⟩
theorem tchP_cell {w : World} {b i : Nat} {v : Value} : TchP (fun q => q = b) w (w.setCell ⟨b, i, none⟩ v) :=
 ⟨rfl, rfl, rfl, Nat.le_of_eq (size_set ..).symm, fun _ _ hn => Below.heap_setCell _ _ _ _ (fun e => hn e)⟩
theorem SR.set {w : World} {b o : Nat} {L : List PV} (h : SR w b o L) {j : Nat} (hj : j < L.length) {x : PV} (hx : intsT.RdP (fun q => q ≠ b) w [x.1] x.2) : SR (w.setCell ⟨b, o + j, none⟩ x.1) b o (L.set j x) := by
 have hr : ∀ (y : PV), intsT.RdP (fun q => q ≠ b) w [y.1] y.2 → intsT.RdP (fun q => q ≠ b) (w.setCell ⟨b, o + j, none⟩ x.1) [y.1] y.2 := fun y hy => hy.tchP tchP_cell fun k _ hk e => hk e
 refine ⟨by rw [size_set]; exact h.1, fun i => (World.frozen?_setCell _ _ _ _).trans (h.2.1 i), fun i hi => ?_⟩
 have hi' : i < L.length := by simpa using hi
 rw [List.getElem_set]
 by_cases e : j = i
 ·subst e
  simp only [if_true]
  exact ⟨World.cell?_setCell_same _ _ _ (h.2.2 j hj).1, hr x hx⟩
 ·simp only [if_neg e]
  exact ⟨(World.cell?_setCell_other _ _ _ _ (by simp)).trans (h.2.2 i hi').1, hr _ (h.2.2 i hi').2⟩
end Go.Proofs.YtggelmbnliajeaaDoor
namespace Go.Proofs.YtggelmbnliajeaaDoor
open Go.RowKit Go.Sort
end Go.Proofs.YtggelmbnliajeaaDoor
namespace Go.Proofs.YtggelmbnliajeaaDoor
open Go.RowKit Go.Sort
/-- the block of a row of numbers -/
def bkV : Value → List Nat
 | .slice (some a) n _ => if n = 0 then [] else [a.block]
 | _ => []
theorem bkV_ints {w : World} {v : Value} {x : List Int} {fp : List Nat} (h : intsT.rd w [v] x fp) : fp = bkV v := by
 obtain ⟨ad, cap, hv, h1, h2, h3⟩ := h
 obtain rfl : v = _ := by simpa using hv
 rcases h3 with ⟨h0, rfl⟩ | ⟨h0, b, o, fps, rfl, hb, rfl, h4⟩
 ·cases ad <;> simp [bkV, h0]
 ·have e : (List.range x.length).flatMap fps = [] := by
   rw [List.flatMap_eq_nil_iff]
   intro i hi
   obtain ⟨cs, ⟨_, _, e⟩, _⟩ := h4 i (by simpa using hi)
   exact e
  rw [e]
  simp only [bkV]
  rw [if_neg (by omega)]
/-- the rows' blocks: each once, new, and free -/
def SRf (base : Nat) (w : World) (L : List PV) : Prop := (L.flatMap (fun p => bkV p.1)).Nodup ∧ ∀ p ∈ L, ∀ k ∈ bkV p.1, base ≤ k ∧ k < w.heap.size ∧ ∀ o, w.frozen? ⟨k, o, none⟩ = false
theorem SRf.perm {base : Nat} {w : World} {L M : List PV} (h : SRf base w L) (hp : M.Perm L) : SRf base w M := ⟨(hp.flatMap_right _).nodup_iff.2 h.1, fun p hp' => h.2 p (hp.mem_iff.1 hp')⟩
theorem sub_flat {α β : Type} {f : α → List β} {M L : List α} (h : M.Sublist L) : (M.flatMap f).Sublist (L.flatMap f) := by
 induction h with
 | slnil => exact List.Sublist.refl _
 | cons a _ ih => rw [List.flatMap_cons]; exact ih.trans (List.sublist_append_right _ _)
 | cons_cons a _ ih => rw [List.flatMap_cons, List.flatMap_cons]; exact (List.Sublist.refl _).append ih
theorem SRf.sub {base : Nat} {w : World} {L M : List PV} (h : SRf base w L) (hp : M.Sublist L) : SRf base w M := ⟨(sub_flat hp).nodup h.1, fun p hp' => h.2 p (hp.subset hp')⟩
theorem flat_get {L : List PV} : (List.range L.length).flatMap (fun i => bkV (L.getD i (undef, [])).1) = L.flatMap (fun p => bkV p.1) := by
 rw [List.flatMap_def, List.flatMap_def]
 congr 1
 refine List.ext_getElem (by simp) fun i h h' => ?_
 have hi : i < L.length := by simpa using h
 simp [List.getD_eq_getElem?_getD, hi]
/-- the rows stay when the row of rows alone is written -/
theorem SRf.tch {base b : Nat} {w w' : World} {L : List PV} (h : SRf base w L) (hn : ∀ p ∈ L, ∀ k ∈ bkV p.1, k ≠ b) (ht : TchP (fun q => q = b) w w') : SRf base w' L :=
 ⟨h.1, fun p hp k hk => ⟨(h.2 p hp k hk).1, Nat.lt_of_lt_of_le (h.2 p hp k hk).2.1 ht.size, fun o => (ht.frozen (h.2 p hp k hk).2.1 (hn p hp k hk)).trans ((h.2 p hp k hk).2.2 o)⟩⟩
theorem SR.apart {w : World} {b o : Nat} {L : List PV} (h : SR w b o L) : ∀ p ∈ L, ∀ k ∈ bkV p.1, k ≠ b := fun p hp k hk => by
 obtain ⟨i, hi, rfl⟩ := List.mem_iff_getElem.1 hp
 obtain ⟨fp, h1, h2⟩ := (h.2.2 i hi).2
 rw [bkV_ints h1] at h2
 exact h2 k hk
theorem SR.take {w : World} {b o : Nat} {L : List PV} (h : SR w b o L) (k : Nat) : SR w b o (L.take k) := ⟨h.1, h.2.1, fun i hi => by
 rw [List.getElem_take]
 exact h.2.2 i (by rw [List.length_take] at hi; omega)⟩
/-- cells behind a row's first ones are written -/
theorem SR.high {w : World} {b o j : Nat} {v : Value} {L : List PV} (h : SR w b o L) (hj : L.length ≤ j) : SR (w.setCell ⟨b, o + j, none⟩ v) b o L :=
 ⟨by rw [size_set]; exact h.1, fun i => (World.frozen?_setCell _ _ _ _).trans (h.2.1 i), fun i hi => ⟨(World.cell?_setCell_other _ _ _ _ (by intro e; simp only [Addr.mk.injEq] at e; omega)).trans (h.2.2 i hi).1, (h.2.2 i hi).2.tchP tchP_cell fun k _ hk e => hk e⟩⟩
theorem SR.clear {b o : Nat} {L : List PV} : ∀ (zs : List Value) (k : Nat) (w : World), L.length ≤ k → SR w b o L → SR (w.setCells b (o + k) zs) b o L ∧ TchP (fun q => q = b) w (w.setCells b (o + k) zs)
 | [], k, w, _, h => ⟨h, TchP.refl _ _⟩
 | z :: zs, k, w, hk, h => by
  obtain ⟨h1, h2⟩ := SR.clear zs (k + 1) _ (by omega) (h.high (v := z) hk)
  exact ⟨h1, tchP_cell.then h2 (fun _ _ h => h)⟩
end Go.Proofs.YtggelmbnliajeaaDoor
namespace Go.Proofs.YtggelmbnliajeaaDoor
open Go.RowKit Go.Sort
def cellsOf (ar : Int) (L : List PV) : List Value := L.flatMap fun p => [.int .i64 ar, p.1]
theorem cellsOf_len {ar : Int} : ∀ {L : List PV}, (cellsOf ar L).length = L.length * 2
 | [] => rfl
 | p :: L => by
  have := cellsOf_len (ar := ar) (L := L)
  unfold cellsOf at this ⊢
  rw [List.flatMap_cons, List.length_append, this]
  simp
  omega
theorem cellsOf_app {ar : Int} {L M : List PV} : cellsOf ar (L ++ M) = cellsOf ar L ++ cellsOf ar M := List.flatMap_append
theorem cellsOf_at {ar : Int} : ∀ {L : List PV} {i : Nat} (h : i < L.length), (cellsOf ar L)[i * 2]? = some (.int .i64 ar) ∧ (cellsOf ar L)[i * 2 + 1]? = some (L[i]).1
 | p :: L, 0, _ => ⟨rfl, rfl⟩
 | p :: L, i + 1, h => by
  have := cellsOf_at (ar := ar) (L := L) (i := i) (by simpa using h)
  have e : cellsOf ar (p :: L) = .int .i64 ar :: p.1 :: cellsOf ar L := rfl
  rw [e, show (i + 1) * 2 = i * 2 + 2 by omega]
  exact ⟨this.1, this.2⟩
theorem add_atO {g o j : Nat} : (⟨g, o, none⟩ : Addr).add j = ⟨g, o + j, none⟩ := by
 by_cases h : j = 0
 ·subst h; simp [Addr.add]
 ·simp [Addr.add, h]
theorem cellsOf_src {ar : Int} {w : World} {b o : Nat} {M : List PV} (h : ∀ i (h : i < M.length), w.cell? ⟨b, o + i * 2, none⟩ = some (.int .i64 ar) ∧ w.cell? ⟨b, o + i * 2 + 1, none⟩ = some (M[i]).1) : ∀ (j : Nat) (u : Value), (cellsOf ar M)[j]? = some u → w.cell? ((⟨b, o, none⟩ : Addr).add j) = some u := fun j u hj => by
 obtain ⟨hj', -⟩ := List.getElem?_eq_some_iff.1 hj
 rw [cellsOf_len] at hj'
 have hi : j / 2 < M.length := by omega
 obtain ⟨c0, c1⟩ := cellsOf_at (ar := ar) hi
 obtain ⟨d0, d1⟩ := h (j / 2) hi
 rw [add_atO]
 rcases (show j = j / 2 * 2 ∨ j = j / 2 * 2 + 1 by omega) with e | e
 ·rw [e] at hj ⊢
  rw [c0] at hj
  rw [← Option.some.inj hj]
  exact d0
 ·rw [e] at hj ⊢
  rw [c1] at hj
  rw [← Option.some.inj hj, ← Nat.add_assoc]
  exact d1
theorem cellsOf_one {ar : Int} {L : List PV} (h : ∀ p ∈ L, p.1.oneCell' = true) : ∀ u ∈ cellsOf ar L, u.oneCell' = true := fun u hu => by
 obtain ⟨p, hp, hu⟩ := List.mem_flatMap.1 hu
 rcases List.mem_cons.1 hu with rfl | hu
 ·rfl
 ·rw [List.mem_singleton.1 hu]; exact h p hp
theorem run_pushRow {P : Program} (w : World) (t ty e : TypeId) {bytes : Nat} (hT : ElT P t e 2 bytes) {base n : Nat} {v : Value} {xs : List Value} (hown : w.ownsRow base e 2 v n xs)
  {ad : Option Addr} {m c : Nat} {news : List Value} (hl : news.length = m * 2) (hsrc : 0 < m → ∃ a, ad = some a ∧ ∀ j u, news[j]? = some u → w.cell? (a.add j) = some u) (h1 : ∀ u ∈ news, u.oneCell' = true)
  (hlen : n + m ≤ 1000000) (hby : bytes ≤ 100000) (hb : base ≤ w.heap.size) :
  ∃ v' w', (Builtin.append_ #[t, t] ty #[v, .slice ad m c]).run P w = .ok v' w' ∧ w'.ownsRow base e 2 v' (n + m) (xs ++ news) ∧ w.grownBy w' v.ownBlock ∧ (v'.ownBlock = v.ownBlock ∨ v'.ownBlock = some w.heap.size) := by
 rcases Nat.eq_zero_or_pos m with h0 | h0
 ·subst h0
  obtain rfl := List.eq_nil_of_length_eq_zero (by omega : news.length = 0)
  exact ⟨v, w, run_append_zero w base t ty e hT v n xs hown ad c, by simpa using hown, ⟨rfl, rfl, rfl, Nat.le_refl _, fun _ _ _ => rfl⟩, .inl rfl⟩
 ·obtain ⟨a, rfl, hs⟩ := hsrc h0
  obtain ⟨i, z, ht, hi, hz, hsz, hbt', hzs, hp⟩ := id hT
  have hlen' : (n + m) * bytes ≤ 140737488355328 := Nat.le_trans (Nat.mul_le_mul hlen hby) (by decide)
  obtain ⟨v', w', hr, h2, h3, h4⟩ := run_append_own (P := P) w base t ty e i z 2 bytes ht hi hz hsz hbt' hzs hp v n xs hown a m c news hl hs h1 (by unfold maxLen; omega) hlen' hb
  exact ⟨v', w', hr, h2, h3, run_push_block w base t ty e hT v n xs hown a m c news hl hs h1 (by unfold maxLen; omega) hlen' h0 v' w' hr⟩
theorem wpList_pushRow {P : Program} (w : World) {ops : Array Oper} {rest : List Oper} {o : Oper} {a : Act} {Q : Exit → Act → World → Prop} (hgd : o.guard = none) (s x : Operand) (t e : TypeId) {bytes : Nat}
  (ho : o.op = .call { callee := .builtin .append, args := #[s, x], argTypes := #[t, t] }) (hT : ElT P t e 2 bytes)
  {base n : Nat} {v : Value} {xs : List Value} (hs : a.eval s = v) (hown : w.ownsRow base e 2 v n xs)
  {ad : Option Addr} {m c : Nat} {news : List Value} (hx : a.eval x = .slice ad m c) (hl : news.length = m * 2) (hsrc : 0 < m → ∃ a, ad = some a ∧ ∀ j u, news[j]? = some u → w.cell? (a.add j) = some u) (h1 : ∀ u ∈ news, u.oneCell' = true)
  (hlen : n + m ≤ 1000000) (hby : bytes ≤ 100000) (hb : base ≤ w.heap.size)
  (h : ∀ v' w', w'.ownsRow base e 2 v' (n + m) (xs ++ news) → w.grownBy w' v.ownBlock → (v'.ownBlock = v.ownBlock ∨ v'.ownBlock = some w.heap.size) → wpList P ops Q rest (a.put o.dst v') w') : wpList P ops Q (o :: rest) a w := by
 refine wpList_plain hgd fun K hK => ?_
 obtain ⟨v', w', hr, h2, h3, h4⟩ := run_pushRow (P := P) w t o.type e hT hown (ad := ad) (c := c) hl hsrc h1 hlen hby hb
 unfold Oper.wp execOp
 simp only [ho, resolve, invoke, builtin, Sem.run_bind, Sem.run_pure, Result.andThen_ok, List.map_toArray, List.map_cons, List.map_nil, hs, hx, hr]
 exact hK _ _ (h v' w' h2 h3 h4)
theorem step_pushRow {P : Program} {K : Act → World → Prop} {Ee : Prop} (w : World) {ops : Array Oper} {o : Oper} {a : Act} {Q : Exit → Act → World → Prop} (hgd : o.guard = none) (s x : Operand) (t e : TypeId) {bytes : Nat}
  (ho : o.op = .call { callee := .builtin .append, args := #[s, x], argTypes := #[t, t] }) (hT : ElT P t e 2 bytes)
  {base n : Nat} {v : Value} {xs : List Value} (hs : a.eval s = v) (hown : w.ownsRow base e 2 v n xs)
  {ad : Option Addr} {m c : Nat} {news : List Value} (hx : a.eval x = .slice ad m c) (hl : news.length = m * 2) (hsrc : 0 < m → ∃ a, ad = some a ∧ ∀ j u, news[j]? = some u → w.cell? (a.add j) = some u) (h1 : ∀ u ∈ news, u.oneCell' = true)
  (hlen : n + m ≤ 1000000) (hby : bytes ≤ 100000) (hb : base ≤ w.heap.size)
  (h : ∀ v' w', w'.ownsRow base e 2 v' (n + m) (xs ++ news) → w.grownBy w' v.ownBlock → (v'.ownBlock = v.ownBlock ∨ v'.ownBlock = some w.heap.size) → K (a.put o.dst v') w') : if Region.wanted o (yielded ops a.tmps) = true then Oper.wp P o a w K Q else Ee := by
 rw [if_pos (by simp [Region.wanted, hgd])]
 obtain ⟨v', w', hr, h2, h3, h4⟩ := run_pushRow (P := P) w t o.type e hT hown (ad := ad) (c := c) hl hsrc h1 hlen hby hb
 unfold Oper.wp execOp
 simp only [ho, resolve, invoke, builtin, Sem.run_bind, Sem.run_pure, Result.andThen_ok, List.map_toArray, List.map_cons, List.map_nil, hs, hx, hr]
 exact h v' w' h2 h3 h4
theorem own_shape {base e sz n : Nat} {w : World} {v : Value} {xs : List Value} (h : w.ownsRow base e sz v n xs) (h0 : 0 < n) : ∃ g cap, v = .slice (some ⟨g, 0, none⟩) n cap ∧ n ≤ cap ∧ base ≤ g ∧ g < w.heap.size := by
 rcases h.2 with ⟨rfl, h'⟩ | ⟨g, cap, cur, rfl, hg, hh, hc, _⟩
 ·omega
 ·exact ⟨g, cap, rfl, hc, hg, lt_of_block hh⟩
/-- a list of operations in new memory: the values of its tables, and what they read -/
structure OpL (base : Nat) (ar : Int) (w : World) (v : Value) (L : List PV) : Prop where
 row : ∃ b cap, v = .slice (some ⟨b, 0, none⟩) L.length cap ∧ L.length ≤ cap ∧ base ≤ b ∧ b < w.heap.size ∧ (∀ i, w.frozen? ⟨b, i, none⟩ = false) ∧ (∀ p ∈ L, b ∉ bkV p.1) ∧
  ∀ i (h : i < L.length), w.cell? ⟨b, i * 2, none⟩ = some (.int .i64 ar) ∧ w.cell? ⟨b, i * 2 + 1, none⟩ = some (L[i]).1
 tab : SRf base w L
 rd : ∀ p ∈ L, intsT.Rd w [p.1] p.2
section
variable {base : Nat} {ar : Int} {w w' : World} {v : Value} {L : List PV}
theorem SRf.below {w w' : World} (h : SRf base w L) (hb : Below w.heap.size w w') : SRf base w' L :=
 ⟨h.1, fun p hp k hk => ⟨(h.2 p hp k hk).1, Nat.lt_of_lt_of_le (h.2 p hp k hk).2.1 hb.size, fun o => (frozenB hb (h.2 p hp k hk).2.1).trans ((h.2 p hp k hk).2.2 o)⟩⟩
theorem OpL.below (h : OpL base ar w v L) (hb : Below w.heap.size w w') : OpL base ar w' v L := by
 obtain ⟨⟨b, cap, h1, h2, h3, h4, h5, h6, h7⟩, h8, h9⟩ := h
 exact ⟨⟨b, cap, h1, h2, h3, Nat.lt_of_lt_of_le h4 hb.size, fun i => (frozenB hb h4).trans (h5 i), h6, fun i hi => ⟨(cellB hb h4).trans (h7 i hi).1, (cellB hb h4).trans (h7 i hi).2⟩⟩, h8.below hb, fun p hp => (h9 p hp).below hb⟩
/-- the row that an append has made -/
theorem OpL.of_own {e b0 : Nat} (h : w.ownsRow b0 e 2 v L.length (cellsOf ar L)) (hv : ∃ b cap, v = .slice (some ⟨b, 0, none⟩) L.length cap) (hb : base ≤ b0) (hne : ∀ g, v.ownBlock = some g → ∀ p ∈ L, g ∉ bkV p.1) (ht : SRf base w L) (hr : ∀ p ∈ L, intsT.Rd w [p.1] p.2) : OpL base ar w v L := by
 obtain ⟨b, cap, rfl⟩ := hv
 have hlt := h.lt b rfl
 refine ⟨⟨b, cap, rfl, ?_, Nat.le_trans hb hlt.1, hlt.2, fun i => World.ownsRow.frozenAt h i, hne b rfl, fun i hi => ?_⟩, ht, hr⟩
 ·rcases h.2 with ⟨h', _⟩ | ⟨g', cap', cur, hg', _, _, hc, _⟩
  ·simp at h'
  ·simp only [Value.slice.injEq] at hg'
   omega
 ·obtain ⟨c0, c1⟩ := cellsOf_at (ar := ar) hi
  exact ⟨(World.ownsRow.cellAt h _ (by omega)).trans c0, (World.ownsRow.cellAt h _ (by omega)).trans c1⟩
theorem OpL.fr (h : OpL base ar w v L) (hI : I64 ar) (hl : L.length ≤ capMax) : opsT.Fr base w [v] (L.map fun p => (ar, p.2)) := by
 obtain ⟨⟨b, cap, rfl, h2, h3, h4, h5, h6, h7⟩, h8, h9⟩ := h
 have hlen : (L.map fun p : PV => (ar, p.2)).length = L.length := List.length_map ..
 rcases Nat.eq_zero_or_pos L.length with h0 | h0
 ·obtain rfl := List.eq_nil_of_length_eq_zero h0
  exact fr_nil
 refine ⟨b :: (List.range (L.map fun p : PV => (ar, p.2)).length).flatMap (fun i => bkV (L.getD i (undef, [])).1), ⟨some ⟨b, 0, none⟩, cap, by rw [hlen], by rw [hlen]; exact h2, by rw [hlen]; exact hl, .inr ⟨by rw [hlen]; exact h0, b, 0, _, rfl, h4, rfl, fun i hi => ?_⟩⟩, ?_, ?_, ?_⟩
 ·have hi' : i < L.length := by rw [hlen] at hi; exact hi
  obtain ⟨fp, g2⟩ := h9 _ (List.getElem_mem hi')
  obtain ⟨d0, d1⟩ := h7 i hi'
  refine ⟨[.int .i64 ar, (L[i]).1], ⟨[(L[i]).1], by rw [List.getElem_map], by rw [List.getElem_map]; exact hI, ?_⟩, fun j hj => ?_⟩
  ·rw [List.getElem_map]
   have e : (L.getD i (undef, [])).1 = (L[i]).1 := by simp [List.getD_eq_getElem?_getD, hi']
   rw [e, ← bkV_ints g2]
   exact g2
  ·rcases (show j = 0 ∨ j = 1 by simp at hj; omega) with rfl | rfl
   ·simpa [Ty.slice, Ty.cons] using d0
   ·simpa [Ty.slice, Ty.cons] using d1
 all_goals rw [hlen, flat_get]
 ·exact List.nodup_cons.2 ⟨fun hm => by
   obtain ⟨p, hp, hk⟩ := List.mem_flatMap.1 hm
   exact h6 p hp hk, h8.1⟩
 ·intro k hk
  rcases List.mem_cons.1 hk with rfl | hk
  ·exact h3
  ·obtain ⟨p, hp, hk⟩ := List.mem_flatMap.1 hk
   exact (h8.2 p hp k hk).1
 ·intro k hk i
  rcases List.mem_cons.1 hk with rfl | hk
  ·exact h5 i
  ·obtain ⟨p, hp, hk⟩ := List.mem_flatMap.1 hk
   exact (h8.2 p hp k hk).2.2 i
end
end Go.Proofs.YtggelmbnliajeaaDoor
namespace Go.Proofs.YtggelmbnliajeaaDoor
open Go.RowKit Go.Sort
theorem fnPut_src {ar : Int} {w : World} {b : Nat} {L : List PV} (h : ∀ i (h : i < L.length), w.cell? ⟨b, i * 2, none⟩ = some (.int .i64 ar) ∧ w.cell? ⟨b, i * 2 + 1, none⟩ = some (L[i]).1) (k : Nat) : ∀ i (h : i < (L.drop k).length), w.cell? ⟨b, k * 2 + i * 2, none⟩ = some (.int .i64 ar) ∧ w.cell? ⟨b, k * 2 + i * 2 + 1, none⟩ = some ((L.drop k)[i]).1 := fun i hi => by
 have hi' : k + i < L.length := by rw [List.length_drop] at hi; omega
 have := h (k + i) hi'
 rw [List.getElem_drop, show k * 2 + i * 2 = (k + i) * 2 by omega]
 exact this
theorem take_src {ar : Int} {w : World} {b : Nat} {L : List PV} (h : ∀ i (h : i < L.length), w.cell? ⟨b, i * 2, none⟩ = some (.int .i64 ar) ∧ w.cell? ⟨b, i * 2 + 1, none⟩ = some (L[i]).1) (k : Nat) : ∀ i (h : i < (L.take k).length), w.cell? ⟨b, 0 + i * 2, none⟩ = some (.int .i64 ar) ∧ w.cell? ⟨b, 0 + i * 2 + 1, none⟩ = some ((L.take k)[i]).1 := fun i hi => by
 have hi' : i < L.length := by rw [List.length_take] at hi; omega
 rw [List.getElem_take, Nat.zero_add]
 exact h i hi'
/-- the list with one more at its place -/
def putL (L : List PV) (k : Nat) (x : PV) : List PV := L.take k ++ x :: L.drop k
theorem putL_perm {L : List PV} {k : Nat} {x : PV} : (putL L k x).Perm (x :: L) := by
 unfold putL
 refine List.perm_middle.trans ?_
 rw [List.take_append_drop]
theorem putL_len {L : List PV} {k : Nat} {x : PV} : (putL L k x).length = L.length + 1 := by rw [putL_perm.length_eq]; simp
theorem putL_pw {L : List PV} {k : Nat} {x : PV} (h : (L.map (·.2)).Pairwise ltL) (h1 : ∀ j (hj : j < L.length), j < k → ltL (L[j]).2 x.2) (h2 : ∀ hk : k < L.length, ltL x.2 (L[k]).2) : ((putL L k x).map (·.2)).Pairwise ltL := by
 rw [List.pairwise_map] at h ⊢
 unfold putL
 rw [List.pairwise_append]
 have hd := h.sublist (List.drop_sublist k L)
 refine ⟨h.sublist (List.take_sublist k L), List.pairwise_cons.2 ⟨fun y hy => ?_, hd⟩, fun a ha b hb => ?_⟩
 ·obtain ⟨i, hi, rfl⟩ := List.mem_iff_getElem.1 hy
  have hi' : k + i < L.length := by rw [List.length_drop] at hi; omega
  rw [List.getElem_drop]
  rcases Nat.eq_zero_or_pos i with h0 | h0
  ·subst h0; exact h2 (by omega)
  ·exact ltL_trans (h2 (by omega)) (List.pairwise_iff_getElem.1 h k (k + i) (by omega) hi' (by omega))
 ·obtain ⟨i, hi, rfl⟩ := List.mem_take_iff_getElem.1 ha
  have hik : i < k := by omega
  have hil : i < L.length := by omega
  rcases List.mem_cons.1 hb with rfl | hb
  ·exact h1 i hil hik
  ·obtain ⟨j, hj, rfl⟩ := List.mem_iff_getElem.1 hb
   have hj' : k + j < L.length := by rw [List.length_drop] at hj; omega
   rw [List.getElem_drop]
   exact List.pairwise_iff_getElem.1 h i (k + j) hil hj' (by omega)
theorem PutN {L : List PV} {k : Nat} {xt : List Int} (h : (L.map (·.2)).Pairwise ltL) (h1 : ∀ j (hj : j < L.length), j < k → ltL (L[j]).2 xt) (h2 : ∀ hk : k < L.length, ltL xt (L[k]).2) : xt ∉ L.map (·.2) := fun hm => by
 obtain ⟨p, hp, e⟩ := List.mem_map.1 hm
 obtain ⟨i, hi, rfl⟩ := List.mem_iff_getElem.1 hp
 rw [List.pairwise_map] at h
 rcases Nat.lt_or_ge i k with hlt | hge
 ·exact ltL_ne (h1 i hi hlt) e
 ·have h3 := h2 (by omega)
  rcases Nat.eq_or_lt_of_le hge with e2 | e2
  ·subst e2; exact ltL_ne h3 e.symm
  ·exact ltL_ne (ltL_trans h3 (List.pairwise_iff_getElem.1 h k i (by omega) hi e2)) e.symm
/-- what is put: the list with it, or as it was -/
def PutR (base : Nat) (ar : Int) (w : World) (v : Value) (L : List PV) (x : PV) (e : Ending) (w' : World) : Prop :=
 Below w.heap.size w w' ∧ ((x.2 ∈ L.map (·.2) ∧ e = .returned (.tuple #[v, .bool false])) ∨ (x.2 ∉ L.map (·.2) ∧ ∃ (v' : Value) (k : Nat), e = .returned (.tuple #[v', .bool true]) ∧ OpL base ar w' v' (putL L k x) ∧ ((putL L k x).map (·.2)).Pairwise ltL))
set_option maxHeartbeats 6400000 in
set_option maxRecDepth 100000 in
theorem l02Put_any (w : World) {base : Nat} {ar : Int} {v : Value} {L : List PV} (h : OpL base ar w v L) (hP : (L.map (·.2)).Pairwise ltL) (hL : L.length ≤ 100000) {x : PV} {n : Nat} (hln : ∀ p ∈ L, p.2.length = n) (hxn : x.2.length = n) (hx : SRf base w (x :: L)) (hxr : intsT.Rd w [x.1] x.2) (hB : base ≤ w.heap.size) :
  Calls Tryd.prog 14 #[v, .agg #[.int .i64 ar, x.1]] w (PutR base ar w v L x) := by
 obtain ⟨b, cap, rfl, hc, hbb, hbw, hfz, hnb, hcl⟩ := h.row
 obtain ⟨xv, xt⟩ := x
 change intsT.Rd w [xv] xt at hxr
 obtain ⟨xa, xc, rfl⟩ := rd_slice hxr
 have H := Lib.hid h
 have HP := Lib.hid hP
 have HX := Lib.hid hxr
 have HS := Lib.hid hx
 have HCL := Lib.hid hcl
 have HLN := Lib.hid hln
 have hxn' : xt.length = n := hxn
 have HXN := Lib.hid hxn'
 have HONE : Hid (∀ p ∈ L, p.1.oneCell' = true) := fun p hp => by
  obtain ⟨ya, yc, e⟩ := rd_slice (h.rd p hp)
  rw [e]; rfl
 clear h hP hxr hx hfz hnb hcl hln hxn hxn'
 go_enter Tryd.func14, Tryd.ntmps14
 go_wp2_with fail
 generalize hW : World.alloc w _ = W
 have hbW : Below w.heap.size w W := hW ▸ bA
 have hsW : W.heap.size = w.heap.size + 1 := by rw [← hW]; simp
 have y0 : W.cell? ⟨w.heap.size, 0, none⟩ = some (.int .i64 ar) := by rw [← hW]; simp [go_sem]
 have y1 : W.cell? ⟨w.heap.size, 1, none⟩ = some (.slice xa xt.length xc) := by rw [← hW]; simp [go_sem]
 clear hW
 go_loopw [6] (fun i wr => ∃ k : Nat, k ≤ L.length ∧ i = .int .i64 k ∧ (∀ j (hj : j < L.length), j < k → ltL (L[j]).2 xt) ∧ Quiet W wr) (fun i _ => L.length - (intOf i).toNat)
 case atStart => exact ⟨0, Nat.zero_le _, rfl, fun j hj h => absurd h (Nat.not_lt_zero _), Quiet.refl _⟩
 case round =>
  obtain ⟨k, hk, rfl, hlt, hq⟩ := hrel
  have HLT := Lib.hid hlt
  have hqb := hq.below
  have z0 := (cellB hqb (by omega)).trans y0
  have z1 := (cellB hqb (by omega)).trans y1
  have hbwr : Below w.heap.size w wr := bthen hbW hqb
  clear hlt
  by_cases hkl : k < L.length
  ·have hd : decide ((k : Int) < (L.length : Int)) = true := by simp; omega
   have hd' : decide (k < L.length) = true := by simp; omega
   obtain ⟨c0, c1⟩ := HCL.out k hkl
   have e1 := (cellB hbwr hbw).trans c1
   have hrk := H.out.rd _ (List.getElem_mem hkl)
   obtain ⟨ya, yc, hy⟩ := rd_slice hrk
   have hlk : (L[k]).2.length = xt.length := by rw [HLN.out _ (List.getElem_mem hkl), HXN.out]
   have cQ : ∀ m, Calls Tryd.prog 33 #[(L[k]).1, .slice xa xt.length xc] (wr.drewN m) fun e w'' => e = .returned (.bool (tb (ltL (L[k]).2 xt))) ∧ ∃ q, w'' = wr.drewN q := fun m =>
    quiet_call (l01Before_quiet _ ((hrk.below hbwr).below (Quiet.drewN wr m).below) ((HX.out.below hbwr).below (Quiet.drewN wr m).below) (by omega) hlk)
   rw [hy] at e1 cQ
   cases hb : tb (ltL (L[k]).2 xt)
   rotate_left
   ·rw [hb] at cQ
    have HLT2 : Hid (∀ j (hj : j < L.length), j < k + 1 → ltL (L[j]).2 xt) := fun j hj hjk => by
     by_cases e : j = k
     ·subst e; exact tb_iff.1 hb
     ·exact HLT.out j hj (by omega)
    clear c0 c1 hrk hy hb hlk
    go_wp2_with fail
    go_quiet (exact cQ _)
    go_wp2_with fail
    go_roundw
    case rel => exact ⟨k + 1, by omega, by go_num, HLT2.out, hq.then (by first | exact Quiet.refl _ | exact Quiet.drewN _ _ | exact (Quiet.drewN _ _).then (Quiet.drewN _ _) | exact ((Quiet.drewN _ _).then (Quiet.drewN _ _)).then (Quiet.drewN _ _))⟩
    case measure => simp [intOf]; omega
   ·rw [hb] at cQ
    have cS : ∀ X m, Quiet wr X → Calls Tryd.prog 34 #[(L[k]).1, .slice xa xt.length xc] (X.drewN m) fun e w'' => e = .returned (.bool (eqB (L[k]).2 xt)) ∧ ∃ q, w'' = X.drewN q := fun X m hX =>
     quiet_call (l00Same_quiet _ (((hrk.below hbwr).below hX.below).below (Quiet.drewN X m).below) (((HX.out.below hbwr).below hX.below).below (Quiet.drewN X m).below))
    rw [hy] at cS
    have HNL : Hid (¬ ltL (L[k]).2 xt) := fun hh => by have := tb_true hh; rw [hb] at this; cases this
    clear c0 c1 hrk hb hlk
    go_wp2_with fail
    go_quiet (exact cQ _)
    generalize hwq : World.drewN wr _ = wq
    have hqq : Quiet wr wq := ⟨_, hwq.symm⟩
    clear hwq
    have z0 := (cellB hqq.below (by have := hqb.size; omega)).trans z0
    have z1 := (cellB hqq.below (by have := hqb.size; omega)).trans z1
    have e1 := (cellB hqq.below (by have := hbwr.size; omega)).trans e1
    have hbwq : Below w.heap.size w wq := bthen hbwr hqq.below
    cases he : eqB (L[k]).2 xt
    rotate_left
    ·have HME : Hid (xt ∈ L.map (·.2)) := List.mem_map.2 ⟨_, List.getElem_mem hkl, eqB_iff.1 he⟩
     simp only [he] at cS
     go_wp2_with fail
     go_quiet (exact cS wq _ hqq)
     go_wp2_with fail
     go_ret2
     exact ⟨bDN hbwq, .inl ⟨HME.out, rfl⟩⟩
    ·have HGT : Hid (∀ hk : k < L.length, ltL xt (L[k]).2) := fun _ => by
      rcases cmpL_total HNL.out with e | e
      ·rw [eqB_true e] at he; cases he
      ·exact e
     simp only [he] at cS
     go_wp2_with fail
     go_quiet (exact cS wq _ hqq)
     generalize hwq2 : World.drewN wq _ = wq2
     have hqq2 : Quiet wq wq2 := ⟨_, hwq2.symm⟩
     clear hwq2
     replace z0 := (cellB hqq2.below (by have := hqb.size; have := hqq.below.size; omega)).trans z0
     replace z1 := (cellB hqq2.below (by have := hqb.size; have := hqq.below.size; omega)).trans z1
     have hbq : Below w.heap.size w wq2 := bthen hbwq hqq2.below
     have hsq : w.heap.size + 1 ≤ wq2.heap.size := by have := hqb.size; have := hqq.below.size; have := hqq2.below.size; omega
     clear cQ cS e1 hqq2 hqq hbwq HNL hy
     go_wp2_with fail
     have hk1 : (k : Int) ≤ (L.length : Int) := by omega
     have hk2 : (0 : Int) ≤ (k : Int) := by omega
     have hk3 : (k : Int) ≤ (cap : Int) := by omega
     refine wp_region_T (fun w' => w'.cell? ⟨w.heap.size, 0, none⟩ = some (.int .i64 ar) ∧ w'.cell? ⟨w.heap.size, 1, none⟩ = some (.slice xa xt.length xc)) [5, 6] (by kernel_rfl) ⟨z0, z1⟩ (fun hHeld => ?_)
     refine wpAnyT_take (i := 0) (v := ?_) rfl (by kernel_rfl) (fun _ _ _ h => h) (Or.inl ⟨by rfl, ?_⟩) (by assumption) ?_
     rotate_left
     ·(intro w hSw; (try dsimp only at hSw); go_simp <;> with_reducible rfl)
     go_simp
     refine wpAnyT_take (i := 2) (v := ?_) rfl (by kernel_rfl) (fun _ _ _ h => h) (Or.inl ⟨by rfl, ?_⟩) (by assumption) ?_
     rotate_left
     ·(intro w hSw; (try dsimp only at hSw); go_simp <;> with_reducible rfl)
     go_simp
     refine wpAnyT_take (i := 3) (v := ?_) rfl (by kernel_rfl) (fun _ _ _ h => h) (Or.inl ⟨by rfl, ?_⟩) (by assumption) ?_
     rotate_left
     ·(intro w hSw; (try dsimp only at hSw); go_simp <;> with_reducible rfl)
     go_simp
     refine wpAnyT_take (i := 4) (v := ?_) rfl (by kernel_rfl) (fun _ _ _ h => h) (Or.inl ⟨by rfl, ?_⟩) (by assumption) ?_
     rotate_left
     ·(intro w hSw; (try dsimp only at hSw); go_simp <;> with_reducible rfl)
     go_simp
     refine wpAnyT_one (i := 1) rfl (by kernel_rfl) (fun K hK => ?_)
     go_simp
     refine hK.out _ _ ⟨by go_keep, by go_keep⟩ (fun hHeld => ?_)
     clear hK K
     refine wpAnyT_last (i := 5) rfl (by kernel_rfl) (by kernel_rfl) (fun K hK => ?_)
     have hbA : Below w.heap.size w (wq2.drew.alloc (.cells #[.int .i64 ar, .slice xa xt.length xc] 39)) := (bDN (n := 1) hbq).alloc (by show w.heap.size ≤ wq2.heap.size; omega) _
     have hown1 : (wq2.drew.alloc (.cells #[.int .i64 ar, .slice xa xt.length xc] 39)).ownsRow wq2.heap.size 39 2 (.slice (some ⟨wq2.heap.size, 0, none⟩) 1 1) 1 [.int .i64 ar, .slice xa xt.length xc] := World.ownsRow_lit wq2.drew #[.int .i64 ar, .slice xa xt.length xc] 1 (Nat.le_refl _) (by decide) rfl
     refine step_pushRow _ rfl _ _ 24 39 rfl elOpS (base := wq2.heap.size) rfl hown1 (m := L.length - k) (news := cellsOf ar (L.drop k)) rfl (by rw [cellsOf_len, List.length_drop]) (fun hm => ⟨⟨b, k * 2, none⟩, if_neg (by omega), cellsOf_src fun i hi => ⟨(cellB hbA hbw).trans (fnPut_src HCL.out k i hi).1, (cellB hbA hbw).trans (fnPut_src HCL.out k i hi).2⟩⟩) (cellsOf_one fun p hp => HONE.out p (List.mem_of_mem_drop hp)) (by omega) (by decide) (by simp) ?_
     intro v7 w7 hown7 hg7 hb7
     obtain ⟨g7, c7, rfl, hc7, hg7b, hg7l⟩ := own_shape hown7 (by omega)
     have hbq7 : Below wq2.heap.size wq2 w7 := ((bD (w := wq2)).alloc (by simp) _).grown hg7 (by simp) (fun q hq => by cases hq; exact Nat.le_refl _)
     have hB7 : Below w.heap.size w w7 := bthen hbq hbq7
     have hz7 := hbq7.size
     have HO7 : Hid (w7.ownsRow wq2.heap.size 39 2 (.slice (some ⟨g7, 0, none⟩) (1 + (L.length - k)) c7) (1 + (L.length - k)) (cellsOf ar ((.slice xa xt.length xc, xt) :: L.drop k))) := hown7
     clear hown1 hown7 hg7 hb7 hHeld z0 z1 hbA
     refine hK.out _ _ ?_
     clear hK K
     refine wpAnyT_last (i := 6) rfl (by kernel_rfl) (by kernel_rfl) (fun K hK => ?_)
     go_simp
     refine hK.out _ _ ?_
     clear hK K
     refine wpAnyT_done (by kernel_rfl) ?_ _
     go_simp
     have hown8 : (w7.alloc (.cells #[] 39)).ownsRow w7.heap.size 39 2 (.slice (some ⟨w7.heap.size, 0, none⟩) 0 0) 0 [] := World.ownsRow_lit w7 #[] 0 (Nat.le_refl _) (by decide) rfl
     have hB8 : Below w.heap.size w (w7.alloc (.cells #[] 39)) := hB7.alloc hB7.size _
     have H8 : Hid (∀ (v8 : Value) (w8 : World) (c0 : List Value), w8.ownsRow w7.heap.size 39 2 v8 (0 + k) c0 → (w7.alloc (.cells #[] 39)).grownBy w8 (some w7.heap.size) → w7.heap.size + 1 ≤ w8.heap.size ∧ Below w7.heap.size w7 w8 ∧ ∀ q, v8.ownBlock = some q → w7.heap.size ≤ q) := fun v8 w8 c0 h1 h2 => ⟨(by have := h2.size; rw [World.size_alloc] at this; exact this), (bA (w := w7)).grown h2 (by simp) (fun q hq => Nat.le_of_eq (Option.some.inj hq)), fun q hq => (h1.lt q hq).1⟩
     go_wp2_with (first | (at_builtin; refine wpList_pushRow _ rfl (.tmp 45) (.tmp 48) 24 39 rfl elOpS (base := w7.heap.size) rfl hown8 (m := k) (news := cellsOf ar (L.take k)) rfl (by rw [cellsOf_len, List.length_take]; omega) (fun hm => ⟨⟨b, 0, none⟩, rfl, cellsOf_src fun i hi => ⟨(cellB hB8 hbw).trans (take_src HCL.out k i hi).1, (cellB hB8 hbw).trans (take_src HCL.out k i hi).2⟩⟩) (cellsOf_one fun p hp => HONE.out p (List.mem_of_mem_take hp)) (by omega) (by decide) (by simp) ?_; intro v8 w8 hown8' hg8 hb8; have HO8 := Lib.hid hown8'; obtain ⟨hs8, hbw8, hv8⟩ := H8.out v8 w8 _ hown8' hg8; have HV8 := Lib.hid hv8; clear hown8' hg8 hb8 hv8) | (at_builtin; refine wpList_pushRow _ rfl (.tmp 49) (.tmp 50) 24 39 rfl elOpS (base := w7.heap.size) rfl HO8.out (m := 1 + (L.length - k)) (news := cellsOf ar ((.slice xa xt.length xc, xt) :: L.drop k)) rfl (by rw [cellsOf_len, List.length_cons, List.length_drop]; omega) (fun hm => ⟨⟨g7, 0, none⟩, rfl, fun j u hj => by rw [add_atO, Nat.zero_add]; have hc7' := HO7.out.cells (g := g7) rfl j u hj; rw [add_atO, Nat.zero_add] at hc7'; exact (cellB hbw8 hg7l).trans hc7'⟩) (cellsOf_one fun p hp => (List.mem_cons.1 hp).elim (fun e => by rw [e]; rfl) (fun hp => HONE.out p (List.mem_of_mem_drop hp))) (by omega) (by decide) (by omega) ?_; intro v9 w9 hown9 hg9 hb9))
     all_goals
      go_ret2
      have hl9 : 0 + k + (1 + (L.length - k)) = (putL L k (.slice xa xt.length xc, xt)).length := by rw [putL_len]; omega
      have hc9 : [] ++ cellsOf ar (L.take k) ++ cellsOf ar ((.slice xa xt.length xc, xt) :: L.drop k) = cellsOf ar (putL L k (.slice xa xt.length xc, xt)) := by rw [List.nil_append, ← cellsOf_app]; rfl
      rw [hl9, hc9] at hown9
      obtain ⟨g9, c9, hv9, -, -, -⟩ := own_shape hown9 (by rw [putL_len]; omega)
      have hb9w : Below w7.heap.size w8 w9 := (Below.refl _ w8).grown hg9 (by omega) (fun q hq => HV8.out q hq)
      have hBf : Below w.heap.size w w9 := bthen hB7 (hbw8.trans hb9w)
      refine ⟨hBf, .inr ⟨PutN HP.out HLT.out HGT.out, v9, k, rfl, OpL.of_own hown9 ⟨g9, c9, hv9⟩ (by omega) (fun g hg p hp hm => ?_) ((HS.out.perm putL_perm).below hBf) (fun p hp => ?_), putL_pw HP.out HLT.out HGT.out⟩⟩
      ·have h1 := (HS.out.2 p (putL_perm.mem_iff.1 hp) g hm).2.1
       have h2 := (hown9.lt g hg).1
       omega
      ·rcases List.mem_cons.1 (putL_perm.mem_iff.1 hp) with e | e
       ·rw [e]; exact HX.out.below hBf
       ·exact (H.out.rd p e).below hBf
  ·have hd : decide ((k : Int) < (L.length : Int)) = false := by simp; omega
   have hd' : decide (k < L.length) = false := by simp; omega
   go_wp2_with fail
   go_quiet (fail)
   go_wp2_with fail
   go_quiet (fail)
   generalize hwq2 : World.drewN _ _ = wq2
   have hqq2 : Quiet wr wq2 := by rw [← hwq2]; exact (by first | exact Quiet.refl _ | exact Quiet.drewN _ _ | exact (Quiet.drewN _ _).then (Quiet.drewN _ _) | exact ((Quiet.drewN _ _).then (Quiet.drewN _ _)).then (Quiet.drewN _ _))
   clear hwq2
   replace z0 := (cellB hqq2.below (by have := hqb.size; omega)).trans z0
   replace z1 := (cellB hqq2.below (by have := hqb.size; omega)).trans z1
   have hbq : Below w.heap.size w wq2 := bthen hbwr hqq2.below
   have hsq : w.heap.size + 1 ≤ wq2.heap.size := by have := hqb.size; have := hqq2.below.size; omega
   have HGT : Hid (∀ hk : k < L.length, ltL xt (L[k]).2) := fun h => absurd h hkl
   clear hqq2
   go_wp2_with fail
   have hk1 : (k : Int) ≤ (L.length : Int) := by omega
   have hk2 : (0 : Int) ≤ (k : Int) := by omega
   have hk3 : (k : Int) ≤ (cap : Int) := by omega
   refine wp_region_T (fun w' => w'.cell? ⟨w.heap.size, 0, none⟩ = some (.int .i64 ar) ∧ w'.cell? ⟨w.heap.size, 1, none⟩ = some (.slice xa xt.length xc)) [5, 6] (by kernel_rfl) ⟨z0, z1⟩ (fun hHeld => ?_)
   refine wpAnyT_take (i := 0) (v := ?_) rfl (by kernel_rfl) (fun _ _ _ h => h) (Or.inl ⟨by rfl, ?_⟩) (by assumption) ?_
   rotate_left
   ·(intro w hSw; (try dsimp only at hSw); go_simp <;> with_reducible rfl)
   go_simp
   refine wpAnyT_take (i := 2) (v := ?_) rfl (by kernel_rfl) (fun _ _ _ h => h) (Or.inl ⟨by rfl, ?_⟩) (by assumption) ?_
   rotate_left
   ·(intro w hSw; (try dsimp only at hSw); go_simp <;> with_reducible rfl)
   go_simp
   refine wpAnyT_take (i := 3) (v := ?_) rfl (by kernel_rfl) (fun _ _ _ h => h) (Or.inl ⟨by rfl, ?_⟩) (by assumption) ?_
   rotate_left
   ·(intro w hSw; (try dsimp only at hSw); go_simp <;> with_reducible rfl)
   go_simp
   refine wpAnyT_take (i := 4) (v := ?_) rfl (by kernel_rfl) (fun _ _ _ h => h) (Or.inl ⟨by rfl, ?_⟩) (by assumption) ?_
   rotate_left
   ·(intro w hSw; (try dsimp only at hSw); go_simp <;> with_reducible rfl)
   go_simp
   refine wpAnyT_one (i := 1) rfl (by kernel_rfl) (fun K hK => ?_)
   go_simp
   refine hK.out _ _ ⟨by go_keep, by go_keep⟩ (fun hHeld => ?_)
   clear hK K
   refine wpAnyT_last (i := 5) rfl (by kernel_rfl) (by kernel_rfl) (fun K hK => ?_)
   have hbA : Below w.heap.size w (wq2.drew.alloc (.cells #[.int .i64 ar, .slice xa xt.length xc] 39)) := (bDN (n := 1) hbq).alloc (by show w.heap.size ≤ wq2.heap.size; omega) _
   have hown1 : (wq2.drew.alloc (.cells #[.int .i64 ar, .slice xa xt.length xc] 39)).ownsRow wq2.heap.size 39 2 (.slice (some ⟨wq2.heap.size, 0, none⟩) 1 1) 1 [.int .i64 ar, .slice xa xt.length xc] := World.ownsRow_lit wq2.drew #[.int .i64 ar, .slice xa xt.length xc] 1 (Nat.le_refl _) (by decide) rfl
   refine step_pushRow _ rfl _ _ 24 39 rfl elOpS (base := wq2.heap.size) rfl hown1 (m := L.length - k) (news := cellsOf ar (L.drop k)) rfl (by rw [cellsOf_len, List.length_drop]) (fun hm => ⟨⟨b, k * 2, none⟩, if_neg (by omega), cellsOf_src fun i hi => ⟨(cellB hbA hbw).trans (fnPut_src HCL.out k i hi).1, (cellB hbA hbw).trans (fnPut_src HCL.out k i hi).2⟩⟩) (cellsOf_one fun p hp => HONE.out p (List.mem_of_mem_drop hp)) (by omega) (by decide) (by simp) ?_
   intro v7 w7 hown7 hg7 hb7
   obtain ⟨g7, c7, rfl, hc7, hg7b, hg7l⟩ := own_shape hown7 (by omega)
   have hbq7 : Below wq2.heap.size wq2 w7 := ((bD (w := wq2)).alloc (by simp) _).grown hg7 (by simp) (fun q hq => by cases hq; exact Nat.le_refl _)
   have hB7 : Below w.heap.size w w7 := bthen hbq hbq7
   have hz7 := hbq7.size
   have HO7 : Hid (w7.ownsRow wq2.heap.size 39 2 (.slice (some ⟨g7, 0, none⟩) (1 + (L.length - k)) c7) (1 + (L.length - k)) (cellsOf ar ((.slice xa xt.length xc, xt) :: L.drop k))) := hown7
   clear hown1 hown7 hg7 hb7 hHeld z0 z1 hbA
   refine hK.out _ _ ?_
   clear hK K
   refine wpAnyT_last (i := 6) rfl (by kernel_rfl) (by kernel_rfl) (fun K hK => ?_)
   go_simp
   refine hK.out _ _ ?_
   clear hK K
   refine wpAnyT_done (by kernel_rfl) ?_ _
   go_simp
   have hown8 : (w7.alloc (.cells #[] 39)).ownsRow w7.heap.size 39 2 (.slice (some ⟨w7.heap.size, 0, none⟩) 0 0) 0 [] := World.ownsRow_lit w7 #[] 0 (Nat.le_refl _) (by decide) rfl
   have hB8 : Below w.heap.size w (w7.alloc (.cells #[] 39)) := hB7.alloc hB7.size _
   have H8 : Hid (∀ (v8 : Value) (w8 : World) (c0 : List Value), w8.ownsRow w7.heap.size 39 2 v8 (0 + k) c0 → (w7.alloc (.cells #[] 39)).grownBy w8 (some w7.heap.size) → w7.heap.size + 1 ≤ w8.heap.size ∧ Below w7.heap.size w7 w8 ∧ ∀ q, v8.ownBlock = some q → w7.heap.size ≤ q) := fun v8 w8 c0 h1 h2 => ⟨(by have := h2.size; rw [World.size_alloc] at this; exact this), (bA (w := w7)).grown h2 (by simp) (fun q hq => Nat.le_of_eq (Option.some.inj hq)), fun q hq => (h1.lt q hq).1⟩
   go_wp2_with (first | (at_builtin; refine wpList_pushRow _ rfl (.tmp 45) (.tmp 48) 24 39 rfl elOpS (base := w7.heap.size) rfl hown8 (m := k) (news := cellsOf ar (L.take k)) rfl (by rw [cellsOf_len, List.length_take]; omega) (fun hm => ⟨⟨b, 0, none⟩, rfl, cellsOf_src fun i hi => ⟨(cellB hB8 hbw).trans (take_src HCL.out k i hi).1, (cellB hB8 hbw).trans (take_src HCL.out k i hi).2⟩⟩) (cellsOf_one fun p hp => HONE.out p (List.mem_of_mem_take hp)) (by omega) (by decide) (by simp) ?_; intro v8 w8 hown8' hg8 hb8; have HO8 := Lib.hid hown8'; obtain ⟨hs8, hbw8, hv8⟩ := H8.out v8 w8 _ hown8' hg8; have HV8 := Lib.hid hv8; clear hown8' hg8 hb8 hv8) | (at_builtin; refine wpList_pushRow _ rfl (.tmp 49) (.tmp 50) 24 39 rfl elOpS (base := w7.heap.size) rfl HO8.out (m := 1 + (L.length - k)) (news := cellsOf ar ((.slice xa xt.length xc, xt) :: L.drop k)) rfl (by rw [cellsOf_len, List.length_cons, List.length_drop]; omega) (fun hm => ⟨⟨g7, 0, none⟩, rfl, fun j u hj => by rw [add_atO, Nat.zero_add]; have hc7' := HO7.out.cells (g := g7) rfl j u hj; rw [add_atO, Nat.zero_add] at hc7'; exact (cellB hbw8 hg7l).trans hc7'⟩) (cellsOf_one fun p hp => (List.mem_cons.1 hp).elim (fun e => by rw [e]; rfl) (fun hp => HONE.out p (List.mem_of_mem_drop hp))) (by omega) (by decide) (by omega) ?_; intro v9 w9 hown9 hg9 hb9))
   all_goals
    go_ret2
    have hl9 : 0 + k + (1 + (L.length - k)) = (putL L k (.slice xa xt.length xc, xt)).length := by rw [putL_len]; omega
    have hc9 : [] ++ cellsOf ar (L.take k) ++ cellsOf ar ((.slice xa xt.length xc, xt) :: L.drop k) = cellsOf ar (putL L k (.slice xa xt.length xc, xt)) := by rw [List.nil_append, ← cellsOf_app]; rfl
    rw [hl9, hc9] at hown9
    obtain ⟨g9, c9, hv9, -, -, -⟩ := own_shape hown9 (by rw [putL_len]; omega)
    have hb9w : Below w7.heap.size w8 w9 := (Below.refl _ w8).grown hg9 (by omega) (fun q hq => HV8.out q hq)
    have hBf : Below w.heap.size w w9 := bthen hB7 (hbw8.trans hb9w)
    refine ⟨hBf, .inr ⟨PutN HP.out HLT.out HGT.out, v9, k, rfl, OpL.of_own hown9 ⟨g9, c9, hv9⟩ (by omega) (fun g hg p hp hm => ?_) ((HS.out.perm putL_perm).below hBf) (fun p hp => ?_), putL_pw HP.out HLT.out HGT.out⟩⟩
    ·have h1 := (HS.out.2 p (putL_perm.mem_iff.1 hp) g hm).2.1
     have h2 := (hown9.lt g hg).1
     omega
    ·rcases List.mem_cons.1 (putL_perm.mem_iff.1 hp) with e | e
     ·rw [e]; exact HX.out.below hBf
     ·exact (H.out.rd p e).below hBf
end Go.Proofs.YtggelmbnliajeaaDoor
namespace Go.Proofs.YtggelmbnliajeaaDoor
open Go.RowKit Go.Sort
set_option maxHeartbeats 6400000 in
set_option maxRecDepth 100000 in
theorem l02Compose_any (w : World) {fv : Value} {f : Int × List Int} (h : opT.Pt w fv f) {v : Value} {ts : List (List Int)} {ar : Int} (h' : opsT.Rd w [v] (ts.map fun t => (ar, t))) {s : Int} {m : Nat} (hf : opOk s f) (ht : tupsOk s f.1 m ts) (hm : m ≤ 1000) :
  Calls Tryd.prog 37 #[.int .i64 s, fv, v] w (RetA opT w (ar, madeL s f.2 ts m)) := by
 obtain ⟨ad, cap, hvv, -, hL, hcell⟩ := pairs_ex h'
 obtain rfl : v = _ := by simpa using hvv
 have hn : (ts.length : Int) = f.1 := ht.1
 have hs := hf.1
 have ha := hf.2.1
 unfold sizeOk at hs
 have h0 : 0 < ts.length := by omega
 have hml : (ts.map fun t => (ar, t)).length = ts.length := List.length_map ..
 obtain ⟨b, o, rfl, hb, hce⟩ := hcell (by rw [hml]; exact h0)
 have HC : Hid (∀ i (h : i < ts.length), ∃ u, intsT.Rd w [u] ts[i] ∧ I64 ar ∧ w.cell? ⟨b, o + i * 2, none⟩ = some (.int .i64 ar) ∧ w.cell? ⟨b, o + i * 2 + 1, none⟩ = some u) := fun i hi => by
  obtain ⟨u, h1, h2, h3, h4⟩ := hce i (by rw [hml]; exact hi)
  rw [List.getElem_map] at h1 h2 h3
  exact ⟨u, h1, h2, h3, h4⟩
 obtain ⟨u0, hu0, hI0, hc0, hc1⟩ := HC.out 0 h0
 obtain ⟨a0, c0, rfl⟩ := rd_slice hu0
 have hm0 : (ts[0]).length = m := (ht.2 _ (List.getElem_mem h0)).1
 rw [hm0] at hc1
 have hc0' : w.cell? ⟨b, o, none⟩ = some (.int .i64 ar) := by simpa using hc0
 have hc1' : w.cell? ⟨b, o + 1, none⟩ = some (.slice a0 m c0) := by simpa using hc1
 have HF := Lib.hid hf
 have HT := Lib.hid ht
 have HP := Lib.hid h
 have HI := Lib.hid hI0
 obtain ⟨fb, fo, _, _, rfl, -⟩ := pt_pair h
 clear h h' hvv hf ht hcell hce hu0 hc0 hc1 hI0 hml hm0
 go_enter Tryd.func37, Tryd.ntmps37
 go_wp2_with fail
 generalize hW : World.alloc (World.alloc w _) _ = W
 have hbW : Below w.heap.size w W := hW ▸ bAA
 have hsW : W.heap.size = w.heap.size + 2 := by rw [← hW]; simp
 have y0 : W.cell? ⟨w.heap.size + 1, 0, none⟩ = some (.int .i64 ar) := by rw [← hW]; simp [go_sem]
 have y1 : W.cell? ⟨w.heap.size + 1, 1, none⟩ = some (.slice none 0 0) := by rw [← hW]; simp [go_sem]
 have y2 : W.frozen? ⟨w.heap.size + 1, 1, none⟩ = false := by rw [← hW]; simp [go_sem]
 have r0 : W.cell? ⟨w.heap.size, 0, none⟩ = some (.int .i64 0) := by rw [← hW]; simp [go_sem]
 have r1 : W.cell? ⟨w.heap.size, 1, none⟩ = some (.slice none 0 0) := by rw [← hW]; simp [go_sem]
 have r2 : W.frozen? ⟨w.heap.size, 0, none⟩ = false := by rw [← hW]; simp [go_sem]
 have r3 : W.frozen? ⟨w.heap.size, 1, none⟩ = false := by rw [← hW]; simp [go_sem]
 clear hW
 go_loopw [8] (fun i wr => ∃ (p : Nat) (q : Value), p ≤ m ∧ i = .int .i64 p ∧ Bl Ty.int 2 (w.heap.size + 2) wr.heap.size wr q (madeL s f.2 ts p) ∧ wr.cell? ⟨w.heap.size + 1, 1, none⟩ = some q ∧ wr.cell? ⟨w.heap.size + 1, 0, none⟩ = some (.int .i64 ar) ∧ wr.frozen? ⟨w.heap.size + 1, 1, none⟩ = false ∧ Below (w.heap.size + 1) W wr ∧ w.heap.size + 2 ≤ wr.heap.size) (fun i _ => m - (intOf i).toNat)
 case atStart => exact ⟨0, _, Nat.zero_le _, rfl, by simpa [madeL] using Bl.nil, y1, y0, y2, Below.refl _ _, by omega⟩
 case round =>
  obtain ⟨p, q, hp, rfl, hBv, z1, z0, z2, hbe, hse⟩ := hrel
  obtain ⟨wo, rfl⟩ : ∃ wo : World, wo = wr := ⟨_, rfl⟩
  have hbel : Below w.heap.size w wo := hbW.trans (hbe.mono (by omega))
  have hlq : (madeL s f.2 ts p).length = p := madeL_len
  obtain ⟨av0, nv0, cv0, rfl⟩ := sl_ex (hBv.fr (by rw [hlq]; unfold capMax; omega))
  have HB := Lib.hid hBv
  have d0 := (cellB hbel hb).trans hc0'
  have d1 := (cellB hbel hb).trans hc1'
  clear hBv y0 y1 y2 hlq
  by_cases hpl : p < m
  ·obtain ⟨kk, hkk, hkl2, hmv⟩ := madeV_get HF.out HT.out hpl
   have HKK := Lib.hid hkk
   have HMV := Lib.hid hmv
   clear hkk hmv
   go_wp2_with fail
   go_loopw [10, 9] (fun i q wr => ∃ k : Nat, k ≤ ts.length ∧ i = .int .i64 k ∧ Bl Ty.int 2 wo.heap.size wr.heap.size wr q ((colL ts p).take k) ∧ Below wo.heap.size wo wr) (fun i _ _ => ts.length - (intOf i).toNat)
   case atStart => exact ⟨0, Nat.zero_le _, rfl, by simpa using Bl.lit0 (E := Ty.int) (e := 2) (w := wo) (Nat.le_refl _), bA⟩
   case round =>
    obtain ⟨k, hk, rfl, hBi, hbi⟩ := hrel
    have HBi := Lib.hid hBi
    have hbw : Below w.heap.size w wr := bthen hbel hbi
    have hsi := hbi.size
    clear hBi d0 d1
    by_cases hkl : k < ts.length
    ·obtain ⟨uk, huk, -, -, hck⟩ := HC.out k hkl
     obtain ⟨ak, ck, huv, -, -, hkc⟩ := ints_ex huk
     obtain rfl : uk = _ := by simpa using huv
     have hlk : (ts[k]).length = m := (HT.out.2 _ (List.getElem_mem hkl)).1
     obtain ⟨bk, ok, rfl, hbk, hkce⟩ := hkc (by omega)
     have e0 := (cellB hbw hb).trans hck
     have e1 := (cellB hbw hbk).trans (hkce p (by omega)).2
     have hI1 := (hkce p (by omega)).1
     have hpk : p < (ts[k]).length := by omega
     have hcl : k < (colL ts p).length := by rw [colL_len]; exact hkl
     have HTK : Hid ((colL ts p).take k ++ [(ts[k])[p]] = (colL ts p).take (k + 1)) := by
      unfold Hid
      rw [← colL_get hkl hpk hcl]; exact take_snoc hcl
     clear hkc hkce huv huk hck
     go_wp2_with (refine wpList_push (E := Ty.int) _ rfl _ _ 32 2 rfl elInt rfl (HBi.out.below bA (Nat.le_refl _)) rfl news1 (fr_int hI1) (by rw [List.length_take]; omega) (by decide) hsi (by simp) ?_; intro v1 w3 hB3 hg1 _)
     have hbel1 : Below wo.heap.size wo w3 := (hbi.alloc hbi.size _).grown hg1 (by simp; omega) (fun k hk => HBi.out.own hk)
     rw [HTK.out] at hB3
     have HB3 := Lib.hid hB3
     clear hB3
     go_wp2_with fail
     go_roundw
     case rel => exact ⟨k + 1, by omega, by go_num, HB3.out, hbel1⟩
     case measure => simp [intOf]; omega
    ·obtain rfl : k = ts.length := by omega
     have hfi := HBi.out.fr (by rw [List.length_take]; unfold capMax; omega)
     rw [List.take_of_length_le (by rw [colL_len]; exact Nat.le_refl _)] at hfi
     obtain ⟨aq, nq, cq, rfl⟩ := sl_ex hfi
     have HQ := Lib.hid hfi.rd
     have HIN := Lib.hid (colL_in HT.out hpl)
     have hl5 : (colL ts p).length ≤ 5 := by rw [colL_len]; omega
     obtain ⟨wi, rfl⟩ : ∃ wi : World, wi = wr := ⟨_, rfl⟩
     have hI4 : I64 f.2[kk] := I64.small (by have := HF.out.2.2.2 _ (List.getElem_mem hkl2); omega) (by have := HF.out.2.2.2 _ (List.getElem_mem hkl2); omega)
     have HY : Hid (madeL s f.2 ts p ++ [f.2[kk]] = madeL s f.2 ts (p + 1)) := by unfold Hid; rw [← HMV.out, madeL_succ]
     have HLV : Hid (∀ X, Below wi.heap.size wi X → Calls Tryd.prog 53 #[.int .i64 s, .pointer (some ⟨fb, fo, none⟩), .slice aq nq cq] X fun e w' => e = .returned (.int .i64 f.2[kk]) ∧ Quiet X w') := fun X hX => l02Value_quiet X ((HP.out.below hbw).below hX) (HQ.out.below hX) (by omega) (by omega) hl5 HIN.out HKK.out hkl2
     generalize f.2[kk] = fk at hI4 HY HLV
     replace z1 := (cellB hbi (show w.heap.size + 1 < wo.heap.size by omega)).trans z1
     replace z0 := (cellB hbi (show w.heap.size + 1 < wo.heap.size by omega)).trans z0
     replace z2 := (frozenB hbi (show w.heap.size + 1 < wo.heap.size by omega)).trans z2
     clear hfi HMV
     go_wp2_with fail
     refine wp_region_T (fun w' => w'.cell? ⟨w.heap.size + 1, 1, none⟩ = some (.slice av0 nv0 cv0)) [7, 9] (by kernel_rfl) z1 (fun hHeld => ?_)
     refine wpAnyT_take (i := 0) (v := ?_) rfl (by kernel_rfl) (fun _ _ _ h => h) (Or.inl ⟨by rfl, ?_⟩) (by assumption) ?_
     rotate_left
     ·(intro w hSw; (try dsimp only at hSw); go_simp <;> with_reducible rfl)
     go_simp
     refine wpAnyT_take (i := 1) (v := ?_) rfl (by kernel_rfl) (fun _ _ _ h => h) (Or.inl ⟨by rfl, ?_⟩) (by assumption) ?_
     rotate_left
     ·(intro w hSw; (try dsimp only at hSw); go_simp <;> with_reducible rfl)
     go_simp
     refine wpAnyT_take (i := 2) (v := ?_) rfl (by kernel_rfl) (fun _ _ _ h => h) (Or.inl ⟨by rfl, ?_⟩) (by assumption) ?_
     rotate_left
     ·(intro w hSw; (try dsimp only at hSw); go_simp <;> with_reducible rfl)
     go_simp
     refine wpAnyT_take (i := 3) (v := ?_) rfl (by kernel_rfl) (fun _ _ _ h => h) (Or.inl ⟨by rfl, ?_⟩) (by assumption) ?_
     rotate_left
     ·(intro w hSw; (try dsimp only at hSw); go_simp <;> with_reducible rfl)
     go_simp
     refine wpAnyT_take (i := 4) (v := ?_) rfl (by kernel_rfl) (fun _ _ _ h => h) (Or.inl ⟨by rfl, ?_⟩) (by assumption) ?_
     rotate_left
     ·(intro w hSw; (try dsimp only at hSw); go_simp <;> with_reducible rfl)
     go_simp
     refine wpAnyT_one (i := 5) rfl (by kernel_rfl) (fun K hK => ?_)
     go_simp
     refine (HLV.out wi.drew bD).mono ?_
     rintro e w4 ⟨rfl, hq4⟩
     have hb4 : Below wi.heap.size wi w4 := bthen bD hq4.below
     have hz4 := hb4.size
     have f1 := (cellB hb4 (show w.heap.size + 1 < wi.heap.size by omega)).trans z1
     have f2 := (cellB hb4 (show w.heap.size + 1 < wi.heap.size by omega)).trans z0
     have f3 := (frozenB hb4 (show w.heap.size + 1 < wi.heap.size by omega)).trans z2
     clear hq4 hHeld
     dsimp only
     refine hK.out _ _ f1 (fun hHeld => ?_)
     clear hK K
     refine wpAnyT_one (i := 6) rfl (by kernel_rfl) (fun K hK => ?_)
     go_simp
     refine hK.out _ _ (by go_keep) (fun hHeld => ?_)
     clear hK K
     refine wpAnyT_last (i := 7) rfl (by kernel_rfl) (by kernel_rfl) (fun K hK => ?_)
     have hbo4 : Below wo.heap.size wo w4 := bthen hbi hb4
     refine step_push (E := Ty.int) _ rfl _ _ 32 2 rfl elInt rfl (HB.out.below (hbo4.alloc hbo4.size _) (Nat.le_refl _)) rfl news1 (fr_int hI4) (by rw [madeL_len]; omega) (by decide) hse (by simp; omega) ?_
     intro v5 w5 hB5 hg5 _
     rw [HY.out] at hB5
     have hb5 : Below (w.heap.size + 2) w4 w5 := ((Below.refl _ w4).alloc (by omega) _).grown hg5 (by simp; omega) (fun q hq => HB.out.own hq)
     have i1 := (cellB hb5 (by omega)).trans f1
     have i2 := (cellB hb5 (by omega)).trans f2
     have i3 := (frozenB hb5 (by omega)).trans f3
     have hz5 := hb5.size
     have HB5 := Lib.hid hB5
     obtain ⟨a5, n5, c5, rfl⟩ := sl_ex (hB5.fr (by rw [madeL_len]; unfold capMax; omega))
     clear hB5 hg5 f1 f2 f3
     refine hK.out _ _ ?_
     clear hK K
     refine wpAnyT_any (i := 8) (v := ?_) rfl (by kernel_rfl) (fun _ _ _ h => h) (Or.inl ⟨by rfl, ?_⟩) (by first | exact fun _ => by assumption | (intro hp; exact absurd hp (by rw [show pastB _ _ = true by kernel_rfl]; simp))) ?_
     rotate_left
     ·(intro w hSw; (try dsimp only at hSw); go_simp <;> with_reducible rfl)
     try simp only [Act.put]
     refine wpAnyT_last (i := 9) rfl (by kernel_rfl) (by kernel_rfl) (fun K hK => ?_)
     go_simp
     refine hK.out _ _ ?_
     clear hK K
     refine wpAnyT_done (by kernel_rfl) ?_ _
     go_simp
     go_wp2_with fail
     go_roundw
     case rel => exact ⟨p + 1, _, by omega, by go_num, by rw [size_set]; exact HB5.out.sameB (fun q hq1 hq2 => Below.heap_setCell _ _ _ _ (by simp; omega)), World.cell?_setCell_same _ _ _ i1, (World.cell?_setCell_other _ _ _ _ (by simp)).trans i2, (World.frozen?_setCell _ _ _ _).trans i3, (hbe.trans ((hbo4.mono (by omega)).trans (hb5.mono (by omega)))).setCell (by simp) _, by rw [size_set]; omega⟩
     case measure => simp [intOf]; omega
  ·obtain rfl : p = m := by omega
   have HFR := Lib.hid (HB.out.fr (by rw [madeL_len]; unfold capMax; omega))
   have q0 := (cellB hbe (by omega)).trans r0
   have q1 := (cellB hbe (by omega)).trans r1
   have q2 := (frozenB hbe (by omega)).trans r2
   have q3 := (frozenB hbe (by omega)).trans r3
   obtain ⟨g0, g1⟩ := set2_cells (x := .int .i64 ar) (y := .slice av0 nv0 cv0) q0 q1
   clear HB
   go_wp2_with fail
   refine bodyPost_ret (v := .agg #[.int .i64 ar, .slice av0 nv0 cv0]) (by simp [results, Tryd.results37, go_sem, g0, g1]) rfl ⟨[.int .i64 ar, .slice av0 nv0 cv0], rfl, ?_, ?_⟩
   ·exact (fr_set2 (fr_cons HI.out HFR.out) (by omega)).mono (by omega)
   ·exact (hbel.setCell (by simp) _).setCell (by simp) _
end Go.Proofs.YtggelmbnliajeaaDoor
