/-
Contracts: the hull of tuples, the program's.
Contracts: the hull of tuples, whole, both sides.
Contracts: the laws' own small functions on bytes; plain facts on the operations that are found.
Plain: the hull of tuples: what polymorphisms make of them.
Plain: the hull is a relation, and operations that keep the template keep it.
Contracts: whether two relations are the same, the reference's.
Contracts: the hull of a relation; whether a relation is definable; both sides.
Contracts: whether a relation is definable, both sides.
Contracts: an operation that breaks a relation, the program's.
Contracts: tuples drawn from bytes; an operation applied; the kind of an operation, checked.
Plain: the index of the first one of a kind, of the first one with a value; one number, just made.
Plain: whether a relation is its own hull, and the operation that breaks it where it is not.
Plain: the closure of a set of tuples under operations.
Plain: pair relations made smaller by steps; steps replayed.
Contracts: whether a pair is left, a relation narrowed in place, the program's.
Contracts: a pair relation narrowed in place, the program's.
Contracts: a pair relation narrowed in place, the program's.
Contracts: whether a step is a step, the program's.
Contracts: pair relations made smaller, the program's.
Contracts: makePairs, the program's.
-/
import Derived.Test.YtmnjlhcbabhhlaaGreatQAE
import Derived.Test.YtmnjlhcbabhhlaaGreatQAD
import Derived.Test.YtmnjlhcbabhhlaaGreatQAC
import Derived.Test.YtmnjlhcbabhhlaaGreatQAA
namespace Go.Proofs.YtmnjlhcbabhhlaaGreat
open Go.RowKit Go.Sort
theorem frP_tail {α : Type} {E : Ty α} {base : Nat} {w : World} {x : Int} {v : Value} {xs : List α} (h : (Ty.cons (Ty.slice E)).Fr base w [.int .i64 x, v] (x, xs)) : (Ty.slice E).Fr base w [v] xs := by
 obtain ⟨fp, ⟨cs, he, -, hr⟩, h2, h3, h4⟩ := h
 obtain rfl : cs = [v] := by simpa using he.symm
 exact ⟨fp, hr, h2, h3, h4⟩
end Go.Proofs.YtmnjlhcbabhhlaaGreat
namespace Go.Proofs.YtmnjlhcbabhhlaaGreat
open Go.RowKit Go.Sort
end Go.Proofs.YtmnjlhcbabhhlaaGreat
namespace Go.Proofs.YtmnjlhcbabhhlaaGreat
open Go.RowKit Go.Sort
section
variable {t : Tpl} {ar : Nat}
end
end Go.Proofs.YtmnjlhcbabhhlaaGreat
namespace Go.Proofs.YtmnjlhcbabhhlaaGreat
open Go.RowKit Go.Sort
section
variable {t : Tpl} {u : List (List Int)}
end
end Go.Proofs.YtmnjlhcbabhhlaaGreat
namespace Go.Proofs.YtmnjlhcbabhhlaaGreat
open Go.RowKit Go.Sort
section
variable {t : Tpl} {u : List (List Int)}
end
end Go.Proofs.YtmnjlhcbabhhlaaGreat
namespace Go.Proofs.YtmnjlhcbabhhlaaGreat
open Go.RowKit Go.Sort
set_option maxHeartbeats 3200000 in
set_option maxRecDepth 100000 in
theorem l01Same_quiet (w : World) {va vb : Value} {r q : Int × List (List Int)} (h1 : relT.Pt w va r) (h2 : relT.Pt w vb q) :
    Calls Tryz.prog 30 #[va, vb] w fun e w' => e = .returned (.bool (eqB r q)) ∧ Quiet w w' := by
  obtain ⟨b1, o1, a1, c1, rfl, hb1, -, p0, p1, hr1⟩ := pt_pair h1
  obtain ⟨b2, o2, a2, c2, rfl, hb2, -, q0, q1, hr2⟩ := pt_pair h2
  have HR1 := Lib.hid hr1
  have HR2 := Lib.hid hr2
  have hle1 : r.2.length ≤ 140737488351232 := by obtain ⟨_, _, he, _, h, _⟩ := slices_ex hr1; exact h
  have hle2 : q.2.length ≤ 140737488351232 := by obtain ⟨_, _, he, _, h, _⟩ := slices_ex hr2; exact h
  clear h1 h2 hr1 hr2
  cases hA : (r.1 != q.1)
  rotate_left
  · have HE : Hid (eqB r q = false) := eqB_fst (by simpa using hA)
    go_enter Tryz.func30, Tryz.ntmps30
    go_wp2_with fail
    go_quiet (fail)
    go_wp2_with fail
    go_ret
    exact ⟨ret_bool HE.out.symm, Quiet.drewN _ _⟩
  have hA' : r.1 = q.1 := by simpa using hA
  cases hL : ((r.2.length : Int) != (q.2.length : Int))
  rotate_left
  · have HE : Hid (eqB r q = false) := by
      unfold Hid
      refine eqB_snd hA' (eqB_len ?_)
      have : (r.2.length : Int) ≠ (q.2.length : Int) := by simpa using hL
      omega
    go_enter Tryz.func30, Tryz.ntmps30
    go_wp2_with fail
    go_quiet (fail)
    go_wp2_with fail
    go_ret
    exact ⟨ret_bool HE.out.symm, Quiet.drewN _ _⟩
  have hL' : r.2.length = q.2.length := by have : (r.2.length : Int) = (q.2.length : Int) := by simpa using hL
                                           omega
  have HLL := Lib.hid hL'
  have HA := Lib.hid hA'
  clear hA' hL'
  go_enter Tryz.func30, Tryz.ntmps30
  go_wp2_with fail
  go_quiet (fail)
  rename_i nq
  generalize hWq : w.drewN nq = wq
  have hq0 : Quiet w wq := ⟨nq, hWq.symm⟩
  have hbq := hq0.below
  replace p1 := (cellB hbq (by omega)).trans p1
  replace q1 := (cellB hbq (by omega)).trans q1
  have hzq := hbq.size
  have HS1 := Lib.hid (HR1.out.below hbq)
  have HS2 := Lib.hid (HR2.out.below hbq)
  clear hWq p0 q0 hA hL
  go_wp2_with fail
  obtain ⟨wz, rfl⟩ : ∃ wz : World, wz = wq := ⟨_, rfl⟩
  go_loopw [5] (fun i wr => ∃ k : Nat, k ≤ r.2.length ∧ i = .int .i64 k ∧ r.2.take k = q.2.take k ∧ Quiet wz wr) (fun i _ => r.2.length - (intOf i).toNat)
  case atStart => exact ⟨0, Nat.zero_le _, rfl, by simp, Quiet.refl _⟩
  case round =>
    obtain ⟨k, hk, rfl, htk, hq⟩ := hrel
    have HTK := Lib.hid htk
    have hbe := hq.below
    have d1 := (cellB hbe (show b1 < wz.heap.size by omega)).trans p1
    have d2 := (cellB hbe (show b2 < wz.heap.size by omega)).trans q1
    clear htk
    by_cases hkl : k < r.2.length
    · have hkl2 : k < q.2.length := by have := HLL.out; omega
      obtain ⟨_, _, e1, -, -, hc1⟩ := slices_ex HS1.out
      simp only [List.cons.injEq, Value.slice.injEq, and_true, true_and] at e1
      obtain ⟨rfl, rfl⟩ := e1
      obtain ⟨_, _, e2, -, -, hc2⟩ := slices_ex HS2.out
      simp only [List.cons.injEq, Value.slice.injEq, and_true, true_and] at e2
      obtain ⟨rfl, rfl⟩ := e2
      obtain ⟨ba, oa, rfl, hba, hca⟩ := hc1 (by omega)
      obtain ⟨bb, ob, rfl, hbb, hcb⟩ := hc2 (by omega)
      obtain ⟨u1, hu1, g1⟩ := hca k hkl
      obtain ⟨u2, hu2, g2⟩ := hcb k hkl2
      obtain ⟨x1, y1, rfl⟩ := rd_slice hu1
      obtain ⟨x2, y2, rfl⟩ := rd_slice hu2
      have s1 := (cellB hbe hba).trans g1
      have s2 := (cellB hbe hbb).trans g2
      have cS : ∀ n, Calls Tryz.prog 61 #[.slice x1 (r.2[k]).length y1, .slice x2 (q.2[k]).length y2] (wr.drewN n) fun e w'' => e = .returned (.bool (eqB r.2[k] q.2[k])) ∧ ∃ m, w'' = wr.drewN m := fun n => quiet_call (l00Same_quiet _ ((hu1.below hbe).below (Quiet.drewN wr n).below) ((hu2.below hbe).below (Quiet.drewN wr n).below))
      clear hc1 hc2 hca hcb hu1 hu2 g1 g2
      cases he : eqB r.2[k] q.2[k]
      · have HE : Hid (eqB r q = false) := by
          unfold Hid
          have hne : r.2[k] ≠ q.2[k] := fun e => by rw [eqB_true e] at he; cases he
          exact eqB_snd HA.out (eqB_get hkl hkl2 hne)
        rw [he] at cS
        clear he
        go_wp2_with fail
        go_quiet (exact cS _)
        go_wp2_with fail
        go_ret
        exact ⟨ret_bool HE.out.symm, (hq0.then hq).then (Quiet.drewN _ _)⟩
      · have HN := Lib.hid (take_eq_succ hkl hkl2 HTK.out (eqB_iff.1 he))
        rw [he] at cS
        clear he
        go_wp2_with fail
        go_quiet (exact cS _)
        go_wp2_with fail
        go_roundw
        case rel => exact ⟨k + 1, by omega, by go_num, HN.out, hq.then (Quiet.drewN _ _)⟩
        case measure => simp [intOf]; omega
    · obtain rfl : k = r.2.length := by omega
      have HE : Hid (eqB r q = true) := by
        unfold Hid
        refine eqB_true (Prod.ext HA.out ?_)
        have h1 := HTK.out
        have h2 := HLL.out
        rw [List.take_of_length_le (Nat.le_refl _), List.take_of_length_le (by omega)] at h1
        exact h1
      go_wp2_with fail
      go_ret
      exact ⟨ret_bool HE.out.symm, hq0.then hq⟩
end Go.Proofs.YtmnjlhcbabhhlaaGreat
namespace Go.Proofs.YtmnjlhcbabhhlaaGreat
open Go.RowKit Go.Sort
abbrev RelV := Int × List (List Int)
section
variable {t : Tpl} {r : RelV}
end
end Go.Proofs.YtmnjlhcbabhhlaaGreat
namespace Go.Proofs.YtmnjlhcbabhhlaaGreat
open Go.RowKit Go.Sort
end Go.Proofs.YtmnjlhcbabhhlaaGreat
namespace Go.Proofs.YtmnjlhcbabhhlaaGreat
open Go.RowKit Go.Sort
section
variable {t : Tpl} {r : RelV}
end
end Go.Proofs.YtmnjlhcbabhhlaaGreat
namespace Go.Proofs.YtmnjlhcbabhhlaaGreat
open Go.RowKit Go.Sort
end Go.Proofs.YtmnjlhcbabhhlaaGreat
namespace Go.Proofs.YtmnjlhcbabhhlaaGreat
open Go.RowKit Go.Sort
section
variable {t : Tpl} {ar : Int}
end
end Go.Proofs.YtmnjlhcbabhhlaaGreat
namespace Go.Proofs.YtmnjlhcbabhhlaaGreat
open Go.RowKit Go.Sort
theorem ltL_irrefl {x : List Int} : ¬ ltL x x := by unfold ltL; rw [cmpL_self]; omega
theorem pw_ext : ∀ {xs ys : List (List Int)}, xs.Pairwise ltL → ys.Pairwise ltL → (∀ a, a ∈ xs ↔ a ∈ ys) → xs = ys
 | [], [], _, _, _ => rfl
 | [], y :: ys, _, _, h => absurd ((h y).2 (List.mem_cons_self ..)) (by simp)
 | x :: xs, [], _, _, h => absurd ((h x).1 (List.mem_cons_self ..)) (by simp)
 | x :: xs, y :: ys, hx, hy, h => by
  obtain ⟨x1, x2⟩ := List.pairwise_cons.1 hx
  obtain ⟨y1, y2⟩ := List.pairwise_cons.1 hy
  have e : x = y := by
   rcases List.mem_cons.1 ((h x).1 (List.mem_cons_self ..)) with e | e
   ·exact e
   ·rcases List.mem_cons.1 ((h y).2 (List.mem_cons_self ..)) with e' | e'
    ·exact e'.symm
    ·exact absurd (ltL_trans (y1 x e) (x1 y e')) ltL_irrefl
  subst e
  rw [pw_ext x2 y2 fun a => ⟨fun ha => ?_, fun ha => ?_⟩]
  ·rcases List.mem_cons.1 ((h a).1 (List.mem_cons_of_mem _ ha)) with e | e
   ·subst e; exact absurd (x1 _ ha) ltL_irrefl
   ·exact e
  ·rcases List.mem_cons.1 ((h a).2 (List.mem_cons_of_mem _ ha)) with e | e
   ·subst e; exact absurd (y1 _ ha) ltL_irrefl
   ·exact e
theorem sortedL_pw {xs : List (List Int)} (h : sortedL xs) : xs.Pairwise ltL := List.pairwise_iff_getElem.2 fun _ _ _ hj hij => sortedL_lt h hj hij
theorem rel_ext {s : Int} {r q : Int × List (List Int)} (hr : relOk s r) (hq : relOk s q) (h1 : r.1 = q.1) (h : ∀ a, a ∈ r.2 ↔ a ∈ q.2) : r = q :=
 Prod.ext h1 (pw_ext (sortedL_pw (relOk_sorted hr)) (sortedL_pw (relOk_sorted hq)) h)
section
variable {t : Tpl} {r : RelV}
end
end Go.Proofs.YtmnjlhcbabhhlaaGreat
namespace Go.Proofs.YtmnjlhcbabhhlaaGreat
open Go.RowKit Go.Sort
/-- what operations make of tuples, and of what they make -/
inductive Clo (s : Int) (ops : List (Int × List Int)) (ar : Nat) (T : List (List Int)) : List Int → Prop
 | base {l : List Int} (h : l ∈ T) : Clo s ops ar T l
 | step {f : Int × List Int} {ts : List (List Int)} (hf : f ∈ ops) (hl : (ts.length : Int) = f.1) (h : ∀ l ∈ ts, Clo s ops ar T l) : Clo s ops ar T (madeL s f.2 ts ar)
def tupP (s : Int) (ar : Nat) (l : List Int) : Prop := l.length = ar ∧ ∀ a ∈ l, 0 ≤ a ∧ a ≤ s - 1
/-- all tuples for which something is so, in order -/
theorem relL_iff {s : Int} {ar N : Nat} {p : List Int → Bool} (hs : 1 ≤ s) (hN : s ^ ar = N) {l : List Int} (hl : tupP s ar l) : l ∈ relL s ar p N ↔ p l = true := by
 have hb := idx_lt hs hl.1 hl.2
 rw [hN] at hb
 have e := dig_of hs hl.1 hl.2
 have h := relL_mem (s := s) (n := ar) (N := N) (p := p) (k := (idxL s 0 l).toNat) (by omega)
 rw [show (((idxL s 0 l).toNat : Nat) : Int) = idxL s 0 l by omega, e] at h
 rw [← h, tb_iff]
theorem relL_tup {s : Int} {ar N : Nat} {p : List Int → Bool} (hs : 1 ≤ s) {l : List Int} (h : l ∈ relL s ar p N) : tupP s ar l := by
 obtain ⟨h1, -⟩ := List.mem_filter.1 h
 obtain ⟨k, -, rfl⟩ := List.mem_map.1 h1
 exact ⟨digL_len, digL_in hs⟩
theorem relL_ok {s : Int} {ar N : Nat} {p : List Int → Bool} (hs : sizeOk s) (har : 1 ≤ ar ∧ ar ≤ 4) (hN : s ^ ar = N) : relOk s ((ar : Int), relL s ar p N) := by
 have h1 := hs.1
 refine ⟨hs, ⟨by show (1 : Int) ≤ ar; omega, by show (ar : Int) ≤ 4; omega⟩, fun i hi => ⟨?_, relL_sorted h1 hN i hi⟩⟩
 have := relL_tup h1 (List.getElem_mem hi)
 exact ⟨by show ((_ : Nat) : Int) = (ar : Int); rw [this.1], this.2⟩
theorem relL_cong {s : Int} {ar N : Nat} {p q : List Int → Bool} (h : ∀ l, p l = q l) : relL s ar p N = relL s ar q N := by
 rw [show p = q from funext h]
end Go.Proofs.YtmnjlhcbabhhlaaGreat
namespace Go.Proofs.YtmnjlhcbabhhlaaGreat
open Go.RowKit Go.Sort
abbrev Rels := List (Int × List (List Int))
/-- the place of the relation of two variables, i before j -/
def pxN (i j : Nat) : Nat := j * (j - 1) / 2 + i
theorem tri_succ (j : Nat) : (j + 1) * j / 2 = j * (j - 1) / 2 + j := by
 cases j with
 | zero => rfl
 | succ j =>
  have h1 : (j + 1 + 1) * (j + 1) = (j + 1) * (j + 1 - 1) + (j + 1) * 2 := by
   rw [Nat.add_sub_cancel, Nat.mul_comm, ← Nat.mul_add]
  rw [h1, Nat.add_mul_div_right _ _ (by omega)]
theorem tri_mono {j n : Nat} (h : j ≤ n) : j * (j - 1) / 2 ≤ n * (n - 1) / 2 := Nat.div_le_div_right (Nat.mul_le_mul h (by omega))
theorem pxN_lt {i j n : Nat} (h : i < j) (hj : j < n) : pxN i j < n * (n - 1) / 2 := by
 have h1 : (j + 1) * (j + 1 - 1) / 2 ≤ n * (n - 1) / 2 := tri_mono hj
 rw [Nat.add_sub_cancel, tri_succ] at h1
 unfold pxN
 omega
theorem pxN_inj {i j i' j' : Nat} (h : i < j) (h' : i' < j') (e : pxN i j = pxN i' j') : i = i' ∧ j = j' := by
 unfold pxN at e
 rcases Nat.lt_trichotomy j j' with hc | hc | hc
 ·have h1 : (j + 1) * (j + 1 - 1) / 2 ≤ j' * (j' - 1) / 2 := tri_mono hc
  rw [Nat.add_sub_cancel, tri_succ] at h1
  omega
 ·subst hc; omega
 ·have h1 : (j' + 1) * (j' + 1 - 1) / 2 ≤ j * (j - 1) / 2 := tri_mono hc
  rw [Nat.add_sub_cancel, tri_succ] at h1
  omega
/-- the tuples left for two variables -/
def prR (P : Rels) (i j : Nat) : List (List Int) := (P.getD (pxN i j) (0, [])).2
/-- whether a pair of values is left -/
noncomputable def prL (P : Rels) (i j : Nat) (a b : Int) : Bool := match decide (j < i) with
 | true => tb ([b, a] ∈ prR P j i)
 | false => tb ([a, b] ∈ prR P i j)
theorem prL_gt {P : Rels} {i j : Nat} {a b : Int} (h : j < i) : prL P i j a b = tb ([b, a] ∈ prR P j i) := by simp [prL, h]
theorem prL_le {P : Rels} {i j : Nat} {a b : Int} (h : ¬ j < i) : prL P i j a b = tb ([a, b] ∈ prR P i j) := by simp [prL, h]
/-- whether a pair goes through a third variable -/
noncomputable def prT (s : Int) (P : Rels) (i j k : Nat) (l : List Int) : Bool := (List.range s.toNat).any fun c : Nat => prL P i k (l.getD 0 0) (c : Int) && prL P k j (c : Int) (l.getD 1 0)
noncomputable def nwR (s : Int) (P : Rels) (i j k : Nat) : List (List Int) := (prR P i j).filter (prT s P i j k)
noncomputable def nwB (s : Int) (P : Rels) (i j k : Nat) : Bool := decide ((nwR s P i j k).length < (prR P i j).length)
noncomputable def nwV (s : Int) (P : Rels) (i j k : Nat) : Rels := P.set (pxN i j) (2, nwR s P i j k)
abbrev Stp := Nat × Nat × Nat
/-- a step, if the third variable is another one -/
noncomputable def stepS (s : Int) (st : Rels × List Stp) (e : Stp) : Rels × List Stp := match decide (e.2.2 ≠ e.1 ∧ e.2.2 ≠ e.2.1), nwB s st.1 e.1 e.2.1 e.2.2 with
 | true, true => (nwV s st.1 e.1 e.2.1 e.2.2, st.2 ++ [e])
 | _, _ => st
noncomputable def doK (s : Int) (i j m : Nat) (st : Rels × List Stp) : Rels × List Stp := (List.range m).foldl (fun st k => stepS s st (i, j, k)) st
noncomputable def doI (s : Int) (j n m : Nat) (st : Rels × List Stp) : Rels × List Stp := (List.range m).foldl (fun st i => doK s i j n st) st
noncomputable def doJ (s : Int) (n m : Nat) (st : Rels × List Stp) : Rels × List Stp := (List.range m).foldl (fun st j => doI s j n j st) st
theorem doK_succ {s : Int} {i j m : Nat} {st : Rels × List Stp} : doK s i j (m + 1) st = stepS s (doK s i j m st) (i, j, m) := by simp [doK, List.range_succ]
theorem doI_succ {s : Int} {j n m : Nat} {st : Rels × List Stp} : doI s j n (m + 1) st = doK s m j n (doI s j n m st) := by simp [doI, List.range_succ]
theorem doJ_succ {s : Int} {n m : Nat} {st : Rels × List Stp} : doJ s n (m + 1) st = doI s m n m (doJ s n m st) := by simp [doJ, List.range_succ]
/-- what is so of all states -/
theorem doJ_ind {Q : Rels × List Stp → Prop} {s : Int} {n : Nat} (hQ : ∀ st i j k, i < j → j < n → k < n → Q st → Q (stepS s st (i, j, k))) {m : Nat} (hm : m ≤ n) {st : Rels × List Stp} (h : Q st) : Q (doJ s n m st) := by
 have hK : ∀ i j, i < j → j < n → ∀ m, m ≤ n → ∀ st, Q st → Q (doK s i j m st) := fun i j hi hj m => by
  induction m with
  | zero => exact fun _ st h => h
  | succ m ih => exact fun hm st h => by rw [doK_succ]; exact hQ _ _ _ _ hi hj (by omega) (ih (by omega) st h)
 have hI : ∀ j, j < n → ∀ m, m ≤ j → ∀ st, Q st → Q (doI s j n m st) := fun j hj m => by
  induction m with
  | zero => exact fun _ st h => h
  | succ m ih => exact fun hm st h => by rw [doI_succ]; exact hK _ _ (by omega) hj n (Nat.le_refl _) _ (ih (by omega) st h)
 induction m with
 | zero => exact h
 | succ m ih => rw [doJ_succ]; exact hI m (by omega) m (Nat.le_refl _) _ (ih (by omega))
/-- how many tuples there are -/
def totP (P : Rels) : Nat := (P.map fun r => r.2.length).sum
theorem tot_set {P : Rels} {q : Nat} {r : Int × List (List Int)} (hq : q < P.length) : totP (P.set q r) + (P[q]).2.length = totP P + r.2.length := by
 unfold totP
 induction P generalizing q with
 | nil => simp at hq
 | cons a P ih =>
  cases q with
  | zero => simp; omega
  | succ q =>
   have := ih (q := q) (by simpa using hq)
   simp only [List.set_cons_succ, List.map_cons, List.sum_cons, List.getElem_cons_succ]
   omega
theorem prR_at {P : Rels} {i j : Nat} (h : pxN i j < P.length) : prR P i j = (P[pxN i j]).2 := by
 unfold prR
 rw [List.getD_eq_getElem?_getD, List.getElem?_eq_getElem h]
 rfl
theorem prs_no {s : Int} {st : Rels × List Stp} {e : Stp} (h : ¬ (e.2.2 ≠ e.1 ∧ e.2.2 ≠ e.2.1)) : stepS s st e = st := by
 unfold stepS
 rw [decide_eq_false h]
theorem prs_same {s : Int} {st : Rels × List Stp} {e : Stp} (h : nwB s st.1 e.1 e.2.1 e.2.2 = false) : stepS s st e = st := by
 unfold stepS
 rw [h]
 cases decide (e.2.2 ≠ e.1 ∧ e.2.2 ≠ e.2.1) <;> rfl
theorem prs_yes {s : Int} {st : Rels × List Stp} {e : Stp} (h : e.2.2 ≠ e.1 ∧ e.2.2 ≠ e.2.1) (h2 : nwB s st.1 e.1 e.2.1 e.2.2 = true) : stepS s st e = (nwV s st.1 e.1 e.2.1 e.2.2, st.2 ++ [e]) := by
 unfold stepS
 rw [decide_eq_true h, h2]
/-- the tuples and the steps together do not grow -/
theorem prs_tot {s : Int} {n : Nat} {st : Rels × List Stp} {i j k : Nat} (hl : st.1.length = n * (n - 1) / 2) (hi : i < j) (hj : j < n) : (stepS s st (i, j, k)).1.length = st.1.length ∧ totP (stepS s st (i, j, k)).1 + (stepS s st (i, j, k)).2.length ≤ totP st.1 + st.2.length ∧ st.2.length ≤ (stepS s st (i, j, k)).2.length := by
 by_cases h : k ≠ i ∧ k ≠ j
 ·cases h2 : nwB s st.1 i j k
  ·rw [prs_same (e := (i, j, k)) h2]; exact ⟨rfl, Nat.le_refl _, Nat.le_refl _⟩
  ·rw [prs_yes (e := (i, j, k)) h h2]
   have hq : pxN i j < st.1.length := by rw [hl]; exact pxN_lt hi hj
   have := tot_set (r := ((2 : Int), nwR s st.1 i j k)) hq
   have h3 : (nwR s st.1 i j k).length < (prR st.1 i j).length := by simpa [nwB] using h2
   rw [prR_at hq] at h3
   refine ⟨by simp [nwV], ?_, by simp⟩
   show totP (nwV s st.1 i j k) + (st.2 ++ [(i, j, k)]).length ≤ _
   unfold nwV
   rw [List.length_append, List.length_singleton]
   dsimp only at this
   omega
 ·rw [prs_no (e := (i, j, k)) h]; exact ⟨rfl, Nat.le_refl _, Nat.le_refl _⟩
theorem sweep_tot {s : Int} {n : Nat} {st : Rels × List Stp} (hl : st.1.length = n * (n - 1) / 2) : (doJ s n n st).1.length = st.1.length ∧ totP (doJ s n n st).1 + (doJ s n n st).2.length ≤ totP st.1 + st.2.length ∧ st.2.length ≤ (doJ s n n st).2.length := by
 refine doJ_ind (Q := fun st' => st'.1.length = st.1.length ∧ totP st'.1 + st'.2.length ≤ totP st.1 + st.2.length ∧ st.2.length ≤ st'.2.length) (fun st' i j k hi hj _ h => ?_) (Nat.le_refl _) ⟨rfl, Nat.le_refl _, Nat.le_refl _⟩
 obtain ⟨g1, g2, g3⟩ := prs_tot (s := s) (k := k) (h.1.trans hl) hi hj
 exact ⟨g1.trans h.1, Nat.le_trans g2 h.2.1, Nat.le_trans h.2.2 g3⟩
/-- sweeps until one makes no step -/
noncomputable def mkF (s : Int) (n : Nat) : Nat → Rels × List Stp → Rels × List Stp
 | 0, st => st
 | m + 1, st => match decide ((doJ s n n st).2.length = st.2.length) with
  | true => doJ s n n st
  | false => mkF s n m (doJ s n n st)
noncomputable def mkP (s : Int) (n : Nat) (st : Rels × List Stp) : Rels × List Stp := mkF s n (totP st.1 + 1) st
theorem mkF_any {s : Int} {n : Nat} : ∀ {m m' : Nat} {st : Rels × List Stp}, st.1.length = n * (n - 1) / 2 → totP st.1 < m → totP st.1 < m' → mkF s n m st = mkF s n m' st
 | 0, _, _, _, h, _ => absurd h (Nat.not_lt_zero _)
 | _ + 1, 0, _, _, _, h => absurd h (Nat.not_lt_zero _)
 | m + 1, m' + 1, st, hl, h, h' => by
  unfold mkF
  cases he : decide ((doJ s n n st).2.length = st.2.length)
  ·have hne : ¬ ((doJ s n n st).2.length = st.2.length) := of_decide_eq_false he
   obtain ⟨g1, g2, g3⟩ := sweep_tot (s := s) hl
   exact mkF_any (g1.trans hl) (by omega) (by omega)
  ·rfl
theorem mkP_end {s : Int} {n : Nat} {st : Rels × List Stp} (h : (doJ s n n st).2.length = st.2.length) : mkP s n st = doJ s n n st := by
 unfold mkP mkF
 rw [decide_eq_true h]
theorem mkP_more {s : Int} {n : Nat} {st : Rels × List Stp} (hl : st.1.length = n * (n - 1) / 2) (h : (doJ s n n st).2.length ≠ st.2.length) : mkP s n st = mkP s n (doJ s n n st) ∧ totP (doJ s n n st).1 < totP st.1 := by
 obtain ⟨g1, g2, g3⟩ := sweep_tot (s := s) hl
 refine ⟨?_, by omega⟩
 unfold mkP
 conv => lhs; unfold mkF
 rw [decide_eq_false h]
 exact mkF_any (g1.trans hl) (by omega) (by omega)
/-- what is so of the start and kept by a step is so of the end -/
theorem mkP_ind {Q : Rels × List Stp → Prop} {s : Int} {n : Nat} (hQ : ∀ st i j k, i < j → j < n → k < n → Q st → Q (stepS s st (i, j, k))) : ∀ {m : Nat} {st : Rels × List Stp}, Q st → Q (mkF s n m st)
 | 0, _, h => h
 | m + 1, st, h => by
  unfold mkF
  have h1 : Q (doJ s n n st) := doJ_ind hQ (Nat.le_refl _) h
  cases decide ((doJ s n n st).2.length = st.2.length)
  ·exact mkP_ind hQ h1
  ·exact h1
/-- steps one by one -/
noncomputable def repS (s : Int) (P : Rels) (S : List Stp) : Rels := S.foldl (fun P e => nwV s P e.1 e.2.1 e.2.2) P
theorem repS_snoc {s : Int} {P : Rels} {S : List Stp} {e : Stp} : repS s P (S ++ [e]) = nwV s (repS s P S) e.1 e.2.1 e.2.2 := by simp [repS]
/-- steps that are right, each in its turn -/
def GoodS (s : Int) (n : Nat) (P : Rels) (S : List Stp) : Prop := ∀ q (h : q < S.length), (S[q].1 < S[q].2.1 ∧ S[q].2.1 < n ∧ S[q].2.2 < n ∧ S[q].2.2 ≠ S[q].1 ∧ S[q].2.2 ≠ S[q].2.1) ∧ nwB s (repS s P (S.take q)) S[q].1 S[q].2.1 S[q].2.2 = true
theorem good_nil {s : Int} {n : Nat} {P : Rels} : GoodS s n P [] := fun q h => by simp at h
theorem good_mk {s : Int} {n : Nat} {P : Rels} : GoodS s n P (mkP s n (P, [])).2 ∧ repS s P (mkP s n (P, [])).2 = (mkP s n (P, [])).1 := by
 unfold mkP
 refine mkP_ind (Q := fun st => GoodS s n P st.2 ∧ repS s P st.2 = st.1) (fun st i j k hi hj hk h => ?_) ⟨good_nil, rfl⟩
 by_cases h1 : k ≠ i ∧ k ≠ j
 ·cases h2 : nwB s st.1 i j k
  ·rw [prs_same (e := (i, j, k)) h2]; exact h
  ·rw [prs_yes (e := (i, j, k)) h1 h2]
   refine ⟨fun q hq => ?_, by show repS s P (st.2 ++ [(i, j, k)]) = _; rw [repS_snoc, h.2]⟩
   have hq' : q < (st.2 ++ [(i, j, k)]).length := hq
   rcases Nat.lt_or_ge q st.2.length with hlt | hge
   ·have := h.1 q hlt
    show ((st.2 ++ [(i, j, k)])[q].1 < (st.2 ++ [(i, j, k)])[q].2.1 ∧ (st.2 ++ [(i, j, k)])[q].2.1 < n ∧ (st.2 ++ [(i, j, k)])[q].2.2 < n ∧ (st.2 ++ [(i, j, k)])[q].2.2 ≠ (st.2 ++ [(i, j, k)])[q].1 ∧ (st.2 ++ [(i, j, k)])[q].2.2 ≠ (st.2 ++ [(i, j, k)])[q].2.1) ∧ nwB s (repS s P ((st.2 ++ [(i, j, k)]).take q)) (st.2 ++ [(i, j, k)])[q].1 (st.2 ++ [(i, j, k)])[q].2.1 (st.2 ++ [(i, j, k)])[q].2.2 = true
    rw [List.getElem_append_left hlt, List.take_append_of_le_length (by omega)]
    exact this
   ·obtain rfl : q = st.2.length := by simp at hq'; omega
    show ((st.2 ++ [(i, j, k)])[st.2.length].1 < (st.2 ++ [(i, j, k)])[st.2.length].2.1 ∧ _ ∧ _ ∧ _ ∧ _) ∧ nwB s (repS s P ((st.2 ++ [(i, j, k)]).take st.2.length)) _ _ _ = true
    rw [List.take_left, h.2]
    simp only [List.getElem_concat_length]
    exact ⟨⟨hi, hj, hk, h1.1, h1.2⟩, h2⟩
 ·rw [prs_no (e := (i, j, k)) h1]; exact h
end Go.Proofs.YtmnjlhcbabhhlaaGreat
namespace Go.Proofs.YtmnjlhcbabhhlaaGreat
open Go.RowKit Go.Sort
/-- block b holds relations from place o on; their tuples lie elsewhere, in blocks that are free to be read -/
def PR (ok : Nat → Prop) (w : World) (b o : Nat) (P : Rels) : Prop := b < w.heap.size ∧ (∀ i, w.frozen? ⟨b, i, none⟩ = false) ∧ ∀ i (h : i < P.length), ∃ v, rowsT.RdP (fun q => q ≠ b ∧ ok q) w [v] (P[i]).2 ∧ I64 (P[i]).1 ∧ w.cell? ⟨b, o + i * 2, none⟩ = some (.int .i64 (P[i]).1) ∧ w.cell? ⟨b, o + i * 2 + 1, none⟩ = some v
theorem PR.below {ok : Nat → Prop} {w w' : World} {b o : Nat} {P : Rels} (h : PR ok w b o P) (hb : Below w.heap.size w w') : PR ok w' b o P :=
 ⟨Nat.lt_of_lt_of_le h.1 hb.size, fun i => (frozenB hb h.1).trans (h.2.1 i), fun i hi => let ⟨v, h1, h2, h3, h4⟩ := h.2.2 i hi; ⟨v, h1.below hb, h2, (cellB hb h.1).trans h3, (cellB hb h.1).trans h4⟩⟩
theorem tchP_cell2 {w : World} {b i : Nat} {v : Value} : TchP (fun q => q = b) w (w.setCell ⟨b, i, none⟩ v) := TchP.set (O := fun q => q = b) rfl
theorem PR.set {ok : Nat → Prop} {w : World} {b o q : Nat} {P : Rels} (h : PR ok w b o P) (hq : q < P.length) {a : Int} {v : Value} {R : List (List Int)} (hv : rowsT.RdP (fun q => q ≠ b ∧ ok q) w [v] R) (ha : I64 a) : PR ok ((w.setCell ⟨b, o + q * 2, none⟩ (.int .i64 a)).setCell ⟨b, o + q * 2 + 1, none⟩ v) b o (P.set q (a, R)) := by
 have ht : TchP (fun q => q = b) w ((w.setCell ⟨b, o + q * 2, none⟩ (.int .i64 a)).setCell ⟨b, o + q * 2 + 1, none⟩ v) := tchP_cell2.then tchP_cell2 (fun _ _ h => h)
 refine ⟨by simp only [size_set]; exact h.1, fun i => (World.frozen?_setCell _ _ _ _).trans ((World.frozen?_setCell _ _ _ _).trans (h.2.1 i)), fun i hi => ?_⟩
 have hi' : i < P.length := by simpa using hi
 obtain ⟨u, h1, h2, h3, h4⟩ := h.2.2 i hi'
 obtain ⟨u', h1', h2', h3', h4'⟩ := h.2.2 q hq
 rw [List.getElem_set]
 by_cases e : q = i
 ·subst e
  simp only [if_true]
  refine ⟨v, hv.tchP ht fun k _ hk e => hk.1 e, ha, ?_, ?_⟩
  ·exact (World.cell?_setCell_other _ _ _ _ (by intro e; simp only [Addr.mk.injEq] at e; omega)).trans (World.cell?_setCell_same _ _ _ h3')
  ·exact World.cell?_setCell_same _ _ _ ((World.cell?_setCell_other _ _ _ _ (by intro e; simp only [Addr.mk.injEq] at e; omega)).trans h4')
 ·simp only [if_neg e]
  refine ⟨u, h1.tchP ht fun k _ hk e => hk.1 e, h2, ?_, ?_⟩
  ·exact (World.cell?_setCell_other _ _ _ _ (by intro e'; simp only [Addr.mk.injEq] at e'; omega)).trans ((World.cell?_setCell_other _ _ _ _ (by intro e'; simp only [Addr.mk.injEq] at e'; omega)).trans h3)
  ·exact (World.cell?_setCell_other _ _ _ _ (by intro e'; simp only [Addr.mk.injEq] at e'; omega)).trans ((World.cell?_setCell_other _ _ _ _ (by intro e'; simp only [Addr.mk.injEq] at e'; omega)).trans h4)
theorem rdp_val {ok : Nat → Prop} {w : World} {v : Value} {R : List (List Int)} (h : rowsT.RdP ok w [v] R) : ∃ a c, v = .slice a R.length c := rd_slice h.rd
theorem pr_of_fr {w : World} {base b o n c : Nat} {P : Rels} (h : relsT.Fr base w [.slice (some ⟨b, o, none⟩) n c] P) (h0 : 0 < P.length) : base ≤ b ∧ PR (fun q => base ≤ q) w b o P := by
 obtain ⟨fp, ⟨ad, cap, hv, h1, h2, h3⟩, hnd, hge, hun⟩ := h
 simp only [List.cons.injEq, Value.slice.injEq, and_true] at hv
 obtain ⟨rfl, rfl, rfl⟩ := hv
 rcases h3 with ⟨h4, -⟩ | ⟨-, b', o', fps, he, hb, rfl, h4⟩
 ·omega
 simp only [Option.some.injEq, Addr.mk.injEq, and_true] at he
 obtain ⟨rfl, rfl⟩ := he
 refine ⟨hge b (List.mem_cons_self ..), hb, fun i => hun b (List.mem_cons_self ..) i, fun i hi => ?_⟩
 obtain ⟨cs, ⟨cs', rfl, hI, h5⟩, h6⟩ := h4 i hi
 obtain ⟨ad, cap, rfl, _⟩ := id h5
 refine ⟨_, ⟨_, h5, fun k hk => ⟨fun e => ?_, hge k (List.mem_cons_of_mem _ (List.mem_flatMap.2 ⟨i, by simpa using hi, hk⟩))⟩⟩, hI, ?_, ?_⟩
 ·subst e
  exact (List.nodup_cons.1 hnd).1 (List.mem_flatMap.2 ⟨i, by simpa using hi, hk⟩)
 ·have := h6 0 (by simp)
  rw [List.getElem_cons_zero] at this
  simpa [Ty.slice, Ty.cons] using this
 ·have := h6 1 (by simp)
  simpa [Ty.slice, Ty.cons] using this
/-- as many relations as pairs of n variables, all of them valid -/
def RlOk (s : Int) (n : Nat) (P : Rels) : Prop := P.length = n * (n - 1) / 2 ∧ ∀ r ∈ P, relOk s r ∧ r.1 = 2
theorem RlOk.at {s : Int} {n i j : Nat} {P : Rels} (h : RlOk s n P) (hi : i < j) (hj : j < n) : pxN i j < P.length := by rw [h.1]; exact pxN_lt hi hj
theorem relL_filter {s : Int} {N : Nat} {ar : Nat} {p q : List Int → Bool} : (relL s ar p N).filter q = relL s ar (fun l => q l && p l) N := by
 unfold relL
 rw [List.filter_filter]
/-- a valid relation is all tuples that are in it -/
theorem relL_self {s : Int} {N : Nat} {R : List (List Int)} (h : relOk s ((2 : Int), R)) (hN : s ^ 2 = N) : R = relL s 2 (fun l => tb (l ∈ R)) N := by
 have h2 := relL_ok (p := fun l => tb (l ∈ R)) h.1 (ar := 2) (by omega) hN
 have := rel_ext h h2 rfl (fun l => by
  show l ∈ R ↔ l ∈ relL s 2 (fun l => tb (l ∈ R)) N
  constructor
  ·intro hl
   obtain ⟨i, hi, rfl⟩ := List.mem_iff_getElem.1 hl
   obtain ⟨q1, q2⟩ := (h.2.2 i hi).1
   exact (relL_iff h.1.1 hN ⟨by have : ((R[i]).length : Int) = 2 := q1; omega, q2⟩).2 (tb_true (List.getElem_mem hi))
  ·exact fun hl => tb_iff.1 ((relL_iff h.1.1 hN (relL_tup h.1.1 hl)).1 hl))
 exact congrArg Prod.snd this
/-- what is left, as the program makes it -/
theorem nw_rel {s : Int} {n i j k N : Nat} {P : Rels} (h : RlOk s n P) (hi : i < j) (hj : j < n) (hN : s ^ 2 = N) : nwR s P i j k = relL s 2 (fun l => tb (l ∈ prR P i j) && prT s P i j k l) N := by
 have hq := h.at hi hj
 have hr := h.2 _ (List.getElem_mem hq)
 have hself : prR P i j = relL s 2 (fun l => tb (l ∈ prR P i j)) N := by
  rw [prR_at hq]
  refine relL_self ?_ hN
  rw [show ((2 : Int), (P[pxN i j]).2) = P[pxN i j] from Prod.ext hr.2.symm rfl]
  exact hr.1
 unfold nwR
 conv => lhs; rw [hself]
 rw [relL_filter]
 refine relL_cong fun l => ?_
 rw [Bool.and_comm]
theorem pix_lt {i j : Nat} (h : i < j) : pix (i : Int) (j : Int) = ((pxN i j : Nat) : Int) ∧ pix (j : Int) (i : Int) = ((pxN i j : Nat) : Int) := by
 have h1 : ((j : Int)) * ((j : Int) - 1) / 2 = ((j * (j - 1) / 2 : Nat) : Int) := by
  cases j with
  | zero => omega
  | succ j =>
   simp only [Nat.add_sub_cancel]
   rw [show ((j + 1 : Nat) : Int) - 1 = (j : Int) by omega]
   omega
 unfold pix pxN
 constructor
 ·rw [Int.max_eq_right (by omega), Int.min_eq_left (by omega), h1]; omega
 ·rw [Int.max_eq_left (by omega), Int.min_eq_right (by omega), h1]; omega
set_option maxHeartbeats 1600000 in
set_option maxRecDepth 100000 in
theorem isLeft_any {ok : Nat → Prop} (w : World) {b o m c n : Nat} {P : Rels} {s : Int} (h : PR ok w b o P) (hm : P.length = m) (hok : RlOk s n P) (hn : n ≤ 100) (i j : Nat) (hij : i ≠ j) (hi : i < n) (hj : j < n) {a e0 : Int} (ha : I64 a) (hb : I64 e0) :
  Calls Tryz.prog 55 #[.slice (some ⟨b, o, none⟩) m c, .int .i64 (i : Int), .int .i64 (j : Int), .int .i64 a, .int .i64 e0] w fun e w' => e = .returned (.bool (prL P i j a e0)) ∧ Below w.heap.size w w' := by
 have H := Lib.hid h
 rcases Nat.lt_or_ge j i with hlt | hge
 ·have hq := hok.at hlt hi
  obtain ⟨v, h1, h2, h3, h4⟩ := h.2.2 _ hq
  have hr := hok.2 _ (List.getElem_mem hq)
  have hpx := (pix_lt hlt).1
  have HR : Hid (relT.Rd w [.int .i64 (P[pxN j i]).1, v] P[pxN j i] ∧ relOk s P[pxN j i]) := ⟨pair_mk h2 h1.rd, hr.1⟩
  obtain ⟨va, vc, rfl⟩ := rdp_val h1
  have HE : Hid (prL P i j a e0 = tb ([e0, a] ∈ (P[pxN j i]).2)) := by unfold Hid; rw [prL_gt hlt, prR_at hq]
  have hd : decide ((j : Int) < (i : Int)) = true := by simp; omega
  rw [hm] at hq
  generalize P[pxN j i] = r at h3 h4 HR HE
  generalize pxN j i = q at hq hpx h3 h4
  clear h h1 h2 hr hok hm
  go_enter Tryz.func55, Tryz.ntmps55
  go_wp2_with fail
  refine (pairIndex_any (j : Int) (i : Int) w (by omega) (by omega) (by omega) (by omega)).mono ?_
  rintro e _ ⟨rfl, rfl⟩
  rw [hpx]
  clear hpx
  go_wp2_with fail
  generalize hW : World.alloc w _ = W
  have hbW : Below w.heap.size w W := hW ▸ bA
  have HV : Hid (intsT.Rd W [.slice (some ⟨w.heap.size, 0, none⟩) 2 2] [e0, a]) := by unfold Hid; rw [← hW]; exact (fr_ints2 hb ha rfl (Nat.le_refl _)).rd
  clear hW
  refine (has_any W (r := r) (HR.out.1.below hbW) HV.out (relOk_sorted HR.out.2)).mono ?_
  rintro e w2 ⟨rfl, hb2⟩
  go_wp2_with fail
  go_ret
  exact ⟨ret_bool HE.out.symm, bthen hbW hb2⟩
 ·have hlt : i < j := by omega
  have hq := hok.at hlt hj
  obtain ⟨v, h1, h2, h3, h4⟩ := h.2.2 _ hq
  have hr := hok.2 _ (List.getElem_mem hq)
  have hpx := (pix_lt hlt).1
  have HR : Hid (relT.Rd w [.int .i64 (P[pxN i j]).1, v] P[pxN i j] ∧ relOk s P[pxN i j]) := ⟨pair_mk h2 h1.rd, hr.1⟩
  obtain ⟨va, vc, rfl⟩ := rdp_val h1
  have HE : Hid (prL P i j a e0 = tb ([a, e0] ∈ (P[pxN i j]).2)) := by unfold Hid; rw [prL_le (by omega), prR_at hq]
  have hd : decide ((j : Int) < (i : Int)) = false := by simp; omega
  rw [hm] at hq
  generalize P[pxN i j] = r at h3 h4 HR HE
  generalize pxN i j = q at hq hpx h3 h4
  clear h h1 h2 hr hok hm
  go_enter Tryz.func55, Tryz.ntmps55
  go_wp2_with fail
  refine (pairIndex_any (i : Int) (j : Int) w (by omega) (by omega) (by omega) (by omega)).mono ?_
  rintro e _ ⟨rfl, rfl⟩
  rw [hpx]
  clear hpx
  go_wp2_with fail
  generalize hW : World.alloc w _ = W
  have hbW : Below w.heap.size w W := hW ▸ bA
  have HV : Hid (intsT.Rd W [.slice (some ⟨w.heap.size, 0, none⟩) 2 2] [a, e0]) := by unfold Hid; rw [← hW]; exact (fr_ints2 ha hb rfl (Nat.le_refl _)).rd
  clear hW
  refine (has_any W (r := r) (HR.out.1.below hbW) HV.out (relOk_sorted HR.out.2)).mono ?_
  rintro e w2 ⟨rfl, hb2⟩
  go_wp2_with fail
  go_ret
  exact ⟨ret_bool HE.out.symm, bthen hbW hb2⟩
end Go.Proofs.YtmnjlhcbabhhlaaGreat
namespace Go.Proofs.YtmnjlhcbabhhlaaGreat
open Go.RowKit Go.Sort
theorem prT_yes {s : Int} {P : Rels} {i j k c : Nat} {l : List Int} (hc : (c : Int) < s) (h : (prL P i k (l.getD 0 0) (c : Int) && prL P k j (c : Int) (l.getD 1 0)) = true) : prT s P i j k l = true := by
 unfold prT
 rw [List.any_eq_true]
 exact ⟨c, by simp; omega, h⟩
theorem prT_no {s : Int} {P : Rels} {i j k : Nat} {l : List Int} (h : ∀ c : Nat, (c : Int) < s → (prL P i k (l.getD 0 0) (c : Int) && prL P k j (c : Int) (l.getD 1 0)) = false) : prT s P i j k l = false := by
 unfold prT
 rw [List.any_eq_false]
 intro c hc
 have hc' : (c : Int) < s := by simp at hc; omega
 rw [h c hc']
 simp
theorem nw_len {s : Int} {P : Rels} {i j k : Nat} : (nwR s P i j k).length ≤ (prR P i j).length := List.length_filter_le _ _
theorem nw_same {s : Int} {n i j k : Nat} {P : Rels} (h : RlOk s n P) (hi : i < j) (hj : j < n) (hb : nwB s P i j k = false) : nwV s P i j k = P := by
 have hq := h.at hi hj
 have hr := h.2 _ (List.getElem_mem hq)
 have h1 : ¬ ((nwR s P i j k).length < (prR P i j).length) := of_decide_eq_false hb
 have h2 : nwR s P i j k = prR P i j := (List.filter_sublist (l := prR P i j) (p := prT s P i j k)).eq_of_length (by have := nw_len (s := s) (P := P) (i := i) (j := j) (k := k); unfold nwR at this h1; omega)
 unfold nwV
 rw [h2, prR_at hq]
 refine List.ext_getElem (by simp) fun m h3 h4 => ?_
 rw [List.getElem_set]
 by_cases e : pxN i j = m
 ·subst e
  simp only [if_true]
  exact Prod.ext hr.2.symm rfl
 ·rw [if_neg e]
theorem RlOk.nw {s : Int} {n i j k : Nat} {P : Rels} (h : RlOk s n P) (hi : i < j) (hj : j < n) : RlOk s n (nwV s P i j k) := by
 refine ⟨by unfold nwV; rw [List.length_set]; exact h.1, fun r hr => ?_⟩
 unfold nwV at hr
 rcases List.mem_or_eq_of_mem_set hr with h1 | rfl
 ·exact h.2 r h1
 ·have hs := (h.2 _ (List.getElem_mem (h.at hi hj))).1.1
  obtain ⟨N, hN⟩ : ∃ N : Nat, s ^ 2 = (N : Int) := ⟨(s ^ 2).toNat, by have := pow_nn (s := s) (by have := hs.1; omega) 2; omega⟩
  rw [nw_rel h hi hj hN]
  exact ⟨relL_ok hs (ar := 2) (by omega) hN, rfl⟩
set_option maxHeartbeats 3200000 in
set_option maxRecDepth 100000 in
theorem narrow1_any {ok : Nat → Prop} (w : World) {b o m c n : Nat} {P : Rels} {s : Int} (h : PR ok w b o P) (hm : P.length = m) (hok : RlOk s n P) (hs : 1 ≤ s ∧ s ≤ 4) (hn : n ≤ 100) {i j k : Nat} (hij : i < j) (hj : j < n) (hk : k < n) (hki : k ≠ i) (hkj : k ≠ j) {u : Value} {l : List Int} (hu : intsT.Rd w [u] l) (hl : l.length = 2)
  {bp bo bs bt q : Nat} (hq : q = pxN i j) (c0 : w.cell? ⟨bp, 0, none⟩ = some (.slice (some ⟨b, o, none⟩) m c)) (c1 : w.cell? ⟨bo, 0, none⟩ = some (.int .i64 (q : Int))) (c2 : w.cell? ⟨bs, 0, none⟩ = some (.int .i64 s))
  (t0 : w.cell? ⟨bt, 0, none⟩ = some (.int .i64 (i : Int))) (t1 : w.cell? ⟨bt, 1, none⟩ = some (.int .i64 (j : Int))) (t2 : w.cell? ⟨bt, 2, none⟩ = some (.int .i64 (k : Int))) :
  Calls Tryz.prog 54 #[u, .pointer (some ⟨bp, 0, none⟩), .pointer (some ⟨bo, 0, none⟩), .pointer (some ⟨bs, 0, none⟩), .pointer (some ⟨bt, 0, none⟩)] w fun e w' => e = .returned (.bool (tb (l ∈ prR P i j) && prT s P i j k l)) ∧ Below w.heap.size w w' := by
 have hbp := cell_lt c0
 have hbo := cell_lt c1
 have hbs := cell_lt c2
 have hbt := cell_lt t0
 obtain ⟨ad, cap, hv, -, -, hce⟩ := ints_ex hu
 obtain rfl : u = _ := by simpa using hv
 obtain ⟨la, lo, rfl, hla, hce⟩ := hce (by omega)
 obtain ⟨l0, l1, rfl⟩ : ∃ l0 l1, l = [l0, l1] := by
  match l, hl with
  | [l0, l1], _ => exact ⟨l0, l1, rfl⟩
 obtain ⟨hI0, e0⟩ := hce 0 (by simp)
 obtain ⟨hI1, e1⟩ := hce 1 (by simp)
 simp only [List.getElem_cons_zero, List.getElem_cons_succ, Nat.add_zero] at e0 e1 hI0 hI1
 have hlen : ([l0, l1] : List Int).length = 2 := rfl
 have hqm := hok.at hij hj
 obtain ⟨v, h1, h2, h3, h4⟩ := h.2.2 _ hqm
 have hr := hok.2 _ (List.getElem_mem hqm)
 have HR : Hid (relT.Rd w [.int .i64 (P[pxN i j]).1, v] P[pxN i j] ∧ relOk s P[pxN i j]) := ⟨pair_mk h2 h1.rd, hr.1⟩
 have HIN : Hid (tb ([l0, l1] ∈ prR P i j) = tb ([l0, l1] ∈ (P[pxN i j]).2)) := by unfold Hid; rw [prR_at hqm]
 obtain ⟨va, vc, rfl⟩ := rdp_val h1
 have HU := Lib.hid hu
 have H := Lib.hid h
 have HOK := Lib.hid hok
 have HM := Lib.hid hm
 obtain ⟨S, hS⟩ : ∃ S : Nat, s = (S : Int) := ⟨s.toNat, by omega⟩
 subst hS
 have HT1 : Hid (∀ cc : Nat, (cc : Int) < S → (prL P i k l0 (cc : Int) && prL P k j (cc : Int) l1) = true → prT (S : Int) P i j k [l0, l1] = true) := fun cc h1 h2 => prT_yes h1 h2
 have HT0 : Hid ((∀ cc : Nat, (cc : Int) < S → (prL P i k l0 (cc : Int) && prL P k j (cc : Int) l1) = false) → prT (S : Int) P i j k [l0, l1] = false) := fun h1 => prT_no h1
 generalize prT (S : Int) P i j k [l0, l1] = pT at HT1 HT0 ⊢
 generalize prR P i j = PRij at HIN ⊢
 generalize P[pxN i j] = r at h3 h4 HR HIN
 rw [← hq] at h3 h4 hqm
 rw [hm] at hqm
 clear h h1 h2 hr hok hm hu hv hce hl hq
 go_enter Tryz.func54, Tryz.ntmps54
 go_wp2_with fail
 refine (has_any w (r := r) HR.out.1 HU.out (relOk_sorted HR.out.2)).mono ?_
 rintro e w1 ⟨rfl, hb1⟩
 have hz1 := hb1.size
 replace c0 := (cellB hb1 (by omega)).trans c0
 replace c1 := (cellB hb1 (by omega)).trans c1
 replace c2 := (cellB hb1 (by omega)).trans c2
 replace t0 := (cellB hb1 (by omega)).trans t0
 replace t1 := (cellB hb1 (by omega)).trans t1
 replace t2 := (cellB hb1 (by omega)).trans t2
 replace e0 := (cellB hb1 (by omega)).trans e0
 replace e1 := (cellB hb1 (by omega)).trans e1
 have H1 := Lib.hid (H.out.below hb1)
 clear h3 h4 HR H
 cases hin : tb ([l0, l1] ∈ r.2)
 ·have HF : Hid (false = (tb ([l0, l1] ∈ PRij) && pT)) := by unfold Hid; rw [HIN.out, hin]; rfl
  go_wp2_with fail
  go_ret
  exact ⟨ret_bool HF.out, hb1⟩
 have HIN2 : Hid (tb ([l0, l1] ∈ PRij) = true) := HIN.out.trans hin
 go_wp2_with fail
 go_loopw [16] (fun x wr => ∃ cc : Nat, cc ≤ S ∧ x = .int .i64 cc ∧ (∀ c' : Nat, c' < cc → (prL P i k l0 (c' : Int) && prL P k j (c' : Int) l1) = false) ∧ Below w1.heap.size w1 wr) (fun x _ => S - (intOf x).toNat)
 case atStart => exact ⟨0, Nat.zero_le _, rfl, fun _ h => absurd h (Nat.not_lt_zero _), Below.refl _ _⟩
 case round =>
  obtain ⟨cc, hcc, rfl, hno, hbr⟩ := hrel
  obtain ⟨wv, rfl⟩ : ∃ wv : World, wv = wr := ⟨_, rfl⟩
  have HNO := Lib.hid hno
  have hzv := hbr.size
  clear hno
  by_cases hcl : cc < S
  ·have d0 := (cellB hbr (by omega)).trans c0
   have d1 := (cellB hbr (by omega)).trans t0
   have d2 := (cellB hbr (by omega)).trans t1
   have d3 := (cellB hbr (by omega)).trans t2
   have d4 := (cellB hbr (by omega)).trans e0
   have d5 := (cellB hbr (by omega)).trans e1
   have HV := Lib.hid (H1.out.below hbr)
   have hlb : la < wv.heap.size := by omega
   have hIc : I64 (cc : Int) := I64.small (by omega) (by omega)
   have HC := Lib.hid hIc
   have HI0 := Lib.hid hI0
   have HI1 := Lib.hid hI1
   clear hIc
   go_wp2_with fail
   refine wp_region_T (fun w' => w'.cell? ⟨bp, 0, none⟩ = some (.slice (some ⟨b, o, none⟩) m c) ∧ w'.cell? ⟨bt, 0, none⟩ = some (.int .i64 (i : Int)) ∧ w'.cell? ⟨bt, 1, none⟩ = some (.int .i64 (j : Int)) ∧ w'.cell? ⟨bt, 2, none⟩ = some (.int .i64 (k : Int)) ∧ w'.cell? ⟨la, lo, none⟩ = some (.int .i64 l0) ∧ w'.cell? ⟨la, lo + 1, none⟩ = some (.int .i64 l1)) [] (by kernel_rfl) ⟨d0, d1, d2, d3, d4, d5⟩ (fun hHeld => ?_)
   refine wpAnyT_take (i := 0) (v := ?_) rfl (by as_aux_lemma => kernel_rfl) (fun _ _ _ h => h) (Or.inl ⟨by rfl, ?_⟩) (by assumption) ?_
   rotate_left
   ·(intro w hSw; (try dsimp only at hSw); go_simp <;> with_reducible rfl)
   go_simp
   refine wpAnyT_take (i := 1) (v := ?_) rfl (by as_aux_lemma => kernel_rfl) (fun _ _ _ h => h) (Or.inl ⟨by rfl, ?_⟩) (by assumption) ?_
   rotate_left
   ·(intro w hSw; (try dsimp only at hSw); go_simp <;> with_reducible rfl)
   go_simp
   refine wpAnyT_take (i := 2) (v := ?_) rfl (by as_aux_lemma => kernel_rfl) (fun _ _ _ h => h) (Or.inl ⟨by rfl, ?_⟩) (by assumption) ?_
   rotate_left
   ·(intro w hSw; (try dsimp only at hSw); go_simp <;> with_reducible rfl)
   go_simp
   refine wpAnyT_take (i := 3) (v := ?_) rfl (by as_aux_lemma => kernel_rfl) (fun _ _ _ h => h) (Or.inl ⟨by rfl, ?_⟩) (by assumption) ?_
   rotate_left
   ·(intro w hSw; (try dsimp only at hSw); go_simp <;> with_reducible rfl)
   go_simp
   refine wpAnyT_take (i := 4) (v := ?_) rfl (by as_aux_lemma => kernel_rfl) (fun _ _ _ h => h) (Or.inl ⟨by rfl, ?_⟩) (by assumption) ?_
   rotate_left
   ·(intro w hSw; (try dsimp only at hSw); go_simp <;> with_reducible rfl)
   go_simp
   refine wpAnyT_take (i := 5) (v := ?_) rfl (by as_aux_lemma => kernel_rfl) (fun _ _ _ h => h) (Or.inl ⟨by rfl, ?_⟩) (by assumption) ?_
   rotate_left
   ·(intro w hSw; (try dsimp only at hSw); go_simp <;> with_reducible rfl)
   go_simp
   refine wpAnyT_take (i := 6) (v := ?_) rfl (by as_aux_lemma => kernel_rfl) (fun _ _ _ h => h) (Or.inl ⟨by rfl, ?_⟩) (by assumption) ?_
   rotate_left
   ·(intro w hSw; (try dsimp only at hSw); go_simp <;> with_reducible rfl)
   go_simp
   refine wpAnyT_take (i := 7) (v := ?_) rfl (by as_aux_lemma => kernel_rfl) (fun _ _ _ h => h) (Or.inl ⟨by rfl, ?_⟩) (by assumption) ?_
   rotate_left
   ·(intro w hSw; (try dsimp only at hSw); go_simp <;> with_reducible rfl)
   go_simp
   refine wpAnyT_take (i := 8) (v := ?_) rfl (by as_aux_lemma => kernel_rfl) (fun _ _ _ h => h) (Or.inl ⟨by rfl, ?_⟩) (by assumption) ?_
   rotate_left
   ·(intro w hSw; (try dsimp only at hSw); go_simp <;> with_reducible rfl)
   go_simp
   have hv0 : Below wv.heap.size wv wv.drew := bD
   have HV0 := Lib.hid (HV.out.below hv0)
   have hbd := bthen hbr hv0
   have hzd := hbd.size
   clear d0 d1 d2 d3 d4 d5 HV
   obtain ⟨x0, hx0⟩ : ∃ x0 : World, x0 = wv.drew := ⟨_, rfl⟩
   rw [← hx0] at hHeld hv0 HV0 hbd hzd ⊢
   clear hx0
   obtain ⟨d0, d1, d2, d3, d4, d5⟩ := hHeld
   refine wpAnyT_one (i := 9) rfl (by kernel_rfl) (fun K hK => ?_)
   go_simp
   go_at_call 55
   refine (isLeft_any x0 HV0.out HM.out HOK.out hn i k (by omega) (by omega) hk HI0.out HC.out).mono ?_
   rintro e x1 ⟨rfl, hbx⟩
   have hzx := hbx.size
   have hbd1 := bthen hbd hbx
   have HV1 := Lib.hid (HV0.out.below hbx)
   replace d0 := (cellB hbx (by omega)).trans d0
   replace d1 := (cellB hbx (by omega)).trans d1
   replace d2 := (cellB hbx (by omega)).trans d2
   replace d3 := (cellB hbx (by omega)).trans d3
   replace d4 := (cellB hbx (by omega)).trans d4
   replace d5 := (cellB hbx (by omega)).trans d5
   clear HV0
   dsimp only
   refine hK.out _ _ ⟨d0, d1, d2, d3, d4, d5⟩ (fun hHeld => ?_)
   clear hK K
   cases hp1 : prL P i k l0 (cc : Int)
   ·skip
    refine wpAnyT_take (i := 10) (v := ?_) rfl (by as_aux_lemma => kernel_rfl) (fun _ _ _ h => h) (Or.inl ⟨by rfl, ?_⟩) (by assumption) ?_
    rotate_left
    ·(intro w hSw; (try dsimp only at hSw); go_simp <;> with_reducible rfl)
    go_simp
    refine wpAnyT_take (i := 11) (v := undef) rfl (by kernel_rfl) (fun _ _ _ h => h) (Or.inr ⟨by rfl, rfl⟩) (by assumption) ?_
    go_simp
    refine wpAnyT_take (i := 12) (v := undef) rfl (by kernel_rfl) (fun _ _ _ h => h) (Or.inr ⟨by rfl, rfl⟩) (by assumption) ?_
    go_simp
    refine wpAnyT_take (i := 13) (v := undef) rfl (by kernel_rfl) (fun _ _ _ h => h) (Or.inr ⟨by rfl, rfl⟩) (by assumption) ?_
    go_simp
    refine wpAnyT_take (i := 14) (v := undef) rfl (by kernel_rfl) (fun _ _ _ h => h) (Or.inr ⟨by rfl, rfl⟩) (by assumption) ?_
    go_simp
    refine wpAnyT_take (i := 15) (v := undef) rfl (by kernel_rfl) (fun _ _ _ h => h) (Or.inr ⟨by rfl, rfl⟩) (by assumption) ?_
    go_simp
    refine wpAnyT_take (i := 16) (v := undef) rfl (by kernel_rfl) (fun _ _ _ h => h) (Or.inr ⟨by rfl, rfl⟩) (by assumption) ?_
    go_simp
    refine wpAnyT_take (i := 17) (v := undef) rfl (by kernel_rfl) (fun _ _ _ h => h) (Or.inr ⟨by rfl, rfl⟩) (by assumption) ?_
    go_simp
    refine wpAnyT_take (i := 18) (v := undef) rfl (by kernel_rfl) (fun _ _ _ h => h) (Or.inr ⟨by rfl, rfl⟩) (by assumption) ?_
    go_simp
    refine wpAnyT_take (i := 19) (v := undef) rfl (by kernel_rfl) (fun _ _ _ h => h) (Or.inr ⟨by rfl, rfl⟩) (by assumption) ?_
    go_simp
    refine wpAnyT_take (i := 20) (v := undef) rfl (by kernel_rfl) (fun _ _ _ h => h) (Or.inr ⟨by rfl, rfl⟩) (by assumption) ?_
    go_simp
    refine wpAnyT_take (i := 21) (v := ?_) rfl (by as_aux_lemma => kernel_rfl) (fun _ _ _ h => h) (Or.inl ⟨by rfl, ?_⟩) (by assumption) ?_
    rotate_left
    ·(intro w hSw; (try dsimp only at hSw); go_simp <;> with_reducible rfl)
    go_simp
    refine wpAnyT_done (by kernel_rfl) ?_ _
    go_simp
    go_wp2_with fail
    go_roundw
    case rel => exact ⟨cc + 1, by omega, by go_num, fun c' hc' => by
     by_cases e : c' = cc
     ·subst e; rw [hp1]; rfl
     ·exact HNO.out c' (by omega), hbd1⟩
    case measure => simp [intOf]; omega
   ·skip
    refine wpAnyT_take (i := 10) (v := ?_) rfl (by as_aux_lemma => kernel_rfl) (fun _ _ _ h => h) (Or.inl ⟨by rfl, ?_⟩) (by assumption) ?_
    rotate_left
    ·(intro w hSw; (try dsimp only at hSw); go_simp <;> with_reducible rfl)
    go_simp
    refine wpAnyT_take (i := 11) (v := ?_) rfl (by as_aux_lemma => kernel_rfl) (fun _ _ _ h => h) (Or.inl ⟨by rfl, ?_⟩) (by assumption) ?_
    rotate_left
    ·(intro w hSw; (try dsimp only at hSw); go_simp <;> with_reducible rfl)
    go_simp
    refine wpAnyT_take (i := 12) (v := ?_) rfl (by as_aux_lemma => kernel_rfl) (fun _ _ _ h => h) (Or.inl ⟨by rfl, ?_⟩) (by assumption) ?_
    rotate_left
    ·(intro w hSw; (try dsimp only at hSw); go_simp <;> with_reducible rfl)
    go_simp
    refine wpAnyT_take (i := 13) (v := ?_) rfl (by as_aux_lemma => kernel_rfl) (fun _ _ _ h => h) (Or.inl ⟨by rfl, ?_⟩) (by assumption) ?_
    rotate_left
    ·(intro w hSw; (try dsimp only at hSw); go_simp <;> with_reducible rfl)
    go_simp
    refine wpAnyT_take (i := 14) (v := ?_) rfl (by as_aux_lemma => kernel_rfl) (fun _ _ _ h => h) (Or.inl ⟨by rfl, ?_⟩) (by assumption) ?_
    rotate_left
    ·(intro w hSw; (try dsimp only at hSw); go_simp <;> with_reducible rfl)
    go_simp
    refine wpAnyT_take (i := 15) (v := ?_) rfl (by as_aux_lemma => kernel_rfl) (fun _ _ _ h => h) (Or.inl ⟨by rfl, ?_⟩) (by assumption) ?_
    rotate_left
    ·(intro w hSw; (try dsimp only at hSw); go_simp <;> with_reducible rfl)
    go_simp
    refine wpAnyT_take (i := 16) (v := ?_) rfl (by as_aux_lemma => kernel_rfl) (fun _ _ _ h => h) (Or.inl ⟨by rfl, ?_⟩) (by assumption) ?_
    rotate_left
    ·(intro w hSw; (try dsimp only at hSw); go_simp <;> with_reducible rfl)
    go_simp
    refine wpAnyT_take (i := 17) (v := ?_) rfl (by as_aux_lemma => kernel_rfl) (fun _ _ _ h => h) (Or.inl ⟨by rfl, ?_⟩) (by assumption) ?_
    rotate_left
    ·(intro w hSw; (try dsimp only at hSw); go_simp <;> with_reducible rfl)
    go_simp
    refine wpAnyT_take (i := 18) (v := ?_) rfl (by as_aux_lemma => kernel_rfl) (fun _ _ _ h => h) (Or.inl ⟨by rfl, ?_⟩) (by assumption) ?_
    rotate_left
    ·(intro w hSw; (try dsimp only at hSw); go_simp <;> with_reducible rfl)
    go_simp
    refine wpAnyT_take (i := 19) (v := ?_) rfl (by as_aux_lemma => kernel_rfl) (fun _ _ _ h => h) (Or.inl ⟨by rfl, ?_⟩) (by assumption) ?_
    rotate_left
    ·(intro w hSw; (try dsimp only at hSw); go_simp <;> with_reducible rfl)
    go_simp
    refine wpAnyT_one (i := 20) rfl (by kernel_rfl) (fun K hK => ?_)
    go_simp
    go_at_call 55
    refine (isLeft_any x1 HV1.out HM.out HOK.out hn k j hkj hk hj HC.out HI1.out).mono ?_
    rintro e x2 ⟨rfl, hby⟩
    have hbd2 := bthen hbd1 hby
    replace d0 := (cellB hby (by omega)).trans d0
    replace d1 := (cellB hby (by omega)).trans d1
    replace d2 := (cellB hby (by omega)).trans d2
    replace d3 := (cellB hby (by omega)).trans d3
    replace d4 := (cellB hby (by omega)).trans d4
    replace d5 := (cellB hby (by omega)).trans d5
    dsimp only
    refine hK.out _ _ ⟨d0, d1, d2, d3, d4, d5⟩ (fun hHeld => ?_)
    clear hK K
    refine wpAnyT_take (i := 21) (v := ?_) rfl (by as_aux_lemma => kernel_rfl) (fun _ _ _ h => h) (Or.inl ⟨by rfl, ?_⟩) (by assumption) ?_
    rotate_left
    ·(intro w hSw; (try dsimp only at hSw); go_simp <;> with_reducible rfl)
    go_simp
    refine wpAnyT_done (by kernel_rfl) ?_ _
    go_simp
    clear hHeld
    cases hp2 : prL P k j (cc : Int) l1
    ·go_wp2_with fail
     go_roundw
     case rel => exact ⟨cc + 1, by omega, by go_num, fun c' hc' => by
      by_cases e : c' = cc
      ·subst e; rw [hp2, Bool.and_false]
      ·exact HNO.out c' (by omega), hbd2⟩
     case measure => simp [intOf]; omega
    ·have hT := HT1.out cc (by omega) (by rw [hp1, hp2]; rfl)
     have HT := Lib.hid hT
     clear hT
     go_wp2_with fail
     go_ret
     exact ⟨ret_bool (by rw [HT.out, HIN2.out]; rfl), bthen hb1 hbd2⟩
  ·obtain rfl : cc = S := by omega
   have HT : Hid (pT = false) := HT0.out (fun c' hc' => HNO.out c' (by omega))
   go_wp2_with fail
   go_ret
   exact ⟨ret_bool (by rw [HT.out, HIN2.out]; rfl), bthen hb1 hbr⟩
end Go.Proofs.YtmnjlhcbabhhlaaGreat
namespace Go.Proofs.YtmnjlhcbabhhlaaGreat
open Go.RowKit Go.Sort
set_option maxHeartbeats 3200000 in
set_option maxRecDepth 100000 in
theorem narrow_any {ok : Nat → Prop} (w : World) (hnew : ∀ q, w.heap.size ≤ q → ok q) {b o m c n : Nat} {P : Rels} {s : Int} (h : PR ok w b o P) (hm : P.length = m) (hok : RlOk s n P) (hs : 1 ≤ s ∧ s ≤ 4) (hn : n ≤ 100) {i j k : Nat} (hij : i < j) (hj : j < n) (hk : k < n) (hki : k ≠ i) (hkj : k ≠ j) :
  Calls Tryz.prog 25 #[.int .i64 s, .slice (some ⟨b, o, none⟩) m c, .agg #[.int .i64 (i : Int), .int .i64 (j : Int), .int .i64 (k : Int)]] w fun e w' => e = .returned (.bool (nwB s P i j k)) ∧ PR ok w' b o (nwV s P i j k) ∧ TchP (fun q => q = b) w w' := by
 have H := Lib.hid h
 have HM := Lib.hid hm
 have HOK := Lib.hid hok
 have hblt := h.1
 have hqm := hok.at hij hj
 rw [hm] at hqm
 have hpx := (pix_lt hij).1
 obtain ⟨N, hN⟩ : ∃ N : Nat, s ^ 2 = (N : Int) := ⟨(s ^ 2).toNat, by have := pow_nn (s := s) (by omega) 2; omega⟩
 have HNW := Lib.hid (nw_rel (k := k) hok hij hj hN)
 have HN := Lib.hid hN
 clear h hok hm hN
 go_enter Tryz.func25, Tryz.ntmps25
 go_wp2_with fail
 refine (pairIndex_any (i : Int) (j : Int) _ (by omega) (by omega) (by omega) (by omega)).mono ?_
 rintro e _ ⟨rfl, rfl⟩
 rw [hpx]
 clear hpx
 go_wp2_with fail
 generalize hW : World.alloc _ _ = W
 have hbW : Below w.heap.size w W := hW ▸ (((bAA (w := w)).alloc (by simp; omega) _).alloc (by simp; omega) _)
 have hsW : w.heap.size + 4 ≤ W.heap.size := by rw [← hW]; simp
 have c2 : W.cell? ⟨w.heap.size, 0, none⟩ = some (.int .i64 s) := by rw [← hW]; simp [go_sem]
 have c0 : W.cell? ⟨w.heap.size + 1, 0, none⟩ = some (.slice (some ⟨b, o, none⟩) m c) := by rw [← hW]; simp [go_sem]
 have t0 : W.cell? ⟨w.heap.size + 1 + 1, 0, none⟩ = some (.int .i64 (i : Int)) := by rw [← hW]; simp [go_sem]
 have t1 : W.cell? ⟨w.heap.size + 1 + 1, 1, none⟩ = some (.int .i64 (j : Int)) := by rw [← hW]; simp [go_sem]
 have t2 : W.cell? ⟨w.heap.size + 1 + 1, 2, none⟩ = some (.int .i64 (k : Int)) := by rw [← hW]; simp [go_sem]
 have c1 : W.cell? ⟨w.heap.size + 1 + 1 + 1, 0, none⟩ = some (.int .i64 (pxN i j : Int)) := by rw [← hW]; simp [go_sem]
 clear hW
 have HW : Hid (PR ok W b o P) := H.out.below hbW
 generalize w.heap.size + 1 + 1 + 1 = b3 at c1 ⊢
 generalize w.heap.size + 1 + 1 = b2 at t0 t1 t2 ⊢
 generalize w.heap.size + 1 = b1 at c0 ⊢
 generalize w.heap.size = b0 at c2 ⊢
 refine (relOf_any W s 2 hs (by omega) 54 _ (enters Tryz.func54 (by kernel_rfl) rfl) (fun l => tb (l ∈ prR P i j) && prT s P i j k l) N HN.out (Lib.hid fun W' u kk hW' hkk hu => ?_)).mono ?_
 ·exact narrow1_any W' (HW.out.below hW') HM.out HOK.out hs hn hij hj hk hki hkj hu digL_len rfl ((hW'.cell (cell_lt c0)).trans c0) ((hW'.cell (cell_lt c1)).trans c1) ((hW'.cell (cell_lt c2)).trans c2) ((hW'.cell (cell_lt t0)).trans t0) ((hW'.cell (cell_lt t1)).trans t1) ((hW'.cell (cell_lt t2)).trans t2)
 rintro e w3 ⟨cs3, rfl, hf3, hb3⟩
 rw [← HNW.out] at hf3
 obtain ⟨v3a, v3c, rfl⟩ := fr_pair hf3
 have hz3 := hb3.size
 have hl0 := cell_lt c0
 have hl1 := cell_lt c1
 have HF : Hid (rowsT.RdP (fun q => q ≠ b ∧ ok q) w3 [.slice v3a (nwR s P i j k).length v3c] (nwR s P i j k)) := by
  obtain ⟨fp, g1, g2⟩ := fr_rdP (frP_tail hf3)
  exact ⟨fp, g1, fun k hk => ⟨fun e => by have := g2 k hk; omega, hnew k (by have := g2 k hk; omega)⟩⟩
 have H3 := Lib.hid (HW.out.below hb3)
 have hbw3 := bthen hbW hb3
 replace c0 := (cellB hb3 (by omega)).trans c0
 replace c1 := (cellB hb3 (by omega)).trans c1
 clear hf3 c2 t0 t1 t2 HW H
 go_wp2_with fail
 generalize hW4 : World.alloc w3 _ = w4
 have hb4 : Below w3.heap.size w3 w4 := hW4 ▸ bA
 have y0 : w4.cell? ⟨w3.heap.size, 0, none⟩ = some (.int .i64 ((2 : Nat) : Int)) := by rw [← hW4]; simp
 have y1 : w4.cell? ⟨w3.heap.size, 1, none⟩ = some (.slice v3a (nwR s P i j k).length v3c) := by rw [← hW4]; simp
 clear hW4
 have H4 := Lib.hid (H3.out.below hb4)
 have HF4 := Lib.hid (HF.out.below hb4)
 have hbw4 := bthen hbw3 hb4
 have hz4 := hbw4.size
 replace c0 := (cellB hb4 (by omega)).trans c0
 replace c1 := (cellB hb4 (by omega)).trans c1
 clear H3 HF
 generalize w3.heap.size = b4 at y0 y1 ⊢
 have hqP := HOK.out.at hij hj
 obtain ⟨v, h1, -, h3, h4⟩ := H4.out.2.2 _ hqP
 obtain ⟨va, vc, rfl⟩ := rdp_val h1
 have HR2 : Hid ((P[pxN i j]).2 = prR P i j) := (prR_at hqP).symm
 rw [HR2.out] at h4
 have hfz := H4.out.2.1
 refine wp_region_T (fun w' => w'.cell? ⟨b1, 0, none⟩ = some (.slice (some ⟨b, o, none⟩) m c) ∧ w'.cell? ⟨b3, 0, none⟩ = some (.int .i64 (pxN i j : Int)) ∧ w'.cell? ⟨b4, 1, none⟩ = some (.slice v3a (nwR s P i j k).length v3c) ∧ w'.cell? ⟨b, o + pxN i j * 2 + 1, none⟩ = some (.slice va (prR P i j).length vc)) [] (by kernel_rfl) ⟨c0, c1, y1, h4⟩ (fun hHeld => ?_)
 refine wpAnyT_take (i := 0) (v := ?_) rfl (by as_aux_lemma => kernel_rfl) (fun _ _ _ h => h) (Or.inl ⟨by rfl, ?_⟩) (by assumption) ?_
 rotate_left
 ·(intro w hSw; (try dsimp only at hSw); go_simp <;> with_reducible rfl)
 go_simp
 refine wpAnyT_take (i := 1) (v := ?_) rfl (by as_aux_lemma => kernel_rfl) (fun _ _ _ h => h) (Or.inl ⟨by rfl, ?_⟩) (by assumption) ?_
 rotate_left
 ·(intro w hSw; (try dsimp only at hSw); go_simp <;> with_reducible rfl)
 go_simp
 refine wpAnyT_take (i := 2) (v := ?_) rfl (by as_aux_lemma => kernel_rfl) (fun _ _ _ h => h) (Or.inl ⟨by rfl, ?_⟩) (by assumption) ?_
 rotate_left
 ·(intro w hSw; (try dsimp only at hSw); go_simp <;> with_reducible rfl)
 go_simp
 refine wpAnyT_take (i := 3) (v := ?_) rfl (by as_aux_lemma => kernel_rfl) (fun _ _ _ h => h) (Or.inl ⟨by rfl, ?_⟩) (by assumption) ?_
 rotate_left
 ·(intro w hSw; (try dsimp only at hSw); go_simp <;> with_reducible rfl)
 go_simp
 refine wpAnyT_take (i := 4) (v := ?_) rfl (by as_aux_lemma => kernel_rfl) (fun _ _ _ h => h) (Or.inl ⟨by rfl, ?_⟩) (by assumption) ?_
 rotate_left
 ·(intro w hSw; (try dsimp only at hSw); go_simp <;> with_reducible rfl)
 go_simp
 refine wpAnyT_take (i := 5) (v := ?_) rfl (by as_aux_lemma => kernel_rfl) (fun _ _ _ h => h) (Or.inl ⟨by rfl, ?_⟩) (by assumption) ?_
 rotate_left
 ·(intro w hSw; (try dsimp only at hSw); go_simp <;> with_reducible rfl)
 go_simp
 refine wpAnyT_take (i := 6) (v := ?_) rfl (by as_aux_lemma => kernel_rfl) (fun _ _ _ h => h) (Or.inl ⟨by rfl, ?_⟩) (by assumption) ?_
 rotate_left
 ·(intro w hSw; (try dsimp only at hSw); go_simp <;> with_reducible rfl)
 go_simp
 refine wpAnyT_take (i := 7) (v := ?_) rfl (by as_aux_lemma => kernel_rfl) (fun _ _ _ h => h) (Or.inl ⟨by rfl, ?_⟩) (by assumption) ?_
 rotate_left
 ·(intro w hSw; (try dsimp only at hSw); go_simp <;> with_reducible rfl)
 go_simp
 refine wpAnyT_take (i := 8) (v := ?_) rfl (by as_aux_lemma => kernel_rfl) (fun _ _ _ h => h) (Or.inl ⟨by rfl, ?_⟩) (by assumption) ?_
 rotate_left
 ·(intro w hSw; (try dsimp only at hSw); go_simp <;> with_reducible rfl)
 go_simp
 refine wpAnyT_take (i := 9) (v := ?_) rfl (by as_aux_lemma => kernel_rfl) (fun _ _ _ h => h) (Or.inl ⟨by rfl, ?_⟩) (by assumption) ?_
 rotate_left
 ·(intro w hSw; (try dsimp only at hSw); go_simp <;> with_reducible rfl)
 go_simp
 refine wpAnyT_done (by kernel_rfl) ?_ _
 go_simp
 have hv0 : Below w4.heap.size w4 w4.drew := bD
 have hl4 := cell_lt y0
 have hl5 := cell_lt c0
 have hl6 := cell_lt c1
 have H5 := Lib.hid (H4.out.below hv0)
 have HF5 := Lib.hid (HF4.out.below hv0)
 have hbw5 := bthen hbw4 hv0
 replace c0 := (cellB hv0 (by omega)).trans c0
 replace c1 := (cellB hv0 (by omega)).trans c1
 replace y0 := (cellB hv0 (by omega)).trans y0
 replace y1 := (cellB hv0 (by omega)).trans y1
 clear H4 HF4 hHeld h1 h3 h4
 generalize w4.drew = w5 at *
 obtain ⟨v, h1, -, h3, h4⟩ := H5.out.2.2 _ hqP
 have hfz := H5.out.2.1
 have hlen : (nwR s P i j k).length ≤ (prR P i j).length := nw_len
 by_cases he : (nwR s P i j k).length = (prR P i j).length
 ·have hnb : nwB s P i j k = false := decide_eq_false (by omega)
  have HS := Lib.hid (nw_same HOK.out hij hj hnb)
  have HB := Lib.hid hnb
  clear hnb
  go_wp2_with fail
  go_ret
  exact ⟨ret_bool HB.out.symm, by rw [HS.out]; exact H5.out, TchP.of_below hbw5 _⟩
 ·have hnb : nwB s P i j k = true := decide_eq_true (by omega)
  have HB := Lib.hid hnb
  clear hnb
  go_wp2_with fail
  go_ret
  refine ⟨ret_bool HB.out.symm, ?_, ?_⟩
  ·exact H5.out.set hqP HF5.out (I64.small (by omega) (by omega))
  ·exact (TchP.of_below hbw5 _).then (tchP_cell2.then tchP_cell2 fun _ _ h => h) fun _ _ h => h
end Go.Proofs.YtmnjlhcbabhhlaaGreat
namespace Go.Proofs.YtmnjlhcbabhhlaaGreat
open Go.RowKit Go.Sort
/-- the three variables of a step are as they should be -/
def pstB (n : Int) (i j k : Nat) : Bool := inB i 0 ((j : Int) - 1) && (inB j 0 (n - 1) && (inB k 0 (n - 1) && (!((k : Int) == i) && !((k : Int) == j))))
theorem pst_yes {n i j k : Nat} (h : i < j ∧ j < n ∧ k < n ∧ k ≠ i ∧ k ≠ j) : pstB (n : Int) i j k = true := by
 obtain ⟨h1, h2, h3, h4, h5⟩ := h
 unfold pstB
 rw [inB_true.2 (by omega), inB_true.2 (by omega), inB_true.2 (by omega)]
 simp
 omega
theorem pst_no {n i j k : Nat} (h : k = j) : pstB (n : Int) i j k = false := by
 subst h
 unfold pstB
 simp
set_option maxHeartbeats 1600000 in
set_option maxRecDepth 100000 in
theorem isPairStep_any (w : World) {n : Int} (hn : 0 ≤ n ∧ n ≤ 100) {v : Value} {i j k : Nat} (hi : i ≤ 100) (hj : j ≤ 100) (hk : k ≤ 100) :
  Calls Tryz.prog 24 #[.agg #[.int .i64 n, v], .agg #[.int .i64 (i : Int), .int .i64 (j : Int), .int .i64 (k : Int)]] w fun e w' => e = .returned (.bool (pstB n i j k)) ∧ Below w.heap.size w w' := by
 generalize hB : pstB n i j k = B
 unfold pstB at hB
 have HB := Lib.hid hB
 cases h1 : inB i 0 ((j : Int) - 1)
 ·rw [h1] at hB; subst hB
  go_enter Tryz.func24, Tryz.ntmps24
  go_wp2_with (go_at_call 33; refine (within_any _ _ _ _).mono ?_; rintro e w' ⟨rfl, rfl⟩; first | rw [h1])
  go_ret
  exact ⟨rfl, bAA⟩
 cases h2 : inB j 0 (n - 1)
 ·rw [h1, h2] at hB; subst hB
  go_enter Tryz.func24, Tryz.ntmps24
  go_wp2_with (go_at_call 33; refine (within_any _ _ _ _).mono ?_; rintro e w' ⟨rfl, rfl⟩; first | rw [h1] | rw [h2])
  go_ret
  exact ⟨rfl, bAA⟩
 cases h3 : inB k 0 (n - 1)
 ·rw [h1, h2, h3] at hB; subst hB
  go_enter Tryz.func24, Tryz.ntmps24
  go_wp2_with (go_at_call 33; refine (within_any _ _ _ _).mono ?_; rintro e w' ⟨rfl, rfl⟩; first | rw [h1] | rw [h2] | rw [h3])
  go_ret
  exact ⟨rfl, bAA⟩
 rw [h1, h2, h3] at hB
 clear HB
 subst hB
 have H1 := Lib.hid h1
 have H2 := Lib.hid h2
 have H3 := Lib.hid h3
 clear h1 h2 h3
 go_enter Tryz.func24, Tryz.ntmps24
 go_wp2_with (go_at_call 33; refine (within_any _ _ _ _).mono ?_; rintro e w' ⟨rfl, rfl⟩; first | rw [H1.out] | rw [H2.out] | rw [H3.out])
 all_goals
  go_ret
  exact ⟨ret_bool (by simp_all [bne]), bAA⟩
end Go.Proofs.YtmnjlhcbabhhlaaGreat
namespace Go.Proofs.YtmnjlhcbabhhlaaGreat
open Go.RowKit Go.Sort
abbrev pstT : Ty (Int × Int × Int) := Ty.cons (Ty.cons Ty.int)
/-- a step as it lies in memory -/
def pstI (e : Stp) : Int × Int × Int := ((e.1 : Int), (e.2.1 : Int), (e.2.2 : Int))
theorem fr_pst {base : Nat} {w : World} {i j k : Nat} (hi : i ≤ 100) (hj : j ≤ 100) (hk : k ≤ 100) : pstT.Fr base w [.int .i64 (i : Int), .int .i64 (j : Int), .int .i64 (k : Int)] (pstI (i, j, k)) :=
 fr_cons (I64.small (by omega) (by omega)) (fr_cons (I64.small (by omega) (by omega)) (fr_int (I64.small (by omega) (by omega))))
theorem rd_pst {w : World} {cs : List Value} {a b c : Int} (h : pstT.Rd w cs (a, b, c)) : cs = [.int .i64 a, .int .i64 b, .int .i64 c] ∧ I64 a ∧ I64 b ∧ I64 c := by
 obtain ⟨fp, _, rfl, h1, _, rfl, h2, rfl, h3, -⟩ := h
 exact ⟨rfl, h1, h2, h3⟩
theorem news3' {w : World} {u u' u'' : Value} {T : TypeId} {B : Nat} (hB : B = w.heap.size) : ∀ j x, [u, u', u''][j]? = some x → (w.alloc (.cells #[u, u', u''] T)).cell? ((⟨B, 0, none⟩ : Addr).add j) = some x := by
 subst hB
 intro j x hx
 match j with
 | 0 => simpa [Addr.add] using hx
 | 1 => simpa [Addr.add] using hx
 | 2 => simpa [Addr.add] using hx
 | j + 3 => simp at hx
/-- the relations as a row that can be read -/
theorem pr_rd {ok : Nat → Prop} {w : World} {ad : Option Addr} {m c b o : Nat} {P : Rels} (hl : P.length = m) (h1 : m ≤ c) (h2 : m ≤ capMax) (had : 0 < m → ad = some ⟨b, o, none⟩) (h : 0 < m → PR ok w b o P) : relsT.Rd w [.slice ad m c] P := by
 refine (slice_mkP (ok := fun _ => True) hl.symm h1 h2 fun hp => ⟨b, o, had hp, (h hp).1, trivial, fun i hi => ?_⟩).rd
 obtain ⟨v, g1, g2, g3, g4⟩ := (h hp).2.2 i hi
 refine ⟨[.int .i64 (P[i]).1, v], (rd_rdP (pair_mk g2 g1.rd)).mono fun _ _ _ => trivial, fun j hj => ?_⟩
 have : relT.sz = 2 := rfl
 rw [this]
 match j, hj with
 | 0, _ => exact g3
 | 1, _ => exact g4
/-- the relations and a row that grew -/
theorem PR.grown {w w' : World} {b o : Nat} {P : Rels} {z z' : Option Nat} (h : PR (fun q => z ≠ some q) w b o P) (hg : w.grownBy w' z) {n : Nat} (hz : z' = z ∨ z' = some n) (hn : w.heap.size ≤ n) (hb : z ≠ some b) : PR (fun q => z' ≠ some q) w' b o P := by
 have ht : TchP (fun q => z = some q) w w' := TchP.grown hg fun k hk => hk
 refine ⟨Nat.lt_of_lt_of_le h.1 ht.size, fun i => (ht.frozen h.1 hb).trans (h.2.1 i), fun i hi => ?_⟩
 obtain ⟨v, g1, g2, g3, g4⟩ := h.2.2 i hi
 refine ⟨v, ?_, g2, (ht.cell h.1 hb).trans g3, (ht.cell h.1 hb).trans g4⟩
 have g5 : rowsT.RdP (fun q => (q ≠ b ∧ z' ≠ some q) ∧ z ≠ some q) w [v] (P[i]).2 := g1.mono fun k hk1 hk => ⟨⟨hk.1, fun e => by
  rcases hz with rfl | rfl
  ·exact hk.2 e
  ·cases e; omega⟩, hk.2⟩
 exact (g5.tchP ht fun k _ hk => hk.2).mono fun k _ hk => hk.1
end Go.Proofs.YtmnjlhcbabhhlaaGreat
namespace Go.Proofs.YtmnjlhcbabhhlaaGreat
open Go.RowKit Go.Sort
theorem elPst : ElT Tryz.prog 34 52 3 24 := .mk (z := .agg #[.int .i64 0, .int .i64 0, .int .i64 0]) Tryz.underlying34 (by kernel_rfl) rfl (by decide)
/-- while pairs are made smaller -/
def MpR (s : Int) (n B1 eB b o T0 : Nat) (W : World) (cur : Rels × List Stp) (ov : Value) (wr : World) : Prop :=
 (0 < cur.1.length → PR (fun q => ov.ownBlock ≠ some q) wr b o cur.1) ∧ RlOk s n cur.1 ∧ Bl pstT 52 eB wr.heap.size wr ov (cur.2.map pstI) ∧ totP cur.1 + cur.2.length ≤ T0 ∧ Below B1 W wr ∧ W.heap.size ≤ wr.heap.size
theorem MpR.below {s : Int} {n B1 eB b o T0 : Nat} {W w w' : World} {cur : Rels × List Stp} {ov : Value} (h : MpR s n B1 eB b o T0 W cur ov w) (hb : Below w.heap.size w w') (h1 : B1 ≤ w.heap.size) : MpR s n B1 eB b o T0 W cur ov w' :=
 ⟨fun hp => (h.1 hp).below hb, h.2.1, (h.2.2.1.below hb (Nat.le_refl _)).mono hb.size, h.2.2.2.1, h.2.2.2.2.1.trans (hb.mono h1), Nat.le_trans h.2.2.2.2.2 hb.size⟩
theorem PR.mono {ok ok' : Nat → Prop} {w : World} {b o : Nat} {P : Rels} (h : PR ok w b o P) (hk : ∀ q, q < w.heap.size → ok q → ok' q) : PR ok' w b o P :=
 ⟨h.1, h.2.1, fun i hi => let ⟨v, g1, g2⟩ := h.2.2 i hi; ⟨v, g1.mono fun k h1 h2 => ⟨h2.1, hk k h1 h2.2⟩, g2⟩⟩
theorem MpR.nw {s : Int} {n B1 eB b o T0 : Nat} {W w w' : World} {P : Rels} {S : List Stp} {ov : Value} {i j k : Nat} (h : MpR s n B1 eB b o T0 W (P, S) ov w) (hP : PR (fun q => ov.ownBlock ≠ some q) w' b o (nwV s P i j k)) (ht : TchP (fun q => q = b) w w') (hij : i < j) (hj : j < n) (hB1 : B1 ≤ b) (hbe : b < eB) (hb1 : B1 ≤ w.heap.size) : MpR s n B1 eB b o T0 W (nwV s P i j k, S) ov w' ∧ (nwB s P i j k = true → totP (nwV s P i j k) + S.length + 1 ≤ T0) := by
 have hq := h.2.1.at hij hj
 have h1 := tot_set (r := ((2 : Int), nwR s P i j k)) hq
 have h2 : (nwR s P i j k).length ≤ (prR P i j).length := nw_len
 have h3 := prR_at hq
 have h4 : totP P + S.length ≤ T0 := h.2.2.2.1
 rw [h3] at h2
 dsimp only at h1 h2 hq
 refine ⟨⟨fun _ => hP, h.2.1.nw hij hj, (h.2.2.1.sameB fun q h1 _ => ht.block q (by assumption) (by omega)).mono ht.size, ?_, h.2.2.2.2.1.trans (ht.below hb1 fun q hq e => by omega), Nat.le_trans h.2.2.2.2.2 ht.size⟩, fun hb => ?_⟩
 ·show totP (nwV s P i j k) + S.length ≤ T0
  unfold nwV
  omega
 ·have h5 : (nwR s P i j k).length < (prR P i j).length := by simpa [nwB] using hb
  rw [h3] at h5
  dsimp only at h5
  unfold nwV
  omega
theorem MpR.same {s : Int} {n B1 eB b o T0 : Nat} {W w : World} {P P' : Rels} {S : List Stp} {ov : Value} (h : MpR s n B1 eB b o T0 W (P', S) ov w) (e : P' = P) : MpR s n B1 eB b o T0 W (P, S) ov w := e ▸ h
theorem MpR.push {s : Int} {n B1 eB b o T0 : Nat} {W w w1 w' : World} {P : Rels} {S : List Stp} {ov v' : Value} {e : Stp} (h : MpR s n B1 eB b o T0 W (P, S) ov w) (hS : totP P + S.length + 1 ≤ T0) (hb : Below w.heap.size w w1) (hg : w1.grownBy w' ov.ownBlock) (hB : Bl pstT 52 eB w'.heap.size w' v' (S.map pstI ++ [pstI e])) (ho : v'.ownBlock = ov.ownBlock ∨ v'.ownBlock = some w1.heap.size) (hbe : b < eB) (hB1 : B1 ≤ eB) (hb1 : B1 ≤ w.heap.size) : MpR s n B1 eB b o T0 W (P, S ++ [e]) v' w' := by
 have hown : ∀ q, ov.ownBlock = some q → eB ≤ q := fun q hq => h.2.2.1.own hq
 refine ⟨fun hp => ((h.1 hp).below hb).grown hg ho (Nat.le_refl _) (fun e => by have := hown _ e; omega), h.2.1, by simpa using hB, ?_, ?_, ?_⟩
 ·show totP P + (S ++ [e]).length ≤ T0
  simp; omega
 ·exact h.2.2.2.2.1.trans ((hb.mono hb1).grown hg (by have := hb.size; omega) fun q hq => by have := hown q hq; omega)
 ·exact Nat.le_trans h.2.2.2.2.2 (Nat.le_trans hb.size hg.size)
theorem narrow_ad {ok : Nat → Prop} (w : World) (hnew : ∀ q, w.heap.size ≤ q → ok q) {ad : Option Addr} {b o m c n : Nat} {P : Rels} {s : Int} (had : ad = some ⟨b, o, none⟩) (h : PR ok w b o P) (hm : P.length = m) (hok : RlOk s n P) (hs : 1 ≤ s ∧ s ≤ 4) (hn : n ≤ 100) {i j k : Nat} (hij : i < j) (hj : j < n) (hk : k < n) (hki : k ≠ i) (hkj : k ≠ j) :
  Calls Tryz.prog 25 #[.int .i64 s, .slice ad m c, .agg #[.int .i64 (i : Int), .int .i64 (j : Int), .int .i64 (k : Int)]] w fun e w' => e = .returned (.bool (nwB s P i j k)) ∧ PR ok w' b o (nwV s P i j k) ∧ TchP (fun q => q = b) w w' := by
 subst had
 exact narrow_any w hnew h hm hok hs hn hij hj hk hki hkj
/-- what makePairs answers -/
def MkR (w : World) (P : Rels) (S : List Stp) (e : Ending) (w' : World) : Prop := ∃ ad c ov, e = .returned (.tuple #[.slice ad P.length c, ov]) ∧ relsT.Rd w' [.slice ad P.length c] P ∧ (Ty.slice pstT).Fr w.heap.size w' [ov] (S.map pstI) ∧ Below w.heap.size w w'
set_option maxHeartbeats 3200000 in
set_option maxRecDepth 100000 in
theorem makePairs_any (w : World) {cs cs' : Array Value} {t : Int × List (Int × List (List Int))} {x : Int × List (Int × List Int)} (h : tplT.Rd w cs.toList t) (h' : instT.Rd w cs'.toList x) (hok : instOk t x) {N n T0 : Nat} (hN : t.1 ^ 2 = N) (hn : x.1 = n)
  (hP : RlOk t.1 n (allP t x N n)) (hT : totP (allP t x N n) ≤ T0) (hT0 : T0 ≤ 100000) :
  Calls Tryz.prog 21 #[.agg cs, .agg cs'] w (MkR w (mkP t.1 n (allP t x N n, [])).1 (mkP t.1 n (allP t x N n, [])).2) := by
 have HT0 := Lib.hid h
 obtain ⟨v1, hv, hI, -⟩ := pair_ex h
 obtain rfl := agg_of hv
 have HX0 := Lib.hid h'
 obtain ⟨v2, hv', hI', hxx⟩ := pair_ex h'
 obtain rfl := agg_of hv'
 have HOK := Lib.hid hok
 have hs := hok.1.1
 unfold sizeOk at hs
 have hx1 := hok.2.1
 rw [hn] at hx1
 have HNN : Hid (x.1.toNat = n) := by unfold Hid; omega
 have HN := Lib.hid hN
 have HXN : Hid (x.1 = (n : Int)) := hn
 have HP := Lib.hid hP
 have HTT := Lib.hid hT
 generalize hst : (allP t x N n, ([] : List Stp)) = st0
 have HST : Hid ((allP t x N n, ([] : List Stp)) = st0) := hst
 clear h hv h' hv' hxx hok hN hP hT hst
 go_enter Tryz.func21, Tryz.ntmps21
 rw [hn]
 go_wp2_with fail
 generalize hW : World.alloc (World.alloc _ _) _ = W
 have hbW : Below w.heap.size w W := hW ▸ bAA
 have hsW : w.heap.size + 2 ≤ W.heap.size := by rw [← hW]; simp
 have t0 : W.cell? ⟨w.heap.size, 0, none⟩ = some (.int .i64 t.1) := by rw [← hW]; simp [go_sem]
 have x0 : W.cell? ⟨w.heap.size + 1, 0, none⟩ = some (.int .i64 (n : Int)) := by rw [← hW]; simp [go_sem]
 have HTW := Lib.hid (HT0.out.below hbW)
 have HXW : Hid (instT.Rd W [.int .i64 (n : Int), v2] x) := by unfold Hid; rw [← hn]; exact HX0.out.below hbW
 clear hW HT0 HX0 hn
 refine (firstPairs_any W (cs := #[.int .i64 t.1, v1]) (cs' := #[.int .i64 (n : Int), v2]) HTW.out HXW.out HOK.out N HN.out).mono ?_
 rintro e w2 ⟨u, rfl, hf2, hb2⟩
 rw [HNN.out] at hf2
 have hz2 := hb2.size
 obtain ⟨ad, c, hu, hc1, hc2, hex⟩ := Ty.slice_ex hf2.rd
 obtain rfl : u = _ := by simpa using hu
 obtain ⟨b, o, hB0⟩ : ∃ b o, 0 < (allP t x N n).length → ad = some ⟨b, o, none⟩ ∧ W.heap.size ≤ b ∧ b < w2.heap.size ∧ PR (fun q => W.heap.size ≤ q) w2 b o (allP t x N n) := by
  by_cases hp : 0 < (allP t x N n).length
  ·obtain ⟨b, o, rfl, hb, -⟩ := hex hp
   exact ⟨b, o, fun _ => ⟨rfl, (pr_of_fr hf2 hp).1, hb, (pr_of_fr hf2 hp).2⟩⟩
  ·exact ⟨0, 0, fun h => absurd h hp⟩
 clear hex
 generalize hm : (allP t x N n).length = m at hB0 hc1 hc2 ⊢
 have HB := Lib.hid hB0
 have HM := Lib.hid hm
 have HC := Lib.hid (And.intro hc1 hc2)
 replace t0 := (cellB hb2 (by omega)).trans t0
 replace x0 := (cellB hb2 (by omega)).trans x0
 have hbw2 := bthen hbW hb2
 clear hB0 hf2 hu hm hc1 hc2 HTW HXW
 go_wp2_with fail
 generalize hW3 : World.alloc w2 _ = w3
 have hb3 : Below w2.heap.size w2 w3 := hW3 ▸ bA
 have hz3 : w2.heap.size < w3.heap.size := by rw [← hW3]; simp
 have hM0 : MpR t.1 n (w.heap.size + 2) w2.heap.size b o T0 w3 st0 (.slice (some ⟨w2.heap.size, 0, none⟩) 0 0) w3 := by
  rw [← HST.out]
  refine ⟨fun hp => ((HB.out (by rw [← HM.out]; exact hp)).2.2.2.mono fun q hq _ => ?_).below hb3, HP.out, ?_, ?_, Below.refl _ _, Nat.le_refl _⟩
  ·simp [Value.ownBlock]; omega
  ·rw [← hW3]; simpa using Bl.lit0 (E := pstT) (e := 52) (base := w2.heap.size) (w := w2) (Nat.le_refl _)
  ·exact HTT.out
 have HM0 := Lib.hid hM0
 replace t0 := (cellB hb3 (by omega)).trans t0
 replace x0 := (cellB hb3 (by omega)).trans x0
 have hbw3 := bthen hbw2 hb3
 have hst0 : totP st0.1 ≤ T0 := by rw [← HST.out]; exact HTT.out
 generalize hE : w2.heap.size = eB at *
 clear hW3 hM0 hb3 hb2
 go_loopg [8, 7] (T0 + 1) (fun g cv ov wr => ∃ (cur : Rels × List Stp) (ch : Bool), cv = .bool ch ∧ MpR t.1 n (w.heap.size + 2) eB b o T0 w3 cur ov wr ∧ (ch = true → mkP t.1 n cur = mkP t.1 n st0 ∧ totP cur.1 < g) ∧ (ch = false → cur = mkP t.1 n st0))
 case atStart => exact ⟨st0, true, rfl, HM0.out, fun _ => ⟨rfl, by omega⟩, fun h => nomatch h⟩
 case round =>
  obtain ⟨cur, ch, rfl, hmp, hc1, hc0⟩ := hrel
  obtain ⟨wa, rfl⟩ : ∃ wa : World, wa = wr := ⟨_, rfl⟩
  have HMP := Lib.hid hmp
  have hza := HMP.out.2.2.2.2.2
  have hbwa : Below w.heap.size w wa := hbw3.trans (HMP.out.2.2.2.2.1.mono (by omega))
  clear hmp HM0
  cases ch
  ·have HE := Lib.hid (hc0 rfl)
   clear hc0 hc1
   go_wp2_with fail
   go_ret2
   rw [← HE.out]
   have hlc : cur.1.length = m := HMP.out.2.1.1.trans (HP.out.1.symm.trans HM.out)
   exact ⟨ad, c, _, by rw [hlc]; rfl, by rw [hlc]; exact pr_rd hlc HC.out.1 HC.out.2 (fun hp => (HB.out hp).1) (fun hp => HMP.out.1 (by omega)), (HMP.out.2.2.1.fr (by rw [List.length_map]; have := HMP.out.2.2.2.1; unfold capMax; omega)).mono (by omega), hbwa⟩
  ·have HC1 := Lib.hid (hc1 rfl)
   clear hc0 hc1
   have x1 := (cellB HMP.out.2.2.2.2.1 (show w.heap.size + 1 < w.heap.size + 2 by omega)).trans x0
   go_wp2_with fail
   go_loopw [20, 8, 7] (fun i cv ov wr => ∃ (j : Nat) (st : Rels × List Stp), j ≤ n ∧ i = .int .i64 j ∧ st = doJ t.1 n j cur ∧ MpR t.1 n (w.heap.size + 2) eB b o T0 w3 st ov wr ∧ cur.2.length ≤ st.2.length ∧ cv = .bool (decide (st.2.length ≠ cur.2.length))) (fun i _ _ _ => n - (intOf i).toNat)
   case atStart => exact ⟨0, cur, by omega, rfl, by simp [doJ], HMP.out, Nat.le_refl _, by simp⟩
   case round =>
    obtain ⟨j, st1, hj, rfl, hst1, hm1, hl1, rfl⟩ := hrel
    obtain ⟨wb, rfl⟩ : ∃ wb : World, wb = wr := ⟨_, rfl⟩
    have HM1 := Lib.hid hm1
    have HS1 := Lib.hid hst1
    have HL1 := Lib.hid hl1
    clear hm1 hst1 hl1
    by_cases hjn : j < n
    ·go_wp2_with fail
     go_loopw [24, 8, 7] (fun i cv ov wr => ∃ (i' : Nat) (st : Rels × List Stp), i' ≤ j ∧ i = .int .i64 i' ∧ st = doI t.1 j n i' st1 ∧ MpR t.1 n (w.heap.size + 2) eB b o T0 w3 st ov wr ∧ cur.2.length ≤ st.2.length ∧ cv = .bool (decide (st.2.length ≠ cur.2.length))) (fun i _ _ _ => j - (intOf i).toNat)
     case atStart => exact ⟨0, st1, by omega, rfl, by simp [doI], HM1.out, HL1.out, rfl⟩
     case round =>
      obtain ⟨i, st2, hi, rfl, hst2, hm2, hl2, rfl⟩ := hrel
      obtain ⟨wc, rfl⟩ : ∃ wc : World, wc = wr := ⟨_, rfl⟩
      have HM2 := Lib.hid hm2
      have HS2 := Lib.hid hst2
      have HL2 := Lib.hid hl2
      clear hm2 hst2 hl2
      by_cases hij : i < j
      ·have x2 := (cellB HM2.out.2.2.2.2.1 (show w.heap.size + 1 < w.heap.size + 2 by omega)).trans x0
       go_wp2_with fail
       go_loopw [29, 8, 7] (fun i'' cv ov wr => ∃ (k : Nat) (st : Rels × List Stp), k ≤ n ∧ i'' = .int .i64 k ∧ st = doK t.1 i j k st2 ∧ MpR t.1 n (w.heap.size + 2) eB b o T0 w3 st ov wr ∧ cur.2.length ≤ st.2.length ∧ cv = .bool (decide (st.2.length ≠ cur.2.length))) (fun i _ _ _ => n - (intOf i).toNat)
       case atStart => exact ⟨0, st2, by omega, rfl, by simp [doK], HM2.out, HL2.out, rfl⟩
       case round =>
        obtain ⟨k, st3, hk, rfl, hst3, hm3, hl3, rfl⟩ := hrel
        obtain ⟨wd, rfl⟩ : ∃ wd : World, wd = wr := ⟨_, rfl⟩
        have HM3 := Lib.hid hm3
        have HS3 := Lib.hid hst3
        have HL3 := Lib.hid hl3
        clear hm3 hst3 hl3
        by_cases hkn : k < n
        ·have hlc : st3.1.length = m := HM3.out.2.1.1.trans (HP.out.1.symm.trans HM.out)
         have hpx : pxN i j < m := by rw [← hlc]; exact HM3.out.2.1.at hij hjn
         have hB := HB.out (by omega)
         have HAD : Hid (ad = some ⟨b, o, none⟩) := hB.1
         have hbb : w.heap.size + 2 ≤ b ∧ b < eB := ⟨by have := hB.2.1; omega, hB.2.2.1⟩
         have hzd := HM3.out.2.2.2.2.2
         have t3 := (cellB HM3.out.2.2.2.2.1 (show w.heap.size < w.heap.size + 2 by omega)).trans t0
         have HLC := Lib.hid hlc
         clear hB hlc
         by_cases hki : k = i
         ·have HSS : Hid (st3 = doK t.1 i j (k + 1) st2) := by unfold Hid; rw [doK_succ, ← HS3.out, prs_no (by simp [hki])]
          have HMa := Lib.hid (fun (o : Obj) => HM3.out.below (bA (o := o)) (by omega))
          have hki' : (k : Int) = (i : Int) := by omega
          go_wp2_with fail
          go_roundw
          case rel => exact ⟨k + 1, st3, by omega, by go_num, HSS.out, HMa.out _, HL3.out, by simp⟩
          case measure => simp [intOf]; omega
         ·have hki' : ¬ ((k : Int) = (i : Int)) := by omega
          by_cases hkj : k = j
          ·have HSS : Hid (st3 = doK t.1 i j (k + 1) st2) := by unfold Hid; rw [doK_succ, ← HS3.out, prs_no (by simp [hkj])]
           have HMa := Lib.hid (fun (o : Obj) => HM3.out.below (bA (o := o)) (by omega))
           have hkj' : (k : Int) = (j : Int) := by omega
           go_wp2_with fail
           go_roundw
           case rel => exact ⟨k + 1, st3, by omega, by go_num, HSS.out, HMa.out _, HL3.out, by simp⟩
           case measure => simp [intOf]; omega
          ·have hkj' : ¬ ((k : Int) = (j : Int)) := by omega
           go_upto_region 16 with fail
           generalize hWe : World.alloc wd _ = we
           have hbe : Below wd.heap.size wd we := hWe ▸ bA
           have hze : wd.heap.size < we.heap.size := by rw [← hWe]; simp
           have y0 : we.cell? ⟨wd.heap.size, 0, none⟩ = some (.int .i64 (i : Int)) := by rw [← hWe]; simp
           have y1 : we.cell? ⟨wd.heap.size, 1, none⟩ = some (.int .i64 (j : Int)) := by rw [← hWe]; simp
           have y2 : we.cell? ⟨wd.heap.size, 2, none⟩ = some (.int .i64 (k : Int)) := by rw [← hWe]; simp
           have HMe := Lib.hid (HM3.out.below hbe (by omega))
           replace t3 := (cellB hbe (by omega)).trans t3
           have hyb : b ≠ wd.heap.size := by omega
           have hnei : ((k : Int) != (i : Int)) = true := by simp [hki']
           have hnej : ((k : Int) != (j : Int)) = true := by simp [hkj']
           clear hWe x2
           generalize wd.heap.size = bs at hyb y0 y1 y2 ⊢
           go_wp2_with fail
           refine (narrow_ad we (fun q hq e => by have := HMe.out.2.2.1.own_lt e; omega) HAD.out (HMe.out.1 (by have := HLC.out; omega)) HLC.out HMe.out.2.1 hs (by omega) hij hjn hkn hki hkj).mono ?_
           rintro e wf ⟨rfl, hPR, htf⟩
           have hzf := htf.size
           have hbsl := cell_lt y0
           obtain ⟨hMf, hTf⟩ := MpR.nw (P := st3.1) (S := st3.2) HMe.out hPR htf hij hjn hbb.1 hbb.2 (by omega)
           have HMf := Lib.hid hMf
           replace y0 := (htf.cell hbsl (fun e => hyb e.symm)).trans y0
           replace y1 := (htf.cell hbsl (fun e => hyb e.symm)).trans y1
           replace y2 := (htf.cell hbsl (fun e => hyb e.symm)).trans y2
           clear hMf hPR htf HMe t3
           cases hnb : nwB t.1 st3.1 i j k
           ·have HSS : Hid (st3 = doK t.1 i j (k + 1) st2) := by unfold Hid; rw [doK_succ, ← HS3.out, prs_same (e := (i, j, k)) hnb]
            have hsm := nw_same HM3.out.2.1 hij hjn hnb
            have HMg := Lib.hid (HMf.out.same hsm)
            clear hsm
            go_wp2_with fail
            go_roundw
            case rel => exact ⟨k + 1, st3, by omega, by go_num, HSS.out, HMg.out, HL3.out, by simp⟩
            case measure => simp [intOf]; omega
           ·have HSS : Hid ((nwV t.1 st3.1 i j k, st3.2 ++ [(i, j, k)]) = doK t.1 i j (k + 1) st2) := by unfold Hid; rw [doK_succ, ← HS3.out, prs_yes (e := (i, j, k)) ⟨hki, hkj⟩ hnb]
            have HT := Lib.hid (hTf hnb)
            clear hTf
            go_wp2_with (refine wpList_push (E := pstT) _ rfl _ _ 34 52 rfl elPst rfl (HMf.out.2.2.1.below bA (Nat.le_refl _)) rfl (news3' rfl) (fr_pst (i := i) (j := j) (k := k) (by omega) (by omega) (by omega)) (by rw [List.length_map]; have := HT.out; show st3.2.length ≤ _; omega) (by decide) (by omega) (by first | (simp; done) | (simp; omega)) ?_; intro v5 w5 hB5 hg5 hown; have HM5 := Lib.hid (HMf.out.push HT.out bA hg5 hB5 hown hbb.2 (by omega) (by omega)); clear hB5 hg5 hown)
            go_roundw
            case rel => exact ⟨k + 1, (nwV t.1 st3.1 i j k, st3.2 ++ [(i, j, k)]), by omega, by go_num, HSS.out, HM5.out, by have := HL3.out; simp; omega, by have := HL3.out; simp; omega⟩
            case measure => simp [intOf]; omega
        ·obtain rfl : k = n := by omega
         go_wp2_with fail
         go_roundw
         case rel => exact ⟨i + 1, st3, by omega, by go_num, by rw [doI_succ, ← HS2.out, HS3.out], HM3.out, HL3.out, rfl⟩
         case measure => simp [intOf]; omega
      ·obtain rfl : i = j := by omega
       go_wp2_with fail
       go_roundw
       case rel => exact ⟨i + 1, st2, by omega, by go_num, by rw [doJ_succ, ← HS1.out, HS2.out], HM2.out, HL2.out, rfl⟩
       case measure => simp [intOf]; omega
    ·obtain rfl : j = n := by omega
     have hsw : st1 = doJ t.1 j j cur := HS1.out
     by_cases hch : st1.2.length = cur.2.length
     ·have hd : decide (st1.2.length ≠ cur.2.length) = false := by simp [hch]
      rw [hd]
      go_wp2_with fail
      go_roundg (gk - 1)
      case measure => have := HC1.out.2; omega
      case rel => exact ⟨st1, false, rfl, HM1.out, (fun h => by cases h), fun _ => by rw [← HC1.out.1, mkP_end (by rw [← hsw]; exact hch)]; exact hsw⟩
     ·have hd : decide (st1.2.length ≠ cur.2.length) = true := by simp [hch]
      have hmore := mkP_more (s := t.1) HMP.out.2.1.1 (by rw [← hsw]; exact hch)
      rw [← hsw] at hmore
      rw [hd]
      go_wp2_with fail
      go_roundg (gk - 1)
      case measure => have := HC1.out.2; omega
      case rel => exact ⟨st1, true, rfl, HM1.out, fun _ => ⟨hmore.1.symm.trans HC1.out.1, by have := HC1.out.2; omega⟩, (fun h => by cases h)⟩
end Go.Proofs.YtmnjlhcbabhhlaaGreat
