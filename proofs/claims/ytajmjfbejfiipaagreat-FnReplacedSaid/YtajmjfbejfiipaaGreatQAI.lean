/-
Contracts: whether two relations are the same, the reference's.
Contracts: the hull of a relation; whether a relation is definable; both sides.
Contracts: whether a relation is definable, both sides.
Contracts: an operation that breaks a relation, the program's.
Contracts: tuples drawn from bytes; an operation applied; the kind of an operation, checked.
Plain: the index of the first one of a kind, of the first one with a value; one number, just made.
Plain: whether a relation is its own hull, and the operation that breaks it where it is not.
Plain: the closure of a set of tuples under operations.
Contracts: the closure of a set of tuples under operations, the reference's.
Contracts: the conjunction of two formulas, the reference's.
Contracts: a relation of a formula replaced by a formula: plain parts; the program's.
Contracts: numbers, operations and kept templates drawn from bytes.
-/
import Derived.Test.YtajmjfbejfiipaaGreatQAB
import Derived.Test.YtajmjfbejfiipaaGreatQAD
import Derived.Test.YtajmjfbejfiipaaGreatQAH
import Derived.Test.YtajmjfbejfiipaaGreatQAC
import Derived.Test.YtajmjfbejfiipaaGreatQAG
import Derived.Test.YtajmjfbejfiipaaGreatQAE
import Derived.Test.YtajmjfbejfiipaaGreatQAF
import Derived.Deep.LoopGhost
namespace Go.Proofs.YtajmjfbejfiipaaGreat
open Go.RowKit Go.Sort
set_option maxHeartbeats 3200000 in
set_option maxRecDepth 100000 in
theorem l01Same_quiet (w : World) {va vb : Value} {r q : Int × List (List Int)} (h1 : relT.Pt w va r) (h2 : relT.Pt w vb q) :
    Calls Tryz.prog 52 #[va, vb] w fun e w' => e = .returned (.bool (eqB r q)) ∧ Quiet w w' := by
  obtain ⟨b1, o1, a1, c1, rfl, hb1, -, p0, p1, hr1⟩ := pt_pair h1
  obtain ⟨b2, o2, a2, c2, rfl, hb2, -, q0, q1, hr2⟩ := pt_pair h2
  have HR1 := Lib.hid hr1
  have HR2 := Lib.hid hr2
  have hle1 : r.2.length ≤ 140737488351232 := by obtain ⟨_, _, he, _, h, _⟩ := slices_ex hr1; exact h
  have hle2 : q.2.length ≤ 140737488351232 := by obtain ⟨_, _, he, _, h, _⟩ := slices_ex hr2; exact h
  clear h1 h2 hr1 hr2
  cases hA : (r.1 != q.1)
  rotate_left
  · have HE : Hid (eqB r q = false) := eqB_fst (by simpa using hA)
    go_enter Tryz.func52, Tryz.ntmps52
    go_wp2_with fail
    go_quiet (fail)
    go_wp2_with fail
    go_ret
    exact ⟨ret_bool HE.out.symm, Quiet.drewN _ _⟩
  have hA' : r.1 = q.1 := by simpa using hA
  cases hL : ((r.2.length : Int) != (q.2.length : Int))
  rotate_left
  · have HE : Hid (eqB r q = false) := by
      unfold Hid
      refine eqB_snd hA' (eqB_len ?_)
      have : (r.2.length : Int) ≠ (q.2.length : Int) := by simpa using hL
      omega
    go_enter Tryz.func52, Tryz.ntmps52
    go_wp2_with fail
    go_quiet (fail)
    go_wp2_with fail
    go_ret
    exact ⟨ret_bool HE.out.symm, Quiet.drewN _ _⟩
  have hL' : r.2.length = q.2.length := by have : (r.2.length : Int) = (q.2.length : Int) := by simpa using hL
                                           omega
  have HLL := Lib.hid hL'
  have HA := Lib.hid hA'
  clear hA' hL'
  go_enter Tryz.func52, Tryz.ntmps52
  go_wp2_with fail
  go_quiet (fail)
  rename_i nq
  generalize hWq : w.drewN nq = wq
  have hq0 : Quiet w wq := ⟨nq, hWq.symm⟩
  have hbq := hq0.below
  replace p1 := (cellB hbq (by omega)).trans p1
  replace q1 := (cellB hbq (by omega)).trans q1
  have hzq := hbq.size
  have HS1 := Lib.hid (HR1.out.below hbq)
  have HS2 := Lib.hid (HR2.out.below hbq)
  clear hWq p0 q0 hA hL
  go_wp2_with fail
  obtain ⟨wz, rfl⟩ : ∃ wz : World, wz = wq := ⟨_, rfl⟩
  go_loopw [5] (fun i wr => ∃ k : Nat, k ≤ r.2.length ∧ i = .int .i64 k ∧ r.2.take k = q.2.take k ∧ Quiet wz wr) (fun i _ => r.2.length - (intOf i).toNat)
  case atStart => exact ⟨0, Nat.zero_le _, rfl, by simp, Quiet.refl _⟩
  case round =>
    obtain ⟨k, hk, rfl, htk, hq⟩ := hrel
    have HTK := Lib.hid htk
    have hbe := hq.below
    have d1 := (cellB hbe (show b1 < wz.heap.size by omega)).trans p1
    have d2 := (cellB hbe (show b2 < wz.heap.size by omega)).trans q1
    clear htk
    by_cases hkl : k < r.2.length
    · have hkl2 : k < q.2.length := by have := HLL.out; omega
      obtain ⟨_, _, e1, -, -, hc1⟩ := slices_ex HS1.out
      simp only [List.cons.injEq, Value.slice.injEq, and_true, true_and] at e1
      obtain ⟨rfl, rfl⟩ := e1
      obtain ⟨_, _, e2, -, -, hc2⟩ := slices_ex HS2.out
      simp only [List.cons.injEq, Value.slice.injEq, and_true, true_and] at e2
      obtain ⟨rfl, rfl⟩ := e2
      obtain ⟨ba, oa, rfl, hba, hca⟩ := hc1 (by omega)
      obtain ⟨bb, ob, rfl, hbb, hcb⟩ := hc2 (by omega)
      obtain ⟨u1, hu1, g1⟩ := hca k hkl
      obtain ⟨u2, hu2, g2⟩ := hcb k hkl2
      obtain ⟨x1, y1, rfl⟩ := rd_slice hu1
      obtain ⟨x2, y2, rfl⟩ := rd_slice hu2
      have s1 := (cellB hbe hba).trans g1
      have s2 := (cellB hbe hbb).trans g2
      have cS : ∀ n, Calls Tryz.prog 94 #[.slice x1 (r.2[k]).length y1, .slice x2 (q.2[k]).length y2] (wr.drewN n) fun e w'' => e = .returned (.bool (eqB r.2[k] q.2[k])) ∧ ∃ m, w'' = wr.drewN m := fun n => quiet_call (l00Same_quiet _ ((hu1.below hbe).below (Quiet.drewN wr n).below) ((hu2.below hbe).below (Quiet.drewN wr n).below))
      clear hc1 hc2 hca hcb hu1 hu2 g1 g2
      cases he : eqB r.2[k] q.2[k]
      · have HE : Hid (eqB r q = false) := by
          unfold Hid
          have hne : r.2[k] ≠ q.2[k] := fun e => by rw [eqB_true e] at he; cases he
          exact eqB_snd HA.out (eqB_get hkl hkl2 hne)
        rw [he] at cS
        clear he
        go_wp2_with fail
        go_quiet (exact cS _)
        go_wp2_with fail
        go_ret
        exact ⟨ret_bool HE.out.symm, (hq0.then hq).then (Quiet.drewN _ _)⟩
      · have HN := Lib.hid (take_eq_succ hkl hkl2 HTK.out (eqB_iff.1 he))
        rw [he] at cS
        clear he
        go_wp2_with fail
        go_quiet (exact cS _)
        go_wp2_with fail
        go_roundw
        case rel => exact ⟨k + 1, by omega, by go_num, HN.out, hq.then (Quiet.drewN _ _)⟩
        case measure => simp [intOf]; omega
    · obtain rfl : k = r.2.length := by omega
      have HE : Hid (eqB r q = true) := by
        unfold Hid
        refine eqB_true (Prod.ext HA.out ?_)
        have h1 := HTK.out
        have h2 := HLL.out
        rw [List.take_of_length_le (Nat.le_refl _), List.take_of_length_le (by omega)] at h1
        exact h1
      go_wp2_with fail
      go_ret
      exact ⟨ret_bool HE.out.symm, hq0.then hq⟩
end Go.Proofs.YtajmjfbejfiipaaGreat
namespace Go.Proofs.YtajmjfbejfiipaaGreat
open Go.RowKit Go.Sort
abbrev RelV := Int × List (List Int)
section
variable {t : Tpl} {r : RelV}
end
end Go.Proofs.YtajmjfbejfiipaaGreat
namespace Go.Proofs.YtajmjfbejfiipaaGreat
open Go.RowKit Go.Sort
end Go.Proofs.YtajmjfbejfiipaaGreat
namespace Go.Proofs.YtajmjfbejfiipaaGreat
open Go.RowKit Go.Sort
section
variable {t : Tpl} {r : RelV}
end
end Go.Proofs.YtajmjfbejfiipaaGreat
namespace Go.Proofs.YtajmjfbejfiipaaGreat
open Go.RowKit Go.Sort
end Go.Proofs.YtajmjfbejfiipaaGreat
namespace Go.Proofs.YtajmjfbejfiipaaGreat
open Go.RowKit Go.Sort
section
variable {t : Tpl} {ar : Int}
end
end Go.Proofs.YtajmjfbejfiipaaGreat
namespace Go.Proofs.YtajmjfbejfiipaaGreat
open Go.RowKit Go.Sort
theorem ltL_irrefl {x : List Int} : ¬ ltL x x := by unfold ltL; rw [cmpL_self]; omega
theorem pw_ext : ∀ {xs ys : List (List Int)}, xs.Pairwise ltL → ys.Pairwise ltL → (∀ a, a ∈ xs ↔ a ∈ ys) → xs = ys
 | [], [], _, _, _ => rfl
 | [], y :: ys, _, _, h => absurd ((h y).2 (List.mem_cons_self ..)) (by simp)
 | x :: xs, [], _, _, h => absurd ((h x).1 (List.mem_cons_self ..)) (by simp)
 | x :: xs, y :: ys, hx, hy, h => by
  obtain ⟨x1, x2⟩ := List.pairwise_cons.1 hx
  obtain ⟨y1, y2⟩ := List.pairwise_cons.1 hy
  have e : x = y := by
   rcases List.mem_cons.1 ((h x).1 (List.mem_cons_self ..)) with e | e
   ·exact e
   ·rcases List.mem_cons.1 ((h y).2 (List.mem_cons_self ..)) with e' | e'
    ·exact e'.symm
    ·exact absurd (ltL_trans (y1 x e) (x1 y e')) ltL_irrefl
  subst e
  rw [pw_ext x2 y2 fun a => ⟨fun ha => ?_, fun ha => ?_⟩]
  ·rcases List.mem_cons.1 ((h a).1 (List.mem_cons_of_mem _ ha)) with e | e
   ·subst e; exact absurd (x1 _ ha) ltL_irrefl
   ·exact e
  ·rcases List.mem_cons.1 ((h a).2 (List.mem_cons_of_mem _ ha)) with e | e
   ·subst e; exact absurd (y1 _ ha) ltL_irrefl
   ·exact e
theorem sortedL_pw {xs : List (List Int)} (h : sortedL xs) : xs.Pairwise ltL := List.pairwise_iff_getElem.2 fun _ _ _ hj hij => sortedL_lt h hj hij
theorem rel_ext {s : Int} {r q : Int × List (List Int)} (hr : relOk s r) (hq : relOk s q) (h1 : r.1 = q.1) (h : ∀ a, a ∈ r.2 ↔ a ∈ q.2) : r = q :=
 Prod.ext h1 (pw_ext (sortedL_pw (relOk_sorted hr)) (sortedL_pw (relOk_sorted hq)) h)
section
variable {t : Tpl} {r : RelV}
end
end Go.Proofs.YtajmjfbejfiipaaGreat
namespace Go.Proofs.YtajmjfbejfiipaaGreat
open Go.RowKit Go.Sort
/-- what operations make of tuples, and of what they make -/
inductive Clo (s : Int) (ops : List (Int × List Int)) (ar : Nat) (T : List (List Int)) : List Int → Prop
 | base {l : List Int} (h : l ∈ T) : Clo s ops ar T l
 | step {f : Int × List Int} {ts : List (List Int)} (hf : f ∈ ops) (hl : (ts.length : Int) = f.1) (h : ∀ l ∈ ts, Clo s ops ar T l) : Clo s ops ar T (madeL s f.2 ts ar)
def tupP (s : Int) (ar : Nat) (l : List Int) : Prop := l.length = ar ∧ ∀ a ∈ l, 0 ≤ a ∧ a ≤ s - 1
theorem madeL_in {s : Int} {f : Int × List Int} {ts : List (List Int)} {m : Nat} (hf : opOk s f) (ht : tupsOk s f.1 m ts) : tupP s m (madeL s f.2 ts m) := by
 refine ⟨madeL_len, fun a ha => ?_⟩
 obtain ⟨p, hp, rfl⟩ := List.mem_map.1 ha
 rw [madeV_op]
 have hp' : p < m := by simpa using hp
 exact opV_in hf (by rw [colL_len]; exact ht.1) (colL_in ht hp')
/-- all tuples for which something is so, in order -/
theorem relL_iff {s : Int} {ar N : Nat} {p : List Int → Bool} (hs : 1 ≤ s) (hN : s ^ ar = N) {l : List Int} (hl : tupP s ar l) : l ∈ relL s ar p N ↔ p l = true := by
 have hb := idx_lt hs hl.1 hl.2
 rw [hN] at hb
 have e := dig_of hs hl.1 hl.2
 have h := relL_mem (s := s) (n := ar) (N := N) (p := p) (k := (idxL s 0 l).toNat) (by omega)
 rw [show (((idxL s 0 l).toNat : Nat) : Int) = idxL s 0 l by omega, e] at h
 rw [← h, tb_iff]
theorem relL_tup {s : Int} {ar N : Nat} {p : List Int → Bool} (hs : 1 ≤ s) {l : List Int} (h : l ∈ relL s ar p N) : tupP s ar l := by
 obtain ⟨h1, -⟩ := List.mem_filter.1 h
 obtain ⟨k, -, rfl⟩ := List.mem_map.1 h1
 exact ⟨digL_len, digL_in hs⟩
theorem relL_ok {s : Int} {ar N : Nat} {p : List Int → Bool} (hs : sizeOk s) (har : 1 ≤ ar ∧ ar ≤ 4) (hN : s ^ ar = N) : relOk s ((ar : Int), relL s ar p N) := by
 have h1 := hs.1
 refine ⟨hs, ⟨by show (1 : Int) ≤ ar; omega, by show (ar : Int) ≤ 4; omega⟩, fun i hi => ⟨?_, relL_sorted h1 hN i hi⟩⟩
 have := relL_tup h1 (List.getElem_mem hi)
 exact ⟨by show ((_ : Nat) : Int) = (ar : Int); rw [this.1], this.2⟩
theorem relL_sub {s : Int} {ar N : Nat} {p q : List Int → Bool} (h : ∀ l, p l = true → q l = true) : (relL s ar p N).Sublist (relL s ar q N) := by
 unfold relL
 generalize (List.range N).map (fun i : Nat => digL s i ar) = L
 induction L with
 | nil => exact List.Sublist.refl _
 | cons a L ih =>
  cases hp : p a
  ·rw [List.filter_cons_of_neg (by simp [hp])]
   cases hq : q a
   ·rw [List.filter_cons_of_neg (by simp [hq])]; exact ih
   ·rw [List.filter_cons_of_pos hq]; exact ih.cons _
  ·rw [List.filter_cons_of_pos hp, List.filter_cons_of_pos (h a hp)]
   exact ih.cons_cons _
/-- the set as a relation -/
noncomputable def setR (s : Int) (ar N : Nat) (T : List (List Int)) : List (List Int) := relL s ar (fun l => tb (l ∈ T)) N
theorem setR_mem {s : Int} {ar N : Nat} {T : List (List Int)} (hs : 1 ≤ s) (hN : s ^ ar = N) (hT : ∀ l ∈ T, tupP s ar l) {l : List Int} : l ∈ setR s ar N T ↔ l ∈ T :=
 ⟨fun h => tb_iff.1 ((relL_iff hs hN (relL_tup hs h)).1 h), fun h => (relL_iff hs hN (hT l h)).2 (tb_true h)⟩
/-- an operation keeps a relation just if it makes a tuple of it of any tuples of it -/
theorem keeps_iff {s : Int} {f : Int × List Int} {ar : Nat} {R : List (List Int)} (hf : 1 ≤ f.1) : keepsP s f ((ar : Int), R) ↔ ∀ ts : List (List Int), (ts.length : Int) = f.1 → (∀ l ∈ ts, l ∈ R) → madeL s f.2 ts ar ∈ R := by
 constructor
 ·intro h ts hl hts
  have h0 : 0 < R.length := by
   cases ts with
   | nil => simp at hl; omega
   | cons a ts => exact List.length_pos_of_mem (hts a (List.mem_cons_self ..))
  obtain ⟨j, hj, hpj⟩ := picks_some (ts := R) (L := ts) hts h0
  have := h j (by rw [← hl, Int.toNat_natCast]; exact hj)
  unfold makes at this
  rw [← hl, Int.toNat_natCast] at this
  simp only [Int.toNat_natCast] at this
  rwa [hpj] at this
 ·intro h i hi
  have h0 : 0 < R.length := by
   rcases Nat.eq_zero_or_pos R.length with h | h
   ·have hi' : (i : Int) < (R.length : Int) ^ f.1.toNat := hi
    rw [h, show ((0 : Nat) : Int) = 0 from rfl, Int.zero_pow (by omega)] at hi'
    omega
   ·exact h
  have := h (picks R f.1.toNat i) (by rw [picks_len]; omega) (fun l hl => by
   obtain ⟨k, hk, rfl⟩ := List.mem_map.1 hl
   obtain ⟨k1, k2⟩ := dig_mem (by omega) hk
   have hkl : k.toNat < R.length := by omega
   rw [List.getD_eq_getElem?_getD, List.getElem?_eq_getElem hkl]
   exact List.getElem_mem hkl)
  unfold makes
  simpa using this
/-- a relation that is closed, and lies in the closure of what lies in it, is the closure -/
theorem clo_closed {s : Int} {ops : List (Int × List Int)} {ar : Nat} {T R : List (List Int)} (ho : ∀ f ∈ ops, opOk s f) (h1 : ∀ l ∈ T, l ∈ R) (h2 : ∀ l ∈ R, Clo s ops ar T l) (h3 : ∀ f ∈ ops, keepsP s f ((ar : Int), R)) {l : List Int} : l ∈ R ↔ Clo s ops ar T l := by
 refine ⟨h2 l, fun h => ?_⟩
 induction h with
 | base h => exact h1 _ h
 | step hf hl _ ih => exact (keeps_iff (ho _ hf).2.1.1).1 (h3 _ hf) _ hl ih
/-- a round that adds nothing: all is closed -/
theorem round_end {s : Int} {ops : List (Int × List Int)} {ar N : Nat} {T0 T : List (List Int)} (hs : 1 ≤ s) (hN : s ^ ar = N) (hT : ∀ l ∈ T, tupP s ar l) (hsub : ∀ l ∈ T0, l ∈ T)
  (hall : ∀ f ∈ ops, ∀ k : Nat, (k : Int) < ((setR s ar N T0).length : Int) ^ f.1.toNat → makes s f ((ar : Int), setR s ar N T0) k ∈ T) (hlen : (setR s ar N T).length = (setR s ar N T0).length) :
  setR s ar N T = setR s ar N T0 ∧ ∀ f ∈ ops, keepsP s f ((ar : Int), setR s ar N T) := by
 have e : setR s ar N T0 = setR s ar N T := (relL_sub (fun l h => tb_true (hsub l (tb_iff.1 h)))).eq_of_length hlen.symm
 refine ⟨e.symm, fun f hf k hk => ?_⟩
 rw [← e] at hk ⊢
 rw [e]
 rw [setR_mem hs hN hT, ← e]
 exact hall f hf k hk
theorem round_more {s : Int} {ar N : Nat} {T0 T : List (List Int)} (hsub : ∀ l ∈ T0, l ∈ T) : (setR s ar N T0).length ≤ (setR s ar N T).length ∧ (setR s ar N T).length ≤ N :=
 ⟨(relL_sub (fun l h => tb_true (hsub l (tb_iff.1 h)))).length_le, relL_len⟩
end Go.Proofs.YtajmjfbejfiipaaGreat
namespace Go.Proofs.YtajmjfbejfiipaaGreat
open Go.RowKit Go.Sort
theorem pairs_exPb {ok : Nat → Prop} {w : World} {u : Value} {xs : List (Int × List Int)} (h : opsT.RdP ok w [u] xs) :
  ∃ ad cap, u = .slice ad xs.length cap ∧ xs.length ≤ 140737488351232 ∧ (0 < xs.length → ∃ b o, ad = some ⟨b, o, none⟩ ∧ b < w.heap.size ∧ ok b ∧ ∀ i (h : i < xs.length), w.cell? ⟨b, o + i * 2, none⟩ = some (.int .i64 xs[i].1)) := by
 obtain ⟨ad, cap, h1, h2, h3, h4⟩ := slice_exP h
 refine ⟨ad, cap, by simpa using h1, h3, fun hp => ?_⟩
 obtain ⟨b, o, h5, h6, hok, h7⟩ := h4 hp
 refine ⟨b, o, h5, h6, hok, fun i hi => ?_⟩
 obtain ⟨cs, ⟨fp, ⟨cs', rfl, hI, h8⟩, hf⟩, h10⟩ := h7 i hi
 have h11 := h10 0 (by simp)
 rw [List.getElem_cons_zero] at h11
 simpa [Ty.slice, Ty.cons] using h11
/-- between some tuples and their closure -/
def Mid (s : Int) (ops : List (Int × List Int)) (ar : Nat) (T0 T : List (List Int)) : Prop := (∀ l ∈ T, tupP s ar l) ∧ (∀ l ∈ T0, l ∈ T) ∧ ∀ l ∈ T, Clo s ops ar T0 l
theorem Mid.add {s : Int} {ops : List (Int × List Int)} {ar : Nat} {T0 T : List (List Int)} (h : Mid s ops ar T0 T) {l : List Int} (h1 : tupP s ar l) (h2 : Clo s ops ar T0 l) : Mid s ops ar T0 (T ++ [l]) :=
 ⟨fun x hx => (List.mem_append.1 hx).elim (h.1 x) (fun h => by rw [List.mem_singleton.1 h]; exact h1), fun x hx => List.mem_append_left _ (h.2.1 x hx), fun x hx => (List.mem_append.1 hx).elim (h.2.2 x) (fun h => by rw [List.mem_singleton.1 h]; exact h2)⟩
/-- a relation of the tuples in the closure -/
def CloR (s : Int) (ops : List (Int × List Int)) (ar : Nat) (T0 : List (List Int)) (g : Nat) (w : World) (e : Ending) (w' : World) : Prop :=
 ∃ (cs : List Value) (M : List (List Int)), e = .returned (.agg cs.toArray) ∧ relT.Fr w.heap.size w' cs ((ar : Int), M) ∧ relOk s ((ar : Int), M) ∧ (∀ l, l ∈ M ↔ Clo s ops ar T0 l) ∧ TchP (fun q => q = g) w w'
set_option maxHeartbeats 6400000 in
set_option maxRecDepth 100000 in
theorem l02Closure_any (w : World) {base bx g ar N : Nat} {s : Int} {T0 : List (List Int)} (h : Set3 w base bx g s ar N T0) (hs : sizeOk s) (har : 1 ≤ ar ∧ ar ≤ 4) (hN : s ^ ar = N) (hT0 : ∀ l ∈ T0, tupP s ar l) {v : Value} {ops : List (Int × List Int)} (hv : opsT.RdP (fun q => q ≠ g) w [v] ops) (ho : ∀ f ∈ ops, opOk s f) :
  Calls Tryz.prog 97 #[.int .i64 s, v, .pointer (some ⟨bx, 0, none⟩)] w (CloR s ops ar T0 g w) := by
 have hs4 := hs
 unfold sizeOk at hs4
 have hgw := h.1.2.2.2.2.lt
 have hbg : g ≠ bx := h.1.2.2.1
 have hbx := h.1.2.1
 have hN256 : N ≤ 256 := by
  have h1 : s ^ ar ≤ 256 := by
   refine Int.le_trans (pow_mono' (by omega) (show s ≤ 4 by omega) ar) ?_
   rcases (show ar = 1 ∨ ar = 2 ∨ ar = 3 ∨ ar = 4 by omega) with e | e | e | e <;> rw [e] <;> decide
  omega
 obtain ⟨oad, ocap, hvv, hol, hoc⟩ := pairs_exPb hv
 have HOPS : Hid (∀ X, TchP (fun q => q = g) w X → opsT.RdP (fun q => q ≠ g) X [v] ops) := fun X hX => hv.tchP hX (fun k _ h1 h2 => h1 h2)
 subst hvv
 have HSET := Lib.hid h
 have HN := Lib.hid hN
 have HT0 := Lib.hid hT0
 have HO := Lib.hid ho
 have HS := Lib.hid hs
 have HOC := Lib.hid hoc
 have hrl : ∀ T, (setR s ar N T).length ≤ N := fun T => relL_len
 have HRL := Lib.hid hrl
 clear h hN hT0 hv ho hs hoc hrl
 go_enter Tryz.func97, Tryz.ntmps97
 go_wp2_with fail
 generalize hW : World.alloc w _ = W
 have hbW : Below w.heap.size w W := hW ▸ bA
 have hsW : W.heap.size = w.heap.size + 1 := by rw [← hW]; simp
 have r0 : W.cell? ⟨w.heap.size, 0, none⟩ = some (.int .i64 0) := by rw [← hW]; simp [go_sem]
 have r1 : W.cell? ⟨w.heap.size, 1, none⟩ = some (.slice none 0 0) := by rw [← hW]; simp [go_sem]
 have r2 : W.frozen? ⟨w.heap.size, 0, none⟩ = false := by rw [← hW]; simp [go_sem]
 have r3 : W.frozen? ⟨w.heap.size, 1, none⟩ = false := by rw [← hW]; simp [go_sem]
 clear hW
 have HS0 : Hid (Set3 W base bx g s ar N T0) := HSET.out.below hbW (Nat.le_refl _)
 have HTW : Hid (TchP (fun q => q = g) w W) := TchP.of_below hbW _
 have HM0 : Hid (Mid s ops ar T0 T0) := ⟨HT0.out, fun _ h => h, fun _ h => .base h⟩
 clear HSET
 go_loopg [] N (fun gm wr => ∃ T : List (List Int), Set3 wr base bx g s ar N T ∧ Mid s ops ar T0 T ∧ TchP (fun q => q = g) W wr ∧ N - (setR s ar N T).length ≤ gm)
 case atStart => exact ⟨T0, HS0.out, HM0.out, TchP.refl _ _, by omega⟩
 case round =>
  obtain ⟨T, hS, hM, hT, hgm⟩ := hrel
  obtain ⟨wv, rfl⟩ : ∃ wv : World, wv = wr := ⟨_, rfl⟩
  have HS1 := Lib.hid hS
  have HM1 := Lib.hid hM
  have HT1 := Lib.hid hT
  have hzv := hT.size
  clear hS hM hT HS0 HM0
  go_wp2_with fail
  refine (rel_any wv HS1.out hs4 (by omega) HN.out (by omega) (fun l hl => HM1.out.1 l hl)).mono ?_
  rintro e w1 ⟨cs, rfl, hf, hb1⟩
  obtain ⟨R, hR⟩ : ∃ R, R = setR s ar N T := ⟨_, rfl⟩
  change relT.Fr wv.heap.size w1 cs ((ar : Int), setR s ar N T) at hf
  rw [← hR] at hf hgm
  have hRN : R.length ≤ N := by rw [hR]; exact HRL.out T
  have HR := Lib.hid hR
  obtain ⟨a1, c1, rfl⟩ := fr_pair hf
  have hROK : relOk s ((ar : Int), R) := by rw [hR]; exact relL_ok HS.out har HN.out
  have HROK := Lib.hid hROK
  have hz1 := hb1.size
  have HRP : Hid (rowsT.RdP (fun q => wv.heap.size ≤ q) w1 [.slice a1 R.length c1] R) := by
   obtain ⟨fp, hfp, -, hge, -⟩ := hf
   obtain ⟨cs', he, -, h3⟩ := hfp
   simp only [List.cons.injEq, true_and] at he
   rw [← he] at h3
   exact ⟨fp, h3, hge⟩
  clear hf hR hROK
  go_wp2_with fail
  generalize hWb : World.alloc w1 _ = wb
  have hbb : Below w1.heap.size w1 wb := hWb ▸ bA
  have hsb : wb.heap.size = w1.heap.size + 1 := by rw [← hWb]; simp
  have b0 : wb.cell? ⟨w1.heap.size, 0, none⟩ = some (.int .i64 (ar : Int)) := by rw [← hWb]; simp [go_sem]
  have b1 : wb.cell? ⟨w1.heap.size, 1, none⟩ = some (.slice a1 R.length c1) := by rw [← hWb]; simp [go_sem]
  have b2 : wb.frozen? ⟨w1.heap.size, 0, none⟩ = false := by rw [← hWb]; simp [go_sem]
  have b3 : wb.frozen? ⟨w1.heap.size, 1, none⟩ = false := by rw [← hWb]; simp [go_sem]
  clear hWb
  have hbvb : Below wv.heap.size wv wb := bthen hb1 hbb
  have HSb : Hid (Set3 wb base bx g s ar N T) := HS1.out.below hbvb (Nat.le_refl _)
  have HRb : Hid (rowsT.RdP (fun q => wv.heap.size ≤ q) wb [.slice a1 R.length c1] R) := HRP.out.below hbb
  have HTb : Hid (TchP (fun q => q = g) w wb) := (HTW.out.then HT1.out (fun _ _ h => h)).then (TchP.of_below hbvb _) (fun _ _ h => h)
  have hgv : g < wv.heap.size := by omega
  clear HS1 HRP hbb hb1
  go_loopw [9] (fun i wr => ∃ (ii : Nat) (T' : List (List Int)), ii ≤ ops.length ∧ i = .int .i64 ii ∧ Set3 wr base bx g s ar N T' ∧ Mid s ops ar T0 T' ∧ (∀ l ∈ T, l ∈ T') ∧ (∀ j (hj : j < ops.length), j < ii → ∀ k : Nat, (k : Int) < (R.length : Int) ^ (ops[j]).1.toNat → makes s ops[j] ((ar : Int), R) k ∈ T') ∧ TchP (fun q => q = g) wb wr) (fun i _ => ops.length - (intOf i).toNat)
  case atStart => exact ⟨0, T, Nat.zero_le _, rfl, HSb.out, HM1.out, fun _ h => h, fun j hj h => absurd h (Nat.not_lt_zero _), TchP.refl _ _⟩
  case round =>
   obtain ⟨ii, T1, hii, rfl, hS2, hM2, hsub2, hdone, hT2⟩ := hrel
   obtain ⟨wq, rfl⟩ : ∃ wq : World, wq = wr := ⟨_, rfl⟩
   have HS2 := Lib.hid hS2
   have HM2 := Lib.hid hM2
   have HSUB2 := Lib.hid hsub2
   have HDONE := Lib.hid hdone
   have HT2 := Lib.hid hT2
   have hzq := hT2.size
   have d0 := (hT2.cell (i := 0) (b := w1.heap.size) (by omega) (by omega)).trans b0
   have d1 := (hT2.cell (i := 1) (b := w1.heap.size) (by omega) (by omega)).trans b1
   have d2 := (hT2.frozen (i := 0) (b := w1.heap.size) (by omega) (by omega)).trans b2
   have d3 := (hT2.frozen (i := 1) (b := w1.heap.size) (by omega) (by omega)).trans b3
   have HTQ : Hid (TchP (fun q => q = g) w wq) := HTb.out.then hT2 (fun _ _ h => h)
   clear hS2 hM2 hsub2 hdone hT2
   by_cases hil : ii < ops.length
   ·obtain ⟨ob, oo, rfl, hob, hobg, hoc⟩ := HOC.out (by omega)
    have e0 := (HTQ.out.cell hob hobg).trans (hoc ii hil)
    have hfo : opOk s ops[ii] := HO.out _ (List.getElem_mem hil)
    have haf := hfo.2.1
    obtain ⟨af, haf2⟩ : ∃ af : Nat, (ops[ii]).1 = (af : Int) := ⟨(ops[ii]).1.toNat, by omega⟩
    have hafn : (ops[ii]).1.toNat = af := by omega
    have haf3 : 1 ≤ af ∧ af ≤ 3 := by omega
    rw [haf2] at e0
    have HMEM := Lib.hid (List.getElem_mem hil)
    have HPT : Hid (∀ X, TchP (fun q => q = g) w X → opT.Pt X (.pointer (some ⟨ob, oo + ii * 2, none⟩)) ops[ii]) := fun X hX => pt_elem (E := opT) (HOPS.out X hX).rd hil
    have HDN : Hid (∀ T'' : List (List Int), (∀ l ∈ T1, l ∈ T'') → (∀ k : Nat, (k : Int) < (R.length : Int) ^ af → makes s ops[ii] ((ar : Int), R) k ∈ T'') → ∀ j (hj : j < ops.length), j < ii + 1 → ∀ k : Nat, (k : Int) < (R.length : Int) ^ (ops[j]).1.toNat → makes s ops[j] ((ar : Int), R) k ∈ T'') := fun T'' h1 h2 j hj hlt k hk => by
     by_cases e : j = ii
     ·subst e; rw [hafn] at hk; exact h2 k hk
     ·exact h1 _ (HDONE.out j hj (by omega) k hk)
    have HFO := Lib.hid hfo
    have HAF := Lib.hid haf2
    have HAFN := Lib.hid hafn
    generalize ops[ii] = f at HFO HAF HAFN HMEM HPT HDN
    obtain ⟨Mf, hMf⟩ : ∃ Mf : Nat, (R.length : Int) ^ af = (Mf : Int) := ⟨((R.length : Int) ^ af).toNat, by have := pow_nn (s := (R.length : Int)) (by omega) af; omega⟩
    have HMF := Lib.hid hMf
    have hMle : (Mf : Int) ≤ 1000000000000000 := by rw [← hMf]; exact pow_le (by omega) (by omega) (by omega)
    have HR0 : Hid (0 < Mf → 0 < R.length) := fun h => by
     rcases Nat.eq_zero_or_pos R.length with h0 | h0
     ·rw [h0, show af = (af - 1) + 1 by omega, Int.pow_succ] at hMf
      simp at hMf
      omega
     ·exact h0
    clear hfo haf haf2 hafn hMf HDONE hoc
    go_wp2_with fail
    refine (l01Power_any _ (R.length : Int) (af : Int) (by omega) (by omega) (by omega)).mono ?_
    rintro e _ ⟨rfl, rfl⟩
    rw [Int.toNat_natCast, HMF.out]
    clear e0
    go_wp2_with fail
    go_loopw [12] (fun i wr => ∃ (k : Nat) (T'' : List (List Int)), k ≤ Mf ∧ i = .int .i64 k ∧ Set3 wr base bx g s ar N T'' ∧ Mid s ops ar T0 T'' ∧ (∀ l ∈ T1, l ∈ T'') ∧ (∀ k' : Nat, k' < k → makes s f ((ar : Int), R) k' ∈ T'') ∧ TchP (fun q => q = g) wq wr) (fun i _ => Mf - (intOf i).toNat)
    case atStart => exact ⟨0, T1, Nat.zero_le _, rfl, HS2.out, HM2.out, fun _ h => h, fun _ h => absurd h (Nat.not_lt_zero _), TchP.refl _ _⟩
    case round =>
     obtain ⟨k, T2, hk, rfl, hS3, hM3, hsub3, hkd, hT3⟩ := hrel
     obtain ⟨wp, rfl⟩ : ∃ wp : World, wp = wr := ⟨_, rfl⟩
     have HS3 := Lib.hid hS3
     have HM3 := Lib.hid hM3
     have HSUB3 := Lib.hid hsub3
     have HKD := Lib.hid hkd
     have HT3 := Lib.hid hT3
     have hzp := hT3.size
     have d1' := (hT3.cell (i := 1) (b := w1.heap.size) (by omega) (by omega)).trans d1
     have HTP : Hid (TchP (fun q => q = g) w wp) := HTQ.out.then hT3 (fun _ _ h => h)
     clear hS3 hM3 hsub3 hkd hT3
     by_cases hkl : k < Mf
     ·have h0 : 0 < R.length := HR0.out (by omega)
      have e0 : wp.cell? ⟨ob, oo + ii * 2, none⟩ = some (.int .i64 (af : Int)) := by
       have hp := HPT.out wp HTP.out
       obtain ⟨_, _, _, _, hpv, -, -, hp0, -⟩ := pt_pair hp
       simp only [Value.pointer.injEq, Option.some.injEq, Addr.mk.injEq, and_true] at hpv
       rw [← hpv.1, ← hpv.2, HAF.out] at hp0
       exact hp0
      go_wp2_with fail
      refine (l01Digits_any _ (R.length : Int) (k : Int) af (by omega) (by omega) (by omega) (by omega) (by omega)).mono ?_
      rintro e w2 ⟨u, rfl, hfr, hb2⟩
      obtain ⟨dad, dcap, hdv, -, -, hdc⟩ := ints_ex hfr.rd
      obtain rfl : u = _ := by simpa using hdv
      obtain ⟨db, dof, rfl, hdb, hdce⟩ := hdc (by rw [digL_len]; omega)
      rw [digL_len]
      have HDC := Lib.hid hdce
      have hz2 := hb2.size
      have HT2w : Hid (TchP (fun q => q = g) w w2) := HTP.out.then (TchP.of_below hb2 _) (fun _ _ h => h)
      have dd1 := (cellB hb2 (show w1.heap.size < wp.heap.size by omega)).trans d1'
      have HR2 : Hid (rowsT.RdP (fun q => wv.heap.size ≤ q) w2 [.slice a1 R.length c1] R) := ((HRb.out.tchP (HT2.out.then HT3.out (fun _ _ h => h)) (fun q _ h1 h2 => by omega)).below hb2)
      have HS4 : Hid (Set3 w2 base bx g s ar N T2) := HS3.out.below hb2 (Nat.le_refl _)
      obtain ⟨ra, rcp, hrv, -, -, hrc⟩ := slices_ex HR2.out.rd
      obtain ⟨rfl, rfl⟩ : a1 = ra ∧ c1 = rcp := by simpa using hrv
      obtain ⟨rb, ro, rfl, hrb, hrc⟩ := hrc h0
      have HRC := Lib.hid hrc
      clear hdv hdc hdce hfr e0 hrv hrc HS3
      go_wp2_with fail
      go_loopw [15, 14] (fun i q wr => ∃ (j : Nat) (vs : List Value), j ≤ af ∧ i = .int .i64 j ∧ vs.length = j ∧ picked w2 vs (picks R af k) ∧ Bl Ty.val 38 w2.heap.size wr.heap.size wr q vs ∧ Below w2.heap.size w2 wr) (fun i _ _ => af - (intOf i).toNat)
      case atStart => exact ⟨0, [], Nat.zero_le _, rfl, rfl, picked_nil, by simpa using Bl.lit0 (E := Ty.val) (e := 38) (w := w2) (Nat.le_refl _), bA⟩
      case round =>
       obtain ⟨j, vs, hj, rfl, hvl, hpk, hBl, hb3⟩ := hrel
       obtain ⟨wz', rfl⟩ : ∃ wz' : World, wz' = wr := ⟨_, rfl⟩
       have HB := Lib.hid hBl
       have HVL := Lib.hid hvl
       have HPK := Lib.hid hpk
       have hz3 := hb3.size
       clear hBl hvl hpk
       by_cases hjl : j < af
       ·have hjd : j < (digL (R.length : Int) k af).length := by rw [digL_len]; exact hjl
        have hdm := dig_mem (n := (R.length : Int)) (i := (k : Int)) (ar := af) (by omega) (List.getElem_mem hjd)
        obtain ⟨dn, hdn⟩ : ∃ dn : Nat, (digL (R.length : Int) k af)[j] = (dn : Int) := ⟨((digL (R.length : Int) k af)[j]).toNat, by omega⟩
        have hdl : dn < R.length := by omega
        have hDC0 := (HDC.out j hjd).2
        rw [hdn] at hDC0
        have e0 := (hb3.cell hdb).trans hDC0
        obtain ⟨u, hu, hcu⟩ := HRC.out dn hdl
        obtain ⟨ua, un, uc, rfl⟩ := rd_sl hu
        have l1 : w1.heap.size < w2.heap.size := by omega
        have e1 := (hb3.cell (p := ⟨w1.heap.size, 1, none⟩) l1).trans dd1
        have e2 := (hb3.cell hrb).trans hcu
        have HPN : Hid (picked w2 (vs ++ [.slice ua un uc]) (picks R af k)) := by
         have hl : j < (picks R af k).length := by rw [picks_len]; exact hjl
         have hg := picks_get hjd hdn hdl hl
         have hv := HVL.out
         subst hv
         exact picked_snoc HPK.out hl (by rw [hg]; exact hu)
        have hvj : vs.length ≤ 1000000000 := by rw [HVL.out]; omega
        have HE0 := Lib.hid ((hDC0 : w2.cell? ⟨db, dof + j, none⟩ = some (.int .i64 (dn : Int))))
        have HE1 := Lib.hid dd1
        have HE2 := Lib.hid hcu
        clear hdm hdn hu hcu hDC0
        go_wp2_with fail
        refine wp_region_T (fun w' => w'.cell? ⟨w1.heap.size, 1, none⟩ = some (.slice (some ⟨rb, ro, none⟩) R.length c1) ∧ w'.cell? ⟨db, dof + j, none⟩ = some (.int .i64 (dn : Int)) ∧ w'.cell? ⟨rb, ro + dn, none⟩ = some (.slice ua un uc)) [10, 11] (by kernel_rfl) ⟨e1, e0, e2⟩ (fun hHeld => ?_)
        refine wpAnyT_take (i := 0) (v := ?_) rfl (by kernel_rfl) (fun _ _ _ h => h) (Or.inl ⟨by rfl, ?_⟩) (by assumption) ?_
        rotate_left
        ·(intro w hSw; (try dsimp only at hSw); go_simp <;> with_reducible rfl)
        go_simp
        refine wpAnyT_take (i := 1) (v := ?_) rfl (by kernel_rfl) (fun _ _ _ h => h) (Or.inl ⟨by rfl, ?_⟩) (by assumption) ?_
        rotate_left
        ·(intro w hSw; (try dsimp only at hSw); go_simp <;> with_reducible rfl)
        go_simp
        refine wpAnyT_take (i := 2) (v := ?_) rfl (by kernel_rfl) (fun _ _ _ h => h) (Or.inl ⟨by rfl, ?_⟩) (by assumption) ?_
        rotate_left
        ·(intro w hSw; (try dsimp only at hSw); go_simp <;> with_reducible rfl)
        go_simp
        refine wpAnyT_take (i := 3) (v := ?_) rfl (by kernel_rfl) (fun _ _ _ h => h) (Or.inl ⟨by rfl, ?_⟩) (by assumption) ?_
        rotate_left
        ·(intro w hSw; (try dsimp only at hSw); go_simp <;> with_reducible rfl)
        go_simp
        refine wpAnyT_take (i := 4) (v := ?_) rfl (by kernel_rfl) (fun _ _ _ h => h) (Or.inl ⟨by rfl, ?_⟩) (by assumption) ?_
        rotate_left
        ·(intro w hSw; (try dsimp only at hSw); go_simp <;> with_reducible rfl)
        go_simp
        refine wpAnyT_take (i := 5) (v := ?_) rfl (by kernel_rfl) (fun _ _ _ h => h) (Or.inl ⟨by rfl, ?_⟩) (by assumption) ?_
        rotate_left
        ·(intro w hSw; (try dsimp only at hSw); go_simp <;> with_reducible rfl)
        go_simp
        refine wpAnyT_take (i := 6) (v := ?_) rfl (by kernel_rfl) (fun _ _ _ h => h) (Or.inl ⟨by rfl, ?_⟩) (by assumption) ?_
        rotate_left
        ·(intro w hSw; (try dsimp only at hSw); go_simp <;> with_reducible rfl)
        go_simp
        refine wpAnyT_take (i := 7) (v := ?_) rfl (by kernel_rfl) (fun _ _ _ h => h) (Or.inl ⟨by rfl, ?_⟩) (by assumption) ?_
        rotate_left
        ·(intro w hSw; (try dsimp only at hSw); go_simp <;> with_reducible rfl)
        go_simp
        refine wpAnyT_take (i := 8) (v := ?_) rfl (by kernel_rfl) (fun _ _ _ h => h) (Or.inl ⟨by rfl, ?_⟩) (by assumption) ?_
        rotate_left
        ·(intro w hSw; (try dsimp only at hSw); go_simp <;> with_reducible rfl)
        go_simp
        refine wpAnyT_one (i := 9) rfl (by kernel_rfl) (fun K hK => ?_)
        go_simp
        refine hK.out _ _ ⟨by go_keep, by go_keep, by go_keep⟩ (fun hHeld => ?_)
        clear hK K
        refine wpAnyT_last (i := 10) rfl (by kernel_rfl) (by kernel_rfl) (fun K hK => ?_)
        refine step_push (E := Ty.val) _ rfl _ _ 29 38 rfl elInt64SS rfl (HB.out.below (bD.alloc (by simp) _) (Nat.le_refl _)) rfl news1 (fr_val rfl) hvj (by decide) hz3 (by simp) ?_
        intro v1 wz hB1 hg1 _
        have hbz : Below w2.heap.size w2 wz := (hb3.trans (((bD (w := wz')).alloc (by simp) _).mono hz3)).grown hg1 (by simp; omega) (fun q hq => HB.out.own hq)
        have HB1 := Lib.hid hB1
        clear hB1 hg1
        refine hK.out _ _ ?_
        clear hK K
        refine wpAnyT_last (i := 11) rfl (by kernel_rfl) (by kernel_rfl) (fun K hK => ?_)
        go_simp
        refine hK.out _ _ ?_
        clear hK K
        refine wpAnyT_done (by kernel_rfl) ?_ _
        go_simp
        go_wp2_with fail
        go_roundw
        case rel => exact ⟨j + 1, _, by omega, by go_num, by rw [List.length_append, HVL.out]; rfl, HPN.out, HB1.out, hbz⟩
        case measure => simp [intOf]; omega
       ·obtain rfl : j = af := by omega
        have hfv := HB.out.fr (by rw [HVL.out]; unfold capMax; omega)
        obtain ⟨lad, lcap, hqv, -, -, hlc⟩ := Ty.slice_ex hfv.rd
        simp only [List.cons.injEq, and_true] at hqv
        subst hqv
        have HLR := Lib.hid (rows_of_vals hfv.rd (by rw [HVL.out, picks_len]) (fun i h h' => (HPK.out.2 i h h').below hb3))
        rw [HVL.out] at HLR
        rw [HVL.out]
        clear hfv hlc
        have HTO := Lib.hid (picks_ok HROK.out HFO.out h0 (k : Int))
        rw [HAFN.out, show (((ar : Int), R) : Int × List (List Int)).1.toNat = ar by simp] at HTO
        have HT3w : Hid (TchP (fun q => q = g) w wz') := HT2w.out.then (TchP.of_below hb3 _) (fun _ _ h => h)
        go_wp2_with fail
        refine (l02Make_any _ (HPT.out wz' HT3w.out) HLR.out HFO.out HTO.out (by omega)).mono ?_
        rintro e w4 ⟨t, rfl, hft, hb4⟩
        obtain ⟨ta, tn, tc, rfl⟩ := rd_sl hft.rd
        have HTR := Lib.hid hft.rd
        have HMK : Hid (madeL s f.2 (picks R j k) ar = makes s f ((ar : Int), R) k) := by
         unfold Hid
         rw [makes, HAFN.out]
         simp only [Int.toNat_natCast]
        have HTI := Lib.hid (madeL_in HFO.out HTO.out)
        have HCL : Hid (Clo s ops ar T0 (madeL s f.2 (picks R j k) ar)) := .step HMEM.out (by rw [picks_len, HAF.out]) (fun l hl => by
         obtain ⟨z, hz, rfl⟩ := List.mem_map.1 hl
         obtain ⟨z1, z2⟩ := dig_mem (by omega) hz
         have hzl : z.toNat < R.length := by omega
         rw [List.getD_eq_getElem?_getD, List.getElem?_eq_getElem hzl]
         have hmr : R[z.toNat] ∈ R := List.getElem_mem hzl
         have hmr2 : R[z.toNat] ∈ setR s ar N T := by rw [← HR.out]; exact hmr
         exact HM1.out.2.2 _ ((setR_mem hs4.1 HN.out HM1.out.1).1 hmr2))
        have hb24 : Below w2.heap.size w2 w4 := hb3.trans (hb4.mono hz3)
        have HS5 : Hid (Set3 w4 base bx g s ar N T2) := HS4.out.below hb24 (Nat.le_refl _)
        have hz4 := hb4.size
        clear hft HS4
        go_wp2_with fail
        refine (put_any w4 HS5.out hs4 (by omega) HN.out HTR.out HTI.out.1 HTI.out.2).mono ?_
        rintro e w5 ⟨rfl, hS5, hT5⟩
        have HS6 := Lib.hid hS5
        have HT5 : Hid (TchP (fun q => q = g) wq w5) := ((HT3.out.then (TchP.of_below hb2 _) (fun _ _ h => h)).then (TchP.of_below (hb24.mono (Nat.le_refl _)) _) (fun _ _ h => h)).then hT5 (fun _ _ h => h)
        have HM6 := Lib.hid (HM3.out.add HTI.out HCL.out)
        rw [HMK.out] at HS6 HM6
        clear hS5 hT5
        go_wp2_with fail
        go_roundw
        case rel => exact ⟨k + 1, _, by omega, by go_num, HS6.out, HM6.out, fun l hl => List.mem_append_left _ (HSUB3.out l hl), fun k' hk' => by
         by_cases e : k' = k
         ·subst e; exact List.mem_append_right _ (List.mem_singleton.2 rfl)
         ·exact List.mem_append_left _ (HKD.out k' (by omega)), HT5.out⟩
        case measure => simp [intOf]; omega
     ·obtain rfl : k = Mf := by omega
      go_wp2_with fail
      go_roundw
      case rel => exact ⟨ii + 1, T2, by omega, by go_num, HS3.out, HM3.out, fun l hl => HSUB3.out l (HSUB2.out l hl), HDN.out T2 HSUB3.out (fun k' hk' => HKD.out k' (by rw [HMF.out] at hk'; omega)), HT2.out.then HT3.out (fun _ _ h => h)⟩
      case measure => simp [intOf]; omega
   ·obtain rfl : ii = ops.length := by omega
    go_wp2_with fail
    refine (rel_any wq HS2.out hs4 (by omega) HN.out (by omega) (fun l hl => HM2.out.1 l hl)).mono ?_
    rintro e w6 ⟨cs, rfl, hf, hb6⟩
    obtain ⟨R2, hR2⟩ : ∃ R2, R2 = setR s ar N T1 := ⟨_, rfl⟩
    change relT.Fr wq.heap.size w6 cs ((ar : Int), setR s ar N T1) at hf
    rw [← hR2] at hf
    have hRN2 : R2.length ≤ N := by rw [hR2]; exact HRL.out T1
    have HR2 := Lib.hid hR2
    obtain ⟨a6, c6, rfl⟩ := fr_pair hf
    have HF6 := Lib.hid hf
    have hz6 := hb6.size
    have hle : R.length ≤ R2.length := by
     rw [HR.out, hR2]
     exact (round_more HSUB2.out).1
    have HEND : Hid (R2.length = R.length → relOk s ((ar : Int), R2) ∧ ∀ l, l ∈ R2 ↔ Clo s ops ar T0 l) := fun he => by
     have hst : ∀ l, l ∈ R2 ↔ l ∈ T1 := fun l => by rw [HR2.out]; exact setR_mem hs4.1 HN.out HM2.out.1
     obtain ⟨g1, g2⟩ := round_end (ops := ops) hs4.1 HN.out HM2.out.1 HSUB2.out (fun f hf k hk => by
      obtain ⟨j, hj, rfl⟩ := List.mem_iff_getElem.1 hf
      rw [← HR.out] at hk ⊢
      exact HDONE.out j hj hj k hk) (by rw [← HR.out, ← HR2.out]; exact he)
     rw [← HR2.out] at g2
     exact ⟨by rw [HR2.out]; exact relL_ok HS.out har HN.out, fun l => clo_closed HO.out (fun l hl => (hst l).2 (HM2.out.2.1 l hl)) (fun l hl => HM2.out.2.2 l ((hst l).1 hl)) g2⟩
    clear hf hR2
    replace d0 := (cellB hb6 (show w1.heap.size < wq.heap.size by omega)).trans d0
    replace d1 := (cellB hb6 (show w1.heap.size < wq.heap.size by omega)).trans d1
    replace d2 := (frozenB hb6 (show w1.heap.size < wq.heap.size by omega)).trans d2
    replace d3 := (frozenB hb6 (show w1.heap.size < wq.heap.size by omega)).trans d3
    have HS6 : Hid (Set3 w6 base bx g s ar N T1) := HS2.out.below hb6 (Nat.le_refl _)
    have HT6 : Hid (TchP (fun q => q = g) w w6) := HTQ.out.then (TchP.of_below hb6 _) (fun _ _ h => h)
    have HT61 : Hid (TchP (fun q => q = g) W w6) := ((HT1.out.then (TchP.of_below hbvb _) (fun _ _ h => h)).then HT2.out (fun _ _ h => h)).then (TchP.of_below hb6 _) (fun _ _ h => h)
    clear HS2
    have hgw1 : w1.heap.size ≠ g := by omega
    have HST : ∀ x y : Value, TchP (fun q => q = w1.heap.size) w6 ((w6.setCell ⟨w1.heap.size, 0, none⟩ x).setCell ⟨w1.heap.size, 1, none⟩ y) := fun x y => (TchP.set (O := fun q => q = w1.heap.size) rfl).then (TchP.set (O := fun q => q = w1.heap.size) rfl) (fun _ _ h => h)
    have HSTH := Lib.hid HST
    clear HST
    cases hq : (((R2.length : Nat) : Int) == ((R.length : Nat) : Int))
    ·have hlt : R.length < R2.length := by
      have : ¬ ((R2.length : Int) = (R.length : Int)) := by simpa using hq
      omega
     have HSN := Lib.hid (HS6.out.tch (HSTH.out (.int .i64 (ar : Int)) (.slice a6 R2.length c6)) (by omega) (by omega))
     have HTN : Hid (TchP (fun q => q = g) W ((w6.setCell ⟨w1.heap.size, 0, none⟩ (.int .i64 (ar : Int))).setCell ⟨w1.heap.size, 1, none⟩ (.slice a6 R2.length c6))) := HT61.out.then (HSTH.out _ _) (fun k hk h => by omega)
     have HM7 : Hid (N - (setR s ar N T1).length ≤ N - R2.length) := by unfold Hid; rw [← HR2.out]; exact Nat.le_refl _
     go_wp2_with fail
     go_roundg (N - R2.length)
     case measure => omega
     case rel => exact ⟨T1, HSN.out, HM2.out, HTN.out, HM7.out⟩
    ·have heq : R2.length = R.length := by
      have : ((R2.length : Int) = (R.length : Int)) := by simpa using hq
      omega
     obtain ⟨hok, hmem⟩ := HEND.out heq
     have HOKE := Lib.hid hok
     have HMEME := Lib.hid hmem
     have q0 := (HT61.out.cell (b := w.heap.size) (i := 0) (by omega) (by omega)).trans r0
     have q1 := (HT61.out.cell (b := w.heap.size) (i := 1) (by omega) (by omega)).trans r1
     have q2 := (HT61.out.frozen (b := w.heap.size) (i := 0) (by omega) (by omega)).trans r2
     have q3 := (HT61.out.frozen (b := w.heap.size) (i := 1) (by omega) (by omega)).trans r3
     clear hok hmem heq
     obtain ⟨k0, k1⟩ := set2_cells (x := .int .i64 (ar : Int)) (y := .slice a6 R2.length c6) d0 d1
     have p0 := (World.cell?_setCell_other (w6.setCell ⟨w1.heap.size, 0, none⟩ (.int .i64 (ar : Int))) ⟨w1.heap.size, 1, none⟩ ⟨w.heap.size, 0, none⟩ (.slice a6 R2.length c6) (by first | (simp; done) | (simp; omega))).trans ((World.cell?_setCell_other w6 ⟨w1.heap.size, 0, none⟩ ⟨w.heap.size, 0, none⟩ (.int .i64 (ar : Int)) (by first | (simp; done) | (simp; omega))).trans q0)
     have p1 := (World.cell?_setCell_other (w6.setCell ⟨w1.heap.size, 0, none⟩ (.int .i64 (ar : Int))) ⟨w1.heap.size, 1, none⟩ ⟨w.heap.size, 1, none⟩ (.slice a6 R2.length c6) (by first | (simp; done) | (simp; omega))).trans ((World.cell?_setCell_other w6 ⟨w1.heap.size, 0, none⟩ ⟨w.heap.size, 1, none⟩ (.int .i64 (ar : Int)) (by first | (simp; done) | (simp; omega))).trans q1)
     go_wp2_with fail
     obtain ⟨g0, g1⟩ := set2_cells (x := .int .i64 (ar : Int)) (y := .slice a6 R2.length c6) p0 p1
     refine bodyPost_ret (v := .agg #[.int .i64 (ar : Int), .slice a6 R2.length c6]) (by simp [results, Tryz.results97, go_sem, g0, g1]) rfl ⟨[.int .i64 (ar : Int), .slice a6 R2.length c6], R2, rfl, ?_, HOKE.out, HMEME.out, ?_⟩
     ·exact (fr_set2 (fr_set2 HF6.out (by omega)) (by omega)).mono (by omega)
     ·exact ((HT6.out.then (HSTH.out _ _) (fun k hk h => by omega)).then (TchP.set (O := fun q => q = w.heap.size) rfl) (fun k hk h => by omega)).then (TchP.set (O := fun q => q = w.heap.size) rfl) (fun k hk h => by omega)
end Go.Proofs.YtajmjfbejfiipaaGreat
namespace Go.Proofs.YtajmjfbejfiipaaGreat
open Go.RowKit Go.Sort
end Go.Proofs.YtajmjfbejfiipaaGreat
namespace Go.Proofs.YtajmjfbejfiipaaGreat
open Go.RowKit Go.Sort
/-- where a variable of the formula that is put in goes: its free ones to the atom's, the others behind -/
def putTo (args : List Int) (free behind v : Int) : Int := match decide (v < free) with
 | true => args.getD v.toNat 0
 | false => v + behind
theorem put_lt {args : List Int} {free behind v : Int} (h : v < free) : putTo args free behind v = args.getD v.toNat 0 := by simp [putTo, h]
theorem put_ge {args : List Int} {free behind v : Int} (h : free ≤ v) : putTo args free behind v = v + behind := by
 have : ¬ v < free := by omega
 simp [putTo, this]
/-- one atom replaced: the number of variables, the atoms -/
def repStep (rel : Int) (g : Int × Int × List (Int × List Int)) (s : Int × List (Int × List Int)) (a : Int × List Int) : Int × List (Int × List Int) :=
 if a.1 = rel then (s.1 + (g.2.1 - g.1), s.2 ++ rnL (putTo a.2 g.1 (s.1 - g.1)) g.2.2) else (s.1, s.2 ++ [a])
def repAll (f : Int × Int × List (Int × List Int)) (rel : Int) (g : Int × Int × List (Int × List Int)) (k : Nat) : Int × List (Int × List Int) := (f.2.2.take k).foldl (repStep rel g) (f.2.1, [])
theorem rep_zero {f g : Int × Int × List (Int × List Int)} {rel : Int} : repAll f rel g 0 = (f.2.1, []) := by simp [repAll]
theorem rep_succ {f g : Int × Int × List (Int × List Int)} {rel : Int} {k : Nat} (h : k < f.2.2.length) : repAll f rel g (k + 1) = repStep rel g (repAll f rel g k) f.2.2[k] := by
 unfold repAll
 rw [List.take_succ_eq_append_getElem h, List.foldl_append]
 rfl
theorem rep_no {g : Int × Int × List (Int × List Int)} {rel : Int} {s : Int × List (Int × List Int)} {a : Int × List Int} (h : a.1 ≠ rel) : repStep rel g s a = (s.1, s.2 ++ [a]) := if_neg h
theorem rep_yes {g : Int × Int × List (Int × List Int)} {rel : Int} {s : Int × List (Int × List Int)} {a : Int × List Int} (h : a.1 = rel) : repStep rel g s a = (s.1 + (g.2.1 - g.1), s.2 ++ rnL (putTo a.2 g.1 (s.1 - g.1)) g.2.2) := if_pos h
def repF (f : Int × Int × List (Int × List Int)) (rel : Int) (g : Int × Int × List (Int × List Int)) : Int × Int × List (Int × List Int) := (f.1, repAll f rel g f.2.2.length)
section
variable (t : Int × List (Int × List (List Int))) (f : Int × Int × List (Int × List Int)) (rel : Int) (g : Int × Int × List (Int × List Int))
noncomputable def repOk : Bool := tb (frmOk t f) && tb (frmOk t g)
noncomputable def repC0 : Int := match repOk t f g, inB rel 0 ((t.2.length : Int) - 1), (g.1 != arOf t rel) with
 | false, _, _ => 1
 | true, false, _ => 2
 | true, true, true => 4
 | true, true, false => 0
noncomputable def rplV : Int × Int × List (Int × List Int) := if repC0 t f rel g = 0 then limV (repF f rel g) else frm0
noncomputable def repC : Int := if repC0 t f rel g = 0 then limC (repF f rel g) else repC0 t f rel g
end
section
variable {t : Int × List (Int × List (List Int))} {f : Int × Int × List (Int × List Int)} {rel : Int} {g : Int × Int × List (Int × List Int)}
theorem repC_1 (h : repOk t f g = false) : repC0 t f rel g = 1 := by simp only [repC0, h]
theorem repC_2 (h : repOk t f g = true) (h2 : inB rel 0 ((t.2.length : Int) - 1) = false) : repC0 t f rel g = 2 := by simp only [repC0, h, h2]
theorem repC_4 (h : repOk t f g = true) (h2 : inB rel 0 ((t.2.length : Int) - 1) = true) (h3 : (g.1 != arOf t rel) = true) : repC0 t f rel g = 4 := by simp only [repC0, h, h2, h3]
theorem repC_0 (h : repOk t f g = true) (h2 : inB rel 0 ((t.2.length : Int) - 1) = true) (h3 : (g.1 != arOf t rel) = false) : repC0 t f rel g = 0 := by simp only [repC0, h, h2, h3]
theorem rplV_no (h : repC0 t f rel g ≠ 0) : rplV t f rel g = frm0 ∧ repC t f rel g = repC0 t f rel g := by simp [rplV, repC, h]
theorem rplV_yes (h : repC0 t f rel g = 0) : rplV t f rel g = limV (repF f rel g) ∧ repC t f rel g = limC (repF f rel g) := by simp [rplV, repC, h]
/-- bounds as the loop goes on -/
theorem rep_bd (hf : tb (frmOk t f) = true) (hg : tb (frmOk t g) = true) : ∀ k, k ≤ f.2.2.length → f.2.1 ≤ (repAll f rel g k).1 ∧ (repAll f rel g k).1 ≤ 8 + 8 * k ∧ (repAll f rel g k).2.length ≤ 16 * k ∧ cntOps (repAll f rel g k).2 ≤ 80 * k
 | 0, _ => by rw [rep_zero]; obtain ⟨a1, a2, a3, a4, a5⟩ := frm_bd hf; simp [cntOps, sumL]; omega
 | k + 1, h => by
  have hk : k < f.2.2.length := by omega
  obtain ⟨b1, b2, b3, b4⟩ := rep_bd hf hg k (by omega)
  obtain ⟨a1, a2, a3, a4, a5⟩ := frm_bd hf
  obtain ⟨c1, c2, c3, c4, c5⟩ := frm_bd hg
  have e5 := a5 _ (List.getElem_mem hk)
  rw [rep_succ hk]
  by_cases he : (f.2.2[k]).1 = rel
  ·rw [rep_yes he]
   have := cntOps_bd (xs := g.2.2) fun a ha => (c5 a ha).2
   have hrl : (rnL (putTo (f.2.2[k]).2 g.1 ((repAll f rel g k).1 - g.1)) g.2.2).length = g.2.2.length := rnL_len
   refine ⟨by show _ ≤ _ + (g.2.1 - g.1); omega, by show _ + (g.2.1 - g.1) ≤ _; omega, ?_, ?_⟩
   ·show List.length (_ ++ _) ≤ _
    rw [List.length_append, hrl]; omega
   ·show cntOps (_ ++ _) ≤ _
    rw [cntOps_app, rnL_cnt]; omega
  ·rw [rep_no he]
   refine ⟨by show _ ≤ (repAll f rel g k).1; omega, by show (repAll f rel g k).1 ≤ _; omega, ?_, ?_⟩
   ·show List.length (_ ++ _) ≤ _
    rw [List.length_append, List.length_singleton]; omega
   ·show cntOps (_ ++ _) ≤ _
    rw [cntOps_app]
    have h1 : cntOps [f.2.2[k]] = cntOp1 f.2.2[k] + 0 := rfl
    rw [h1]
    simp only [cntOp1, cntI]
    omega
theorem put_I {args : List Int} {free behind v : Int} (h : ∀ a ∈ args, 0 ≤ a ∧ a ≤ 1000) (hl : free ≤ args.length) (hv : 0 ≤ v ∧ v ≤ 1000) (hb : -1000 ≤ behind ∧ behind ≤ 1000) : I64 (putTo args free behind v) := by
 rcases ilt v free with h4 | h4
 ·rw [put_lt h4]
  have h5 : v.toNat < args.length := by omega
  rw [List.getD_eq_getElem?_getD, List.getElem?_eq_getElem h5]
  have := h _ (List.getElem_mem h5)
  exact I64.small (by simp; omega) (by simp; omega)
 ·rw [put_ge h4]; exact I64.small (by omega) (by omega)
end
theorem ReplaceRel1_any (w : World) (a free behind : Int) {v : Value} {args : List Int} (b1 b2 b3 : Nat) (h1 : w.cell? ⟨b1, 0, none⟩ = some (.int .i64 free)) (h2 : w.cell? ⟨b2, 1, none⟩ = some v) (h3 : w.cell? ⟨b3, 0, none⟩ = some (.int .i64 behind)) (hr : intsT.Rd w [v] args) (h4 : 0 ≤ a ∧ a ≤ 1000) (h5 : free ≤ args.length) (h6 : -1000 ≤ behind ∧ behind ≤ 1000) :
  Calls Tryz.prog 106 #[.int .i64 a, .pointer (some ⟨b1, 0, none⟩), .pointer (some ⟨b2, 0, none⟩), .pointer (some ⟨b3, 0, none⟩)] w fun e w' => e = .returned (.int .i64 (putTo args free behind a)) ∧ w = w' := by
 rcases ilt a free with hc | hc
 ·obtain ⟨n, rfl⟩ : ∃ n : Nat, a = n := ⟨a.toNat, by omega⟩
  have hn : n < args.length := by omega
  obtain ⟨ad, cap, hv, -, -, hcell⟩ := ints_ex hr
  obtain rfl : v = _ := by simpa using hv
  obtain ⟨b, o, rfl, hb, hce⟩ := hcell (by omega)
  have e0 := (hce n hn).2
  have HE : Hid (putTo args free behind (n : Int) = args[n]) := by
   unfold Hid
   rw [put_lt hc, Int.toNat_natCast, List.getD_eq_getElem?_getD, List.getElem?_eq_getElem hn]
   rfl
  clear hcell hce hv hr
  go_enter Tryz.func106, Tryz.ntmps106
  go_wp2_with fail
  go_ret
  exact ⟨ret_int HE.out.symm, rfl⟩
 ·have HE := Lib.hid (put_ge (args := args) (behind := behind) hc)
  clear hr
  go_enter Tryz.func106, Tryz.ntmps106
  go_wp2_with fail
  go_ret
  exact ⟨ret_int HE.out.symm, rfl⟩
theorem rd_one {w : World} {n : Int} {u : Value} {x : List Int} {T : TypeId} {B : Nat} (hI : I64 n) (h : intsT.Rd w [u] x) (hB : B = w.heap.size) : opsT.Rd (w.alloc (.cells #[.int .i64 n, u] T)) [.slice (some ⟨B, 0, none⟩) 1 1] [(n, x)] := by
 subst hB
 obtain ⟨fp, h1⟩ := h
 have hs : Same fp w (w.alloc (.cells #[.int .i64 n, u] T)) := Same.below bA ((Ty.slice Ty.int).lt h1)
 refine ⟨w.heap.size :: fp, some ⟨w.heap.size, 0, none⟩, 1, rfl, Nat.le_refl _, by simp [capMax], .inr ⟨by simp, w.heap.size, 0, fun _ => fp, rfl, by simp, by simp, fun i hi => ?_⟩⟩
 obtain rfl : i = 0 := by simpa using hi
 refine ⟨[.int .i64 n, u], ⟨[u], rfl, hI, (Ty.slice Ty.int).same h1 hs⟩, fun j hj => ?_⟩
 rcases (show j = 0 ∨ j = 1 by simp at hj; omega) with rfl | rfl <;> simp
set_option maxHeartbeats 6400000 in
set_option maxRecDepth 100000 in
theorem ReplaceRel_any (w : World) {cs cf cg : Array Value} {t : Int × List (Int × List (List Int))} {f g : Int × Int × List (Int × List Int)} (h : tplT.Rd w cs.toList t) (hf : frmT.Rd w cf.toList f) {rel : Int} (hg : frmT.Rd w cg.toList g) :
  Calls Tryz.prog 33 #[.agg cs, .agg cf, .int .i64 rel, .agg cg] w (RetAC frmT w (rplV t f rel g) (repC t f rel g)) := by
 have HT0 := Lib.hid h
 have HF0 := Lib.hid hf
 have HG0 := Lib.hid hg
 obtain ⟨v1, hv, hI, htx⟩ := pair_ex h
 obtain rfl := agg_of hv
 obtain ⟨v2, hv2, hIf, hIf2, hfx⟩ := trip_ex hf
 obtain rfl := agg_of hv2
 obtain ⟨v3, hv3, -, -, hgx⟩ := trip_ex hg
 obtain rfl := agg_of hv3
 obtain ⟨ta, tc, htv, -, -, htcell⟩ := pairs_ex htx
 obtain rfl : v1 = _ := by simpa using htv
 obtain ⟨fa, fc, hfv, -, -, hfcell⟩ := pairs_ex hfx
 obtain rfl : v2 = _ := by simpa using hfv
 obtain ⟨ga, gn, gc, rfl⟩ := rd_sl hgx
 have HTC := Lib.hid htcell
 have HFC := Lib.hid hfcell
 have HGX := Lib.hid hgx
 clear h hf hg hv hv2 hv3 hfx hgx htx htv hfv htcell hfcell
 go_enter Tryz.func33, Tryz.ntmps33
 go_wp2_with fail
 generalize hW : World.alloc _ _ = W
 have hbW : Below w.heap.size w W := hW ▸ (((bAA (w := w)).alloc (by simp; omega) _).alloc (by simp; omega) _)
 have hsW : W.heap.size = w.heap.size + 4 := by rw [← hW]; simp
 have t0 : W.cell? ⟨w.heap.size, 0, none⟩ = some (.int .i64 t.1) := by rw [← hW]; simp [go_sem]
 have t1 : W.cell? ⟨w.heap.size, 1, none⟩ = some (.slice ta t.2.length tc) := by rw [← hW]; simp [go_sem]
 have f0 : W.cell? ⟨w.heap.size + 1, 0, none⟩ = some (.int .i64 f.1) := by rw [← hW]; simp [go_sem]
 have f1 : W.cell? ⟨w.heap.size + 1, 1, none⟩ = some (.int .i64 f.2.1) := by rw [← hW]; simp [go_sem]
 have f2 : W.cell? ⟨w.heap.size + 1, 2, none⟩ = some (.slice fa f.2.2.length fc) := by rw [← hW]; simp [go_sem]
 have g0 : W.cell? ⟨w.heap.size + 2, 0, none⟩ = some (.int .i64 g.1) := by rw [← hW]; simp [go_sem]
 have g1 : W.cell? ⟨w.heap.size + 2, 1, none⟩ = some (.int .i64 g.2.1) := by rw [← hW]; simp [go_sem]
 have g2 : W.cell? ⟨w.heap.size + 2, 2, none⟩ = some (.slice ga gn gc) := by rw [← hW]; simp [go_sem]
 have r0 : W.cell? ⟨w.heap.size + 3, 0, none⟩ = some (.int .i64 0) := by rw [← hW]; simp [go_sem]
 have r1 : W.cell? ⟨w.heap.size + 3, 1, none⟩ = some (.int .i64 0) := by rw [← hW]; simp [go_sem]
 have r2 : W.cell? ⟨w.heap.size + 3, 2, none⟩ = some (.slice none 0 0) := by rw [← hW]; simp [go_sem]
 have m0 : W.frozen? ⟨w.heap.size + 3, 0, none⟩ = false := by rw [← hW]; simp [go_sem]
 have m1 : W.frozen? ⟨w.heap.size + 3, 1, none⟩ = false := by rw [← hW]; simp [go_sem]
 have m2 : W.frozen? ⟨w.heap.size + 3, 2, none⟩ = false := by rw [← hW]; simp [go_sem]
 clear hW
 have HBAD : Hid (∀ (w1 : World) (c : Int), Below w.heap.size w w1 → repC0 t f rel g = c → c ≠ 0 → RetAC frmT w (rplV t f rel g) (repC t f rel g) (.returned (.tuple #[.agg #[.int .i64 0, .int .i64 0, .slice none 0 0], .int .i64 c])) (set3 w1 (w.heap.size + 3) (.int .i64 0) (.int .i64 0) (.slice none 0 0))) := by
  intro w1 c hb hc h0
  obtain ⟨e1, e2⟩ := rplV_no (show repC0 t f rel g ≠ 0 by rw [hc]; exact h0)
  exact ⟨[.int .i64 0, .int .i64 0, .slice none 0 0], by rw [e2, hc], by rw [e1]; exact fr_frm0, set3_below hb (by omega)⟩
 refine (ValidFormula_any _ (HT0.out.below hbW) (HF0.out.below hbW)).mono ?_
 rintro e w1 ⟨rfl, hb1⟩
 have hz1 := hb1.size
 have hB1 := bthen hbW hb1
 replace t0 := (cellB hb1 (by omega)).trans t0
 replace t1 := (cellB hb1 (by omega)).trans t1
 replace f0 := (cellB hb1 (by omega)).trans f0
 replace f1 := (cellB hb1 (by omega)).trans f1
 replace f2 := (cellB hb1 (by omega)).trans f2
 replace g0 := (cellB hb1 (by omega)).trans g0
 replace g1 := (cellB hb1 (by omega)).trans g1
 replace g2 := (cellB hb1 (by omega)).trans g2
 replace r0 := (cellB hb1 (by omega)).trans r0
 replace r1 := (cellB hb1 (by omega)).trans r1
 replace r2 := (cellB hb1 (by omega)).trans r2
 replace m0 := (frozenB hb1 (by omega)).trans m0
 replace m1 := (frozenB hb1 (by omega)).trans m1
 replace m2 := (frozenB hb1 (by omega)).trans m2
 cases hT : tb (frmOk t f)
 ·have HR := Lib.hid (repC_1 (rel := rel) (show repOk t f g = false by rw [repOk, hT]; rfl))
  clear hT
  obtain ⟨q0, q1, q2⟩ := set3_cells (x := .int .i64 0) (y := .int .i64 0) (z := .slice none 0 0) r0 r1 r2
  go_wp2_with fail
  exact bodyPost_ret (v := .tuple #[.agg #[.int .i64 0, .int .i64 0, .slice none 0 0], .int .i64 1]) (by simp [results, Tryz.results33, go_sem, q0, q1, q2]) rfl (HBAD.out w1 1 hB1 HR.out (by decide))
 go_wp2_with fail
 refine (ValidFormula_any _ (HT0.out.below hB1) (HG0.out.below hB1)).mono ?_
 rintro e w2 ⟨rfl, hb2⟩
 have hz2 := hb2.size
 have hB2 := bthen hB1 hb2
 replace t0 := (cellB hb2 (by omega)).trans t0
 replace t1 := (cellB hb2 (by omega)).trans t1
 replace f0 := (cellB hb2 (by omega)).trans f0
 replace f1 := (cellB hb2 (by omega)).trans f1
 replace f2 := (cellB hb2 (by omega)).trans f2
 replace g0 := (cellB hb2 (by omega)).trans g0
 replace g1 := (cellB hb2 (by omega)).trans g1
 replace g2 := (cellB hb2 (by omega)).trans g2
 replace r0 := (cellB hb2 (by omega)).trans r0
 replace r1 := (cellB hb2 (by omega)).trans r1
 replace r2 := (cellB hb2 (by omega)).trans r2
 replace m0 := (frozenB hb2 (by omega)).trans m0
 replace m1 := (frozenB hb2 (by omega)).trans m1
 replace m2 := (frozenB hb2 (by omega)).trans m2
 obtain ⟨q0, q1, q2⟩ := set3_cells (x := .int .i64 0) (y := .int .i64 0) (z := .slice none 0 0) r0 r1 r2
 cases hT2 : tb (frmOk t g)
 ·have HR := Lib.hid (repC_1 (rel := rel) (show repOk t f g = false by rw [repOk, hT, hT2]; rfl))
  clear hT hT2
  go_wp2_with fail
  exact bodyPost_ret (v := .tuple #[.agg #[.int .i64 0, .int .i64 0, .slice none 0 0], .int .i64 1]) (by simp [results, Tryz.results33, go_sem, q0, q1, q2]) rfl (HBAD.out w2 1 hB2 HR.out (by decide))
 have hok : repOk t f g = true := by rw [repOk, hT, hT2]; rfl
 have htl6 : t.2.length ≤ 6 := (tb_iff.1 hT).1.2.1
 go_wp2_with fail
 refine (within_any _ _ _ _).mono ?_
 rintro e _ ⟨rfl, rfl⟩
 cases hA : inB rel 0 ((t.2.length : Int) - 1)
 ·have HR := Lib.hid (repC_2 hok hA)
  clear hT hT2 hok hA
  go_wp2_with fail
  exact bodyPost_ret (v := .tuple #[.agg #[.int .i64 0, .int .i64 0, .slice none 0 0], .int .i64 2]) (by simp [results, Tryz.results33, go_sem, q0, q1, q2]) rfl (HBAD.out w2 2 hB2 HR.out (by decide))
 have hA2 := inB_true.1 hA
 obtain ⟨kk, rfl⟩ : ∃ kk : Nat, rel = kk := ⟨rel.toNat, by omega⟩
 have hkk : kk < t.2.length := by omega
 obtain ⟨tb0, to0, rfl, htb, hte⟩ := HTC.out (by omega)
 obtain ⟨_, _, _, he0, -⟩ := hte kk hkk
 have tt := (hB2.cell htb).trans he0
 have har := arOf_nat hkk
 cases hE : (g.1 != arOf t (kk : Int))
 rotate_left
 ·have HR := Lib.hid (repC_4 hok hA hE)
  have hE' : (g.1 != (t.2[kk]).1) = true := by rw [← har]; exact hE
  clear hT hT2 hok hA hte he0 hE har
  go_wp2_with fail
  go_quiet (fail)
  generalize hWq : w2.drewN _ = w3
  have hbq : Below w2.heap.size w2 w3 := hWq ▸ (Quiet.drewN w2 _).below
  have hz3 := hbq.size
  replace r0 := (cellB hbq (by omega)).trans r0
  replace r1 := (cellB hbq (by omega)).trans r1
  replace r2 := (cellB hbq (by omega)).trans r2
  replace m0 := (frozenB hbq (by omega)).trans m0
  replace m1 := (frozenB hbq (by omega)).trans m1
  replace m2 := (frozenB hbq (by omega)).trans m2
  clear hWq
  obtain ⟨q0, q1, q2⟩ := set3_cells (x := .int .i64 0) (y := .int .i64 0) (z := .slice none 0 0) r0 r1 r2
  go_wp2_with fail
  exact bodyPost_ret (v := .tuple #[.agg #[.int .i64 0, .int .i64 0, .slice none 0 0], .int .i64 4]) (by simp [results, Tryz.results33, go_sem, q0, q1, q2]) rfl (HBAD.out w3 4 (bthen hB2 hbq) HR.out (by decide))
 have HR := Lib.hid (rplV_yes (repC_0 hok hA hE))
 have hE' : (g.1 != (t.2[kk]).1) = false := by rw [← har]; exact hE
 have HAR := Lib.hid har
 have HGE : Hid (g.1 = arOf t (kk : Int)) := by unfold Hid; simpa using hE
 clear hok hA hte he0 hE har q0 q1 q2
 go_wp2_with fail
 go_quiet (fail)
 generalize hWq : w2.drewN _ = w3
 have hbq : Below w2.heap.size w2 w3 := hWq ▸ (Quiet.drewN w2 _).below
 have hz3 := hbq.size
 have hB3 := bthen hB2 hbq
 replace f0 := (cellB hbq (by omega)).trans f0
 replace f1 := (cellB hbq (by omega)).trans f1
 replace f2 := (cellB hbq (by omega)).trans f2
 replace g0 := (cellB hbq (by omega)).trans g0
 replace g1 := (cellB hbq (by omega)).trans g1
 replace g2 := (cellB hbq (by omega)).trans g2
 replace r0 := (cellB hbq (by omega)).trans r0
 replace r1 := (cellB hbq (by omega)).trans r1
 replace r2 := (cellB hbq (by omega)).trans r2
 replace m0 := (frozenB hbq (by omega)).trans m0
 replace m1 := (frozenB hbq (by omega)).trans m1
 replace m2 := (frozenB hbq (by omega)).trans m2
 obtain ⟨a1, a2, a3, a4, a5⟩ := frm_bd hT
 obtain ⟨c1, c2, c3, c4, c5⟩ := frm_bd hT2
 have A5 := Lib.hid a5
 have C5 := Lib.hid c5
 have HBD := Lib.hid (rep_bd (rel := (kk : Int)) hT hT2)
 have HTO := Lib.hid (tb_iff.1 hT)
 have hl1 : w.heap.size + 1 < w3.heap.size := by omega
 clear hWq hT hT2 a5 c5 t0 t1 tt hE' HT0 HF0 HG0 HTC htb
 go_wp2_with fail
 generalize hWa : World.alloc w3 _ = wa
 have hba : Below w3.heap.size w3 wa := hWa ▸ bA
 have hsa : wa.heap.size = w3.heap.size + 1 := by rw [← hWa]; simp
 have y0 : wa.cell? ⟨w3.heap.size, 0, none⟩ = some (.int .i64 f.1) := by rw [← hWa]; simp
 have y1 : wa.cell? ⟨w3.heap.size, 1, none⟩ = some (.int .i64 f.2.1) := by rw [← hWa]; simp
 have y2 : wa.cell? ⟨w3.heap.size, 2, none⟩ = some (.slice none 0 0) := by rw [← hWa]; simp
 have n1 : wa.frozen? ⟨w3.heap.size, 1, none⟩ = false := by rw [← hWa]; simp
 have n2 : wa.frozen? ⟨w3.heap.size, 2, none⟩ = false := by rw [← hWa]; simp
 replace g0 := (cellB hba (by omega)).trans g0
 replace g1 := (cellB hba (by omega)).trans g1
 replace g2 := (cellB hba (by omega)).trans g2
 replace r0 := (cellB hba (by omega)).trans r0
 replace r1 := (cellB hba (by omega)).trans r1
 replace r2 := (cellB hba (by omega)).trans r2
 replace m0 := (frozenB hba (by omega)).trans m0
 replace m1 := (frozenB hba (by omega)).trans m1
 replace m2 := (frozenB hba (by omega)).trans m2
 have hBa := bthen hB3 hba
 clear hWa
 go_loopw [54] (fun i wr => ∃ (k : Nat) (v : Value), k ≤ f.2.2.length ∧ i = .int .i64 k ∧ Bl opT 69 (w3.heap.size + 1) wr.heap.size wr v (repAll f kk g k).2 ∧ wr.cell? ⟨w3.heap.size, 2, none⟩ = some v ∧ wr.cell? ⟨w3.heap.size, 0, none⟩ = some (.int .i64 f.1) ∧ wr.cell? ⟨w3.heap.size, 1, none⟩ = some (.int .i64 (repAll f kk g k).1) ∧ wr.frozen? ⟨w3.heap.size, 1, none⟩ = false ∧ wr.frozen? ⟨w3.heap.size, 2, none⟩ = false ∧ Below w3.heap.size wa wr ∧ w3.heap.size + 1 ≤ wr.heap.size) (fun i _ => f.2.2.length - (intOf i).toNat)
 case atStart => exact ⟨0, _, Nat.zero_le _, rfl, by rw [rep_zero]; simpa using Bl.nil, y2, y0, by rw [rep_zero]; exact y1, n1, n2, Below.refl _ _, by omega⟩
 case round =>
  obtain ⟨k, v, hk, rfl, hBv, z2, z0, z1, zn1, zn2, hbe, hse⟩ := hrel
  obtain ⟨b1, b2, b3, b4⟩ := HBD.out k hk
  obtain ⟨sv, sl, hrs⟩ : ∃ sv sl, repAll f kk g k = (sv, sl) := ⟨_, _, rfl⟩
  have hrs1 : (repAll f kk g k).1 = sv := by rw [hrs]
  have hrs2 : (repAll f kk g k).2 = sl := by rw [hrs]
  rw [hrs1] at z1 b1 b2
  rw [hrs2] at hBv b3 b4
  have HRS := Lib.hid hrs
  obtain ⟨av0, nv0, cv0, rfl⟩ := ex_slice (hBv.fr (by unfold capMax; omega))
  have HBv := Lib.hid hBv
  have hbw : Below w.heap.size w wr := hBa.trans (hbe.mono (by omega))
  have hbw1 : Below (w.heap.size + 4) w3 wr := (hba.mono (by omega)).trans (hbe.mono (by omega))
  clear hBv y0 y1 y2 n1 n2 hrs hrs1 hrs2
  have G0 := (cellB hbe (by omega)).trans g0
  have G1 := (cellB hbe (by omega)).trans g1
  have G2 := (cellB hbe (by omega)).trans g2
  by_cases hkl : k < f.2.2.length
  ·obtain ⟨b, o, rfl, hb, hce⟩ := HFC.out (by omega)
   obtain ⟨uk, huk, hIk, e0, e1⟩ := hce k hkl
   obtain ⟨ak, nk, ck, rfl⟩ := rd_sl huk
   have d0 := (hbw.cell hb).trans e0
   have d1 := (hbw.cell hb).trans e1
   have HU := Lib.hid (huk.below hbw)
   have HA5 := Lib.hid (A5.out _ (List.getElem_mem hkl))
   have HSUC := Lib.hid (rep_succ (rel := (kk : Int)) (g := g) hkl)
   have hlb : b < wr.heap.size := Nat.lt_of_lt_of_le hb (by omega)
   clear hce huk e0 e1
   by_cases hrel' : (f.2.2[k]).1 = (kk : Int)
   ·have hne : ((f.2.2[k]).1 != (kk : Int)) = false := by simpa using hrel'
    have HST : Hid (repAll f kk g (k + 1) = (sv + (g.2.1 - g.1), sl ++ rnL (putTo (f.2.2[k]).2 g.1 (sv - g.1)) g.2.2)) := by unfold Hid; rw [HSUC.out, HRS.out, rep_yes hrel']
    have hal : ((f.2.2[k]).2.length : Int) = g.1 := by
     have h1 := (HTO.out.2.2 _ (List.getElem_mem hkl)).2.1
     rw [hrel', ← HGE.out] at h1
     exact h1
    have hal2 : g.1 ≤ ((f.2.2[k]).2.length : Int) := by omega
    have hl4 : w.heap.size + 2 < wr.heap.size := by omega
    have hl5 : w3.heap.size < wr.heap.size := by omega
    clear hrel' hal
    go_wp2_with fail
    generalize hWb : World.alloc (World.alloc wr _) _ = wb
    have hbb : Below wr.heap.size wr wb := hWb ▸ bAA
    have hsb : wb.heap.size = wr.heap.size + 2 := by rw [← hWb]; simp
    have x1 : wb.cell? ⟨wr.heap.size, 1, none⟩ = some (.slice ak nk ck) := by rw [← hWb]; simp
    have xb : wb.cell? ⟨wr.heap.size + 1, 0, none⟩ = some (.int .i64 (sv - g.1)) := by rw [← hWb]; simp
    replace z2 := (cellB hbb (by omega)).trans z2
    replace z0 := (cellB hbb (by omega)).trans z0
    replace z1 := (cellB hbb (by omega)).trans z1
    replace G0 := (cellB hbb (by omega)).trans G0
    replace G1 := (cellB hbb (by omega)).trans G1
    replace G2 := (cellB hbb (by omega)).trans G2
    replace zn1 := (frozenB hbb (by omega)).trans zn1
    replace zn2 := (frozenB hbb (by omega)).trans zn2
    have HUB := Lib.hid (HU.out.below hbb)
    have HGB := Lib.hid (HGX.out.below (bthen hbw hbb))
    have hl2 : w3.heap.size < wb.heap.size := by omega
    have hl3 : w.heap.size + 2 < wb.heap.size := by omega
    clear hWb d0 d1
    refine wp_region_T (fun w' => w'.cell? ⟨w3.heap.size, 2, none⟩ = some (.slice av0 nv0 cv0) ∧ w'.cell? ⟨w.heap.size + 2, 2, none⟩ = some (.slice ga gn gc)) [6, 8] (by kernel_rfl) ⟨z2, G2⟩ (fun hHeld => ?_)
    refine wpAnyT_take (i := 0) (v := ?_) rfl (by kernel_rfl) (fun _ _ _ h => h) (Or.inl ⟨by rfl, ?_⟩) (by assumption) ?_
    rotate_left
    ·(intro w hSw; (try dsimp only at hSw); go_simp <;> with_reducible rfl)
    try simp only [Act.put]
    refine wpAnyT_take (i := 1) (v := ?_) rfl (by kernel_rfl) (fun _ _ _ h => h) (Or.inl ⟨by rfl, ?_⟩) (by assumption) ?_
    rotate_left
    ·(intro w hSw; (try dsimp only at hSw); go_simp <;> with_reducible rfl)
    try simp only [Act.put]
    refine wpAnyT_take (i := 2) (v := ?_) rfl (by kernel_rfl) (fun _ _ _ h => h) (Or.inl ⟨by rfl, ?_⟩) (by assumption) ?_
    rotate_left
    ·(intro w hSw; (try dsimp only at hSw); go_simp <;> with_reducible rfl)
    try simp only [Act.put]
    refine wpAnyT_take (i := 3) (v := ?_) rfl (by kernel_rfl) (fun _ _ _ h => h) (Or.inl ⟨by rfl, ?_⟩) (by assumption) ?_
    rotate_left
    ·(intro w hSw; (try dsimp only at hSw); go_simp <;> with_reducible rfl)
    try simp only [Act.put]
    refine wpAnyT_take (i := 4) (v := ?_) rfl (by kernel_rfl) (fun _ _ _ h => h) (Or.inl ⟨by rfl, ?_⟩) (by assumption) ?_
    rotate_left
    ·(intro w hSw; (try dsimp only at hSw); go_simp <;> with_reducible rfl)
    try simp only [Act.put]
    refine wpAnyT_one (i := 5) rfl (by kernel_rfl) (fun K hK => ?_)
    go_simp
    go_at_call 104
    have hto : Hid (∀ W a, Below wb.drew.heap.size wb.drew W → (∃ c ∈ g.2.2, a ∈ c.2) → Calls Tryz.prog 106 (#[.int .i64 a] ++ #[.pointer (some ⟨w.heap.size + 2, 0, none⟩), .pointer (some ⟨wr.heap.size, 0, none⟩), .pointer (some ⟨wr.heap.size + 1, 0, none⟩)]) W fun e w' => e = .returned (.int .i64 (putTo (f.2.2[k]).2 g.1 (sv - g.1) a)) ∧ W = w') := by
     intro W' a hW ⟨c, hc, ha⟩
     have h5 := (C5.out c hc).1 a ha
     have hW2 : Below wb.heap.size wb W' := bthen bD hW
     exact ReplaceRel1_any W' a _ _ _ _ _ ((cellB hW2 (by omega)).trans G0) ((cellB hW2 (by omega)).trans x1) ((cellB hW2 (by omega)).trans xb) (HUB.out.below hW2) (by omega) hal2 (by omega)
    have HGH := Lib.hid (show ∀ c ∈ g.2.2, (∀ a ∈ c.2, I64 (putTo (f.2.2[k]).2 g.1 (sv - g.1) a)) ∧ c.2.length ≤ 1000000 from fun c hc => ⟨fun a ha => put_I (fun v hv => by have := HA5.out.1 v hv; omega) hal2 (by have := (C5.out c hc).1 a ha; omega) (by omega), by have := (C5.out c hc).2; omega⟩)
    refine (renamed_any _ (HGB.out.below bD) 106 _ (enters Tryz.func106 (by kernel_rfl) rfl) (putTo (f.2.2[k]).2 g.1 (sv - g.1)) hto HGH.out (by omega)).mono ?_
    rintro e w4 ⟨u4, rfl, hf4, hb4⟩
    obtain ⟨a4, n4, c4, rfl⟩ := ex_slice hf4
    have HF4 := Lib.hid (hf4.mono (base' := wr.heap.size) (by simp; omega))
    have hb4' : Below wb.heap.size wb w4 := bthen bD hb4
    have hz4 := hb4'.size
    replace z2 := (cellB hb4' (by omega)).trans z2
    replace z0 := (cellB hb4' (by omega)).trans z0
    replace z1 := (cellB hb4' (by omega)).trans z1
    replace G0 := (cellB hb4' (by omega)).trans G0
    replace G1 := (cellB hb4' (by omega)).trans G1
    replace G2 := (cellB hb4' (by omega)).trans G2
    replace zn1 := (frozenB hb4' (by omega)).trans zn1
    replace zn2 := (frozenB hb4' (by omega)).trans zn2
    clear hf4 hb4 hto
    dsimp only
    refine hK.out _ _ ⟨z2, G2⟩ (fun hHeld => ?_)
    clear hK K
    refine wpAnyT_last (i := 6) rfl (by kernel_rfl) (by kernel_rfl) (fun K hK => ?_)
    refine step_pushAll (E := opT) _ rfl _ _ 45 69 rfl elAtomS rfl (HBv.out.below (hbb.trans (hb4'.mono (by omega))) (Nat.le_refl _)) rfl HF4.out (by rw [rnL_len]; omega) (by decide) hse (by omega) ?_
    intro v5 w5 hB5 hg5 _
    obtain ⟨a5, n5, c5, rfl⟩ := ex_slice (hB5.fr (by rw [List.length_append, rnL_len]; unfold capMax; omega))
    have HB5 := Lib.hid hB5
    have hb5 : Below (w3.heap.size + 1) w4 w5 := (Below.refl _ w4).grown hg5 (by omega) (fun q hq => HBv.out.own hq)
    have hz5 := hb5.size
    replace z2 := (cellB hb5 (by omega)).trans z2
    replace z0 := (cellB hb5 (by omega)).trans z0
    replace z1 := (cellB hb5 (by omega)).trans z1
    replace G0 := (cellB hb5 (by omega)).trans G0
    replace G1 := (cellB hb5 (by omega)).trans G1
    replace zn1 := (frozenB hb5 (by omega)).trans zn1
    replace zn2 := (frozenB hb5 (by omega)).trans zn2
    clear hB5 hg5 x1 xb G2
    refine hK.out _ _ ?_
    clear hK K
    refine wpAnyT_any (i := 7) (v := ?_) rfl (by kernel_rfl) (fun _ _ _ h => h) (Or.inl ⟨by rfl, ?_⟩) (by first | exact fun _ => by assumption | (intro hp; exact absurd hp (by rw [show pastB _ _ = true by kernel_rfl]; simp))) ?_
    rotate_left
    ·(intro w hSw; (try dsimp only at hSw); go_simp <;> with_reducible rfl)
    try simp only [Act.put]
    refine wpAnyT_last (i := 8) rfl (by kernel_rfl) (by kernel_rfl) (fun K hK => ?_)
    go_simp
    refine hK.out _ _ ?_
    clear hK K
    refine wpAnyT_done (by kernel_rfl) ?_ _
    go_simp
    generalize hW6 : World.setCell w5 _ _ = w6
    have hb6 : Below w3.heap.size w5 w6 := hW6 ▸ ((Below.refl _ w5).setCell (by simp) _)
    have hz6 : w6.heap.size = w5.heap.size := by rw [← hW6, size_set]
    have i0 : w6.cell? ⟨w3.heap.size, 0, none⟩ = some (.int .i64 f.1) := by rw [← hW6]; exact (World.cell?_setCell_other _ _ _ _ (by simp)).trans z0
    have i1 : w6.cell? ⟨w3.heap.size, 1, none⟩ = some (.int .i64 sv) := by rw [← hW6]; exact (World.cell?_setCell_other _ _ _ _ (by simp)).trans z1
    have i2 : w6.cell? ⟨w3.heap.size, 2, none⟩ = some (.slice a5 n5 c5) := by rw [← hW6]; exact World.cell?_setCell_same _ _ _ z2
    have j1 : w6.frozen? ⟨w3.heap.size, 1, none⟩ = false := by rw [← hW6, World.frozen?_setCell]; exact zn1
    have j2 : w6.frozen? ⟨w3.heap.size, 2, none⟩ = false := by rw [← hW6, World.frozen?_setCell]; exact zn2
    have HB6 : Hid (Bl opT 69 (w3.heap.size + 1) w6.heap.size w6 (.slice a5 n5 c5) (sl ++ rnL (putTo (f.2.2[k]).2 g.1 (sv - g.1)) g.2.2)) := by
     unfold Hid
     rw [hz6, ← hW6]
     exact HB5.out.sameB (fun q hq1 hq2 => Below.heap_setCell _ _ _ _ (by simp; omega))
    replace G0 := (cellB hb6 (by omega)).trans G0
    replace G1 := (cellB hb6 (by omega)).trans G1
    clear hW6 z0 z1 z2 zn1 zn2
    go_wp2_with fail
    go_roundw
    case rel => exact ⟨k + 1, _, by omega, by go_num, by rw [size_set, HST.out]; exact HB6.out.sameB (fun q hq1 hq2 => Below.heap_setCell _ _ _ _ (by simp; omega)), (World.cell?_setCell_other _ _ _ _ (by simp)).trans i2, (World.cell?_setCell_other _ _ _ _ (by simp)).trans i0, by rw [HST.out]; exact World.cell?_setCell_same _ _ _ i1, (World.frozen?_setCell _ _ _ _).trans j1, (World.frozen?_setCell _ _ _ _).trans j2, (hbe.trans ((hbb.mono (by omega)).trans ((hb4'.mono (by omega)).trans ((hb5.mono (by omega)).trans hb6)))).setCell (by simp) _, by rw [size_set]; omega⟩
    case measure => simp [intOf]; omega
   ·have hne : ((f.2.2[k]).1 != (kk : Int)) = true := by simpa using hrel'
    have HST : Hid (repAll f kk g (k + 1) = (sv, sl ++ [f.2.2[k]])) := by unfold Hid; rw [HSUC.out, HRS.out, rep_no hrel']
    clear hrel'
    go_wp2_with fail
    generalize hWb : World.alloc wr _ = wb
    have hbb : Below wr.heap.size wr wb := hWb ▸ bA
    have hsb : wb.heap.size = wr.heap.size + 1 := by rw [← hWb]; simp
    have x0 : wb.cell? ⟨wr.heap.size, 0, none⟩ = some (.int .i64 (f.2.2[k]).1) := by rw [← hWb]; simp
    have x1 : wb.cell? ⟨wr.heap.size, 1, none⟩ = some (.slice ak nk ck) := by rw [← hWb]; simp
    replace z2 := (cellB hbb (by omega)).trans z2
    replace z0 := (cellB hbb (by omega)).trans z0
    replace z1 := (cellB hbb (by omega)).trans z1
    replace zn1 := (frozenB hbb (by omega)).trans zn1
    replace zn2 := (frozenB hbb (by omega)).trans zn2
    have hl2 : w3.heap.size < wb.heap.size := by omega
    have hl3 : wr.heap.size < wb.heap.size := by omega
    clear hWb d0 d1
    refine wp_region_T (fun w' => w'.cell? ⟨w3.heap.size, 2, none⟩ = some (.slice av0 nv0 cv0) ∧ w'.cell? ⟨wr.heap.size, 0, none⟩ = some (.int .i64 (f.2.2[k]).1) ∧ w'.cell? ⟨wr.heap.size, 1, none⟩ = some (.slice ak nk ck)) [5, 7] (by kernel_rfl) ⟨z2, x0, x1⟩ (fun hHeld => ?_)
    refine wpAnyT_take (i := 0) (v := ?_) rfl (by kernel_rfl) (fun _ _ _ h => h) (Or.inl ⟨by rfl, ?_⟩) (by assumption) ?_
    rotate_left
    ·(intro w hSw; (try dsimp only at hSw); go_simp <;> with_reducible rfl)
    try simp only [Act.put]
    refine wpAnyT_take (i := 1) (v := ?_) rfl (by kernel_rfl) (fun _ _ _ h => h) (Or.inl ⟨by rfl, ?_⟩) (by assumption) ?_
    rotate_left
    ·(intro w hSw; (try dsimp only at hSw); go_simp <;> with_reducible rfl)
    try simp only [Act.put]
    refine wpAnyT_take (i := 2) (v := ?_) rfl (by kernel_rfl) (fun _ _ _ h => h) (Or.inl ⟨by rfl, ?_⟩) (by assumption) ?_
    rotate_left
    ·(intro w hSw; (try dsimp only at hSw); go_simp <;> with_reducible rfl)
    try simp only [Act.put]
    refine wpAnyT_one (i := 3) rfl (by kernel_rfl) (fun K hK => ?_)
    go_simp
    refine hK.out _ _ ⟨by go_keep, by go_keep, by go_keep⟩ (fun hHeld => ?_)
    clear hK K
    refine wpAnyT_one (i := 4) rfl (by kernel_rfl) (fun K hK => ?_)
    go_simp
    go_at_call 104
    have HRD : Hid (opsT.Rd (wb.alloc (.cells #[.int .i64 (f.2.2[k]).1, .slice ak nk ck] 69)).drew [.slice (some ⟨wr.heap.size + 1, 0, none⟩) 1 1] [((f.2.2[k]).1, (f.2.2[k]).2)]) := (rd_one hIk (HU.out.below hbb) hsb.symm).below bD
    refine (renamed_any _ HRD.out 105 #[] (enters Tryz.func105 (by kernel_rfl) rfl) (fun v => v) (fun W' a _ _ => same_any W' a) (fun c hc => by obtain rfl : c = _ := List.mem_singleton.1 hc; exact ⟨fun a ha => I64.small (by have := HA5.out.1 a ha; omega) (by have := HA5.out.1 a ha; omega), by have := HA5.out.2; show (f.2.2[k]).2.length ≤ _; omega⟩) (by simp)).mono ?_
    rintro e w4 ⟨u4, rfl, hf4, hb4⟩
    rw [rnL_id] at hf4
    obtain ⟨a4, n4, c4, rfl⟩ := ex_slice hf4
    have HF4 := Lib.hid (hf4.mono (base' := wr.heap.size) (by simp; omega))
    have hb4' : Below wb.heap.size wb w4 := bthen (bthen bA bD) hb4
    have hz4 := hb4'.size
    replace z2 := (cellB hb4' (by omega)).trans z2
    replace z0 := (cellB hb4' (by omega)).trans z0
    replace z1 := (cellB hb4' (by omega)).trans z1
    replace x0 := (cellB hb4' (by omega)).trans x0
    replace x1 := (cellB hb4' (by omega)).trans x1
    replace zn1 := (frozenB hb4' (by omega)).trans zn1
    replace zn2 := (frozenB hb4' (by omega)).trans zn2
    clear hf4 hb4
    dsimp only
    refine hK.out _ _ ⟨z2, x0, x1⟩ (fun hHeld => ?_)
    clear hK K
    refine wpAnyT_last (i := 5) rfl (by kernel_rfl) (by kernel_rfl) (fun K hK => ?_)
    refine step_pushAll (E := opT) _ rfl _ _ 45 69 rfl elAtomS rfl (HBv.out.below (hbb.trans (hb4'.mono (by omega))) (Nat.le_refl _)) rfl HF4.out (by simp; omega) (by decide) hse (by omega) ?_
    intro v5 w5 hB5 hg5 _
    have hB5' : Bl opT 69 (w3.heap.size + 1) w5.heap.size w5 v5 (sl ++ [f.2.2[k]]) := hB5
    obtain ⟨a5, n5, c5, rfl⟩ := ex_slice (hB5'.fr (by rw [List.length_append]; unfold capMax; simp; omega))
    have HB5 := Lib.hid hB5'
    have hb5 : Below (w3.heap.size + 1) w4 w5 := (Below.refl _ w4).grown hg5 (by omega) (fun q hq => HBv.out.own hq)
    have hz5 := hb5.size
    replace z2 := (cellB hb5 (by omega)).trans z2
    replace z0 := (cellB hb5 (by omega)).trans z0
    replace z1 := (cellB hb5 (by omega)).trans z1
    replace zn1 := (frozenB hb5 (by omega)).trans zn1
    replace zn2 := (frozenB hb5 (by omega)).trans zn2
    clear hB5 hB5' hg5 x0 x1
    refine hK.out _ _ ?_
    clear hK K
    refine wpAnyT_any (i := 6) (v := ?_) rfl (by kernel_rfl) (fun _ _ _ h => h) (Or.inl ⟨by rfl, ?_⟩) (by first | exact fun _ => by assumption | (intro hp; exact absurd hp (by rw [show pastB _ _ = true by kernel_rfl]; simp))) ?_
    rotate_left
    ·(intro w hSw; (try dsimp only at hSw); go_simp <;> with_reducible rfl)
    try simp only [Act.put]
    refine wpAnyT_last (i := 7) rfl (by kernel_rfl) (by kernel_rfl) (fun K hK => ?_)
    go_simp
    refine hK.out _ _ ?_
    clear hK K
    refine wpAnyT_done (by kernel_rfl) ?_ _
    go_simp
    go_wp2_with fail
    go_roundw
    case rel => exact ⟨k + 1, _, by omega, by go_num, by rw [size_set, HST.out]; exact HB5.out.sameB (fun q hq1 hq2 => Below.heap_setCell _ _ _ _ (by simp; omega)), World.cell?_setCell_same _ _ _ z2, (World.cell?_setCell_other _ _ _ _ (by simp)).trans z0, (World.cell?_setCell_other _ _ _ _ (by simp)).trans (by rw [HST.out]; exact z1), (World.frozen?_setCell _ _ _ _).trans zn1, (World.frozen?_setCell _ _ _ _).trans zn2, (hbe.trans ((hbb.mono (by omega)).trans ((hb4'.mono (by omega)).trans (hb5.mono (by omega))))).setCell (by simp) _, by rw [size_set]; omega⟩
    case measure => simp [intOf]; omega
  ·obtain rfl : k = f.2.2.length := by omega
   have HGF : Hid (frmT.Fr (w3.heap.size + 1) wr [.int .i64 f.1, .int .i64 sv, .slice av0 nv0 cv0] (repF f kk g)) := by
    have h1 : repF f kk g = (f.1, sv, sl) := by rw [repF, HRS.out]
    unfold Hid
    rw [h1]
    exact fr_cons hIf (fr_cons (I64.small (by omega) (by omega)) (HBv.out.fr (by unfold capMax; omega)))
   have hl5 : w3.heap.size < wr.heap.size := by omega
   replace r0 := (cellB hbe (by omega)).trans r0
   replace r1 := (cellB hbe (by omega)).trans r1
   replace r2 := (cellB hbe (by omega)).trans r2
   replace m0 := (frozenB hbe (by omega)).trans m0
   replace m1 := (frozenB hbe (by omega)).trans m1
   replace m2 := (frozenB hbe (by omega)).trans m2
   clear HBv
   go_wp2_with fail
   refine (limited_any _ (cs := #[.int .i64 f.1, .int .i64 sv, .slice av0 nv0 cv0]) HGF.out (by omega)).mono ?_
   rintro e w7 ⟨cs7, rfl, hf7, hb7⟩
   obtain ⟨ad7, cap7, rfl⟩ := fr_trip hf7
   have HF7 := Lib.hid hf7
   have hz7 := hb7.size
   replace r0 := (cellB hb7 (by omega)).trans r0
   replace r1 := (cellB hb7 (by omega)).trans r1
   replace r2 := (cellB hb7 (by omega)).trans r2
   replace m0 := (frozenB hb7 (by omega)).trans m0
   replace m1 := (frozenB hb7 (by omega)).trans m1
   replace m2 := (frozenB hb7 (by omega)).trans m2
   clear hf7 z0 z1 z2 zn1 zn2
   obtain ⟨q0, q1, q2⟩ := set3_cells (x := .int .i64 (limV (repF f kk g)).1) (y := .int .i64 (limV (repF f kk g)).2.1) (z := .slice ad7 (limV (repF f kk g)).2.2.length cap7) r0 r1 r2
   have hl7 : w.heap.size + 3 < w7.heap.size := by omega
   go_wp2_with fail
   refine bodyPost_ret (v := .tuple #[.agg #[.int .i64 (limV (repF f kk g)).1, .int .i64 (limV (repF f kk g)).2.1, .slice ad7 (limV (repF f kk g)).2.2.length cap7], .int .i64 (limC (repF f kk g))]) (by simp [results, Tryz.results33, go_sem, q0, q1, q2]) rfl ⟨[.int .i64 (limV (repF f kk g)).1, .int .i64 (limV (repF f kk g)).2.1, .slice ad7 (limV (repF f kk g)).2.2.length cap7], by rw [HR.out.2], ?_, ?_⟩
   ·rw [HR.out.1]
    exact (HF7.out.set3 (by omega)).mono (by omega)
   ·exact set3_below (bthen hbw hb7) (by omega)
end Go.Proofs.YtajmjfbejfiipaaGreat
namespace Go.Proofs.YtajmjfbejfiipaaGreat
open Go.RowKit Go.Sort
theorem clo_keeps {s : Int} {ops : List (Int × List Int)} {ar : Nat} {T M : List (List Int)} (h : ∀ l, l ∈ M ↔ Clo s ops ar T l) {f : Int × List Int} (hf : f ∈ ops) (ho : opOk s f) : keepsP s f ((ar : Int), M) :=
 (keeps_iff ho.2.1.1).2 fun _ hl hts => (h _).2 (.step hf hl fun l hm => (h l).1 (hts l hm))
theorem rel_tup {s : Int} {r : Int × List (List Int)} {ar : Nat} (h : relOk s r) (hr : r.1 = ar) : ∀ l ∈ r.2, tupP s ar l := fun l hl => by
 obtain ⟨i, hi, rfl⟩ := List.mem_iff_getElem.1 hl
 obtain ⟨h1, h2⟩ := (h.2.2 i hi).1
 exact ⟨by omega, h2⟩
theorem P6Pick_any (w : World) {v : Value} {code : List Int} (h : bytesT.Rd w [v] code) {n : Int} (hn : 1 ≤ n ∧ n ≤ 200) :
  Calls Tryz.prog 27 #[v, .int .i64 n] w fun e w' => ∃ x, e = .returned (.int .i64 x) ∧ 0 ≤ x ∧ x ≤ n - 1 ∧ Below w.heap.size w w' := by
 obtain ⟨ad, cap, rfl⟩ := rd_slice h
 have H := Lib.hid h
 clear h
 go_enter Tryz.func27, Tryz.ntmps27
 go_wp2_with fail
 refine (l00From_any w H.out).mono ?_
 rintro e w1 ⟨rfl, hs1, hb1⟩
 have HS := Lib.hid hs1
 clear hs1
 go_wp2_with fail
 refine (pick_any w1 HS.out (by omega) (by omega) hn).mono ?_
 rintro e w2 ⟨x, rfl, hx0, hx1, hs2, ht2⟩
 have hb2 : Below w.heap.size w1 w2 := ht2.below hb1.size (fun k hk e => by omega)
 clear hs2 ht2
 go_wp2_with fail
 go_ret
 exact ⟨x, rfl, hx0, hx1, hb1.trans hb2⟩
set_option maxHeartbeats 1600000 in
set_option maxRecDepth 100000 in
theorem P6Op_any (w : World) {v : Value} {code : List Int} (h : bytesT.Rd w [v] code) {s : Int} {ar : Nat} (hs : 1 ≤ s ∧ s ≤ 4) (har : 1 ≤ ar ∧ ar ≤ 2) :
  Calls Tryz.prog 28 #[v, .int .i64 s, .int .i64 (ar : Int)] w fun e w' => ∃ (cs : List Value) (f : Int × List Int), e = .returned (.agg cs.toArray) ∧ opT.Fr w.heap.size w' cs f ∧ opOk s f ∧ f.1 = ar ∧ Below w.heap.size w w' := by
 obtain ⟨ad, cap, rfl⟩ := rd_slice h
 have H := Lib.hid h
 clear h
 go_enter Tryz.func28, Tryz.ntmps28
 go_wp2_with fail
 generalize hW : World.alloc w _ = W
 have hbW : Below w.heap.size w W := hW ▸ bA
 have hsW : w.heap.size + 1 ≤ W.heap.size := by rw [← hW]; simp
 have r0 : W.cell? ⟨w.heap.size, 0, none⟩ = some (.int .i64 0) := by rw [← hW]; simp [go_sem]
 have r1 : W.cell? ⟨w.heap.size, 1, none⟩ = some (.slice none 0 0) := by rw [← hW]; simp [go_sem]
 have q0 : W.frozen? ⟨w.heap.size, 0, none⟩ = false := by rw [← hW]; simp [go_sem]
 have q1 : W.frozen? ⟨w.heap.size, 1, none⟩ = false := by rw [← hW]; simp [go_sem]
 clear hW
 refine (l00From_any W (H.out.below hbW)).mono ?_
 rintro e w1 ⟨rfl, hs1, hb1⟩
 have HS := Lib.hid hs1
 have hz1 := hs1.lt
 replace r0 := (cellB hb1 (by omega)).trans r0
 replace r1 := (cellB hb1 (by omega)).trans r1
 replace q0 := (frozenB hb1 (by omega)).trans q0
 replace q1 := (frozenB hb1 (by omega)).trans q1
 clear hs1
 go_wp2_with fail
 refine (l02Drawn_any w1 HS.out (by omega) (by omega) hs har).mono ?_
 rintro e w2 ⟨cs, f, rfl, hf, hok, hfa, hs2, ht2⟩
 obtain ⟨fa, fc, rfl⟩ := fr_pair hf
 have hb2 : Below W.heap.size w1 w2 := ht2.below (by omega) (fun k hk e => by omega)
 have HF := Lib.hid hf
 have HOK := Lib.hid hok
 have HFA := Lib.hid hfa
 have hz2 := ht2.size
 replace r0 := (cellB hb2 (show w.heap.size < W.heap.size by omega)).trans r0
 replace r1 := (cellB hb2 (show w.heap.size < W.heap.size by omega)).trans r1
 replace q0 := (frozenB hb2 (show w.heap.size < W.heap.size by omega)).trans q0
 replace q1 := (frozenB hb2 (show w.heap.size < W.heap.size by omega)).trans q1
 have hbw2 : Below w.heap.size w w2 := (bthen hbW hb1).trans (hb2.mono (by omega))
 clear hf hok hfa hs2 ht2
 go_wp2_with fail
 obtain ⟨g0, g1⟩ := set2_cells (x := .int .i64 f.1) (y := .slice fa f.2.length fc) r0 r1
 refine bodyPost_ret (v := .agg #[.int .i64 f.1, .slice fa f.2.length fc]) (by simp [results, Tryz.results28, go_sem, g0, g1]) rfl ⟨[.int .i64 f.1, .slice fa f.2.length fc], f, rfl, ?_, HOK.out, HFA.out, ?_⟩
 ·exact (fr_set2 HF.out (by omega)).mono (by omega)
 ·exact (hbw2.setCell (by simp) _).setCell (by simp) _
end Go.Proofs.YtajmjfbejfiipaaGreat
