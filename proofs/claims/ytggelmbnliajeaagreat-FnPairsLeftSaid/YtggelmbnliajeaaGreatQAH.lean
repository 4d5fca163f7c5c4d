/-
What the walk of FnPairsLeft asks beside its contracts: plain facts, rows' elements, an append of a row that lies in older memory.
Contracts: the solutions of an instance, counted, listed, the first; the reference's.
Contracts: relations and tuples compared; whether a relation has a tuple, and whether an operation keeps a relation, checked.
Contracts: relations and templates that are drawn, seldom ones that are not valid.
A struct of a number and a row, in a box of the call's own, while a source is read and the row grows; result boxes. Contract: a drawn template.
An instance in a box of the call's own, its scopes in other blocks. Contract: a drawn instance.
-/
import Derived.Test.YtggelmbnliajeaaGreatQAG
import Derived.Test.YtggelmbnliajeaaGreatQAF
import Derived.Test.YtggelmbnliajeaaGreatQAB
import Derived.Test.YtggelmbnliajeaaGreatQAD
import Derived.Test.YtggelmbnliajeaaGreatQAC
import Derived.Test.YtggelmbnliajeaaGreatQAE
namespace Go.Proofs.YtggelmbnliajeaaGreat
open Go.RowKit Go.Sort
theorem rd_pair2 {α : Type} {E : Ty α} {w : World} {cs : List Value} {x : Int × List α} (h : (Ty.cons (Ty.slice E)).Rd w cs x) : ∃ a c, cs = [.int .i64 x.1, .slice a x.2.length c] := by
 obtain ⟨v, hv, hI, hx⟩ := pair_ex h
 obtain ⟨a, c, rfl⟩ := rd_slice hx
 exact ⟨a, c, hv⟩
theorem getD_ltY {α : Type} {L : List α} {k : Nat} {z : α} (h : k < L.length) : L.getD k z = L[k] := by rw [List.getD_eq_getElem?_getD, List.getElem?_eq_getElem h]; rfl
theorem anyB_exY {α : Type} {p : α → Bool} {xs : List α} (h : anyB p xs = true) : ∃ y ∈ xs, p y = true := by
 unfold anyB at h
 simpa using h
theorem mk_len {s : Int} {P : Rels} {n : Nat} (h : RlOk s n P) : (mkP s n (P, [])).2.length ≤ totP P := by
 have h1 : RlOk s n (mkP s n (P, [])).1 ∧ totP (mkP s n (P, [])).1 + (mkP s n (P, [])).2.length ≤ totP P := by
  unfold mkP
  refine mkP_ind (Q := fun st => RlOk s n st.1 ∧ totP st.1 + st.2.length ≤ totP P) (fun st i j k hi hj hk hQ => ?_) ⟨h, by simp⟩
  by_cases h1 : k ≠ i ∧ k ≠ j
  ·cases h2 : nwB s st.1 i j k
   ·rw [prs_same (e := (i, j, k)) h2]; exact hQ
   ·rw [prs_yes (e := (i, j, k)) h1 h2]
    have hq := hQ.1.at hi hj
    have h3 := tot_set (r := ((2 : Int), nwR s st.1 i j k)) hq
    have h5 : (nwR s st.1 i j k).length < (prR st.1 i j).length := by simpa [nwB] using h2
    have h6 := prR_at hq
    rw [h6] at h5
    refine ⟨hQ.1.nw hi hj, ?_⟩
    have h4 := hQ.2
    dsimp only at h3 h5 ⊢
    simp only [List.length_append, List.length_cons, List.length_nil]
    unfold nwV
    omega
  ·rw [prs_no (e := (i, j, k)) h1]; exact hQ
 omega
/-- all that the walk asks of what pairs leave -/
def PlF (t : Tpl) (x : Int × List (Int × List Int)) (P D : Rels) (S : List Stp) : Prop :=
 P.length = D.length ∧ RlOk t.1 x.1.toNat P ∧ RlOk t.1 x.1.toNat D ∧ (∀ q, ∀ l ∈ (D.getD q (0, [])).2, l ∈ (P.getD q (0, [])).2) ∧ (∀ y ∈ solsX t x, (y.length : Int) = x.1 ∧ HoldP D x.1.toNat y) ∧
 GoodS t.1 x.1.toNat P S ∧ repS t.1 P S = D ∧ (∀ e ∈ S, e.1 ≤ 100 ∧ e.2.1 ≤ 100 ∧ e.2.2 ≤ 100) ∧ (1 ≤ x.1 ∧ x.1 ≤ 10) ∧ S.length ≤ 1600
theorem plF_of {t : Tpl} {x : Int × List (Int × List Int)} (h : instOk t x) : PlF t x (allP t x (t.1 ^ 2).toNat x.1.toNat) (mkpV t x).1 (mkpV t x).2 := by
 have hs := h.1.1
 have hs' : 1 ≤ t.1 ∧ t.1 ≤ 4 := by unfold sizeOk at hs; omega
 have hx := h.2.1
 have hN : t.1 ^ 2 = ((t.1 ^ 2).toNat : Int) := by have := pow_nn (s := t.1) (by omega) 2; omega
 have hN16 : (t.1 ^ 2).toNat ≤ 16 := by
  have : t.1 * t.1 ≤ 4 * 4 := Int.mul_le_mul hs'.2 hs'.2 (by omega) (by omega)
  rw [Int.pow_succ, Int.pow_succ, Int.pow_zero, Int.one_mul]
  omega
 have hP : RlOk t.1 x.1.toNat (allP t x (t.1 ^ 2).toNat x.1.toNat) := allP_ok hs hN
 have hg := good_mk (s := t.1) (n := x.1.toNat) (P := allP t x (t.1 ^ 2).toNat x.1.toNat)
 have hp := part_mk (s := t.1) (n := x.1.toNat) hP.1
 refine ⟨hp.1.symm, hP, rl_mk hP hs'.1 hs'.2, hp.2, fun y hy => ?_, hg.1, hg.2, good_bd hg.1 (by omega), by omega, Nat.le_trans (mk_len hP) (allP_tot hN16 (by omega))⟩
 have hy1 := sol_mem h hy
 exact ⟨hy1.1, hold_mk (by omega) hy1.2.1 (hold_first h hN hy) hP.1⟩
section
variable {t : Tpl} {x : Int × List (Int × List Int)} {P D : Rels} {S : List Stp}
theorem PlF.part (h : PlF t x P D S) {k : Nat} (hk : k < D.length) (hk' : k < P.length) : anyB (fun l => !tb (l ∈ P[k].2)) D[k].2 = false := by
 cases ha : anyB (fun l => !tb (l ∈ P[k].2)) D[k].2
 ·rfl
 ·obtain ⟨l, hl, hp⟩ := anyB_exY ha
  have := h.2.2.2.1 k l (by rw [getD_ltY hk]; exact hl)
  rw [getD_ltY hk'] at this
  rw [tb_true this] at hp
  cases hp
theorem PlF.has (h : PlF t x P D S) {y : List Int} (hy : y ∈ solsX t x) {i j : Nat} (hi : i < j) (hj : j < x.1.toNat) : ∃ (h1 : i < y.length) (h2 : j < y.length) (hk : pxN i j < D.length), tb ([y[i], y[j]] ∈ D[pxN i j].2) = true := by
 have h1 := h.2.2.2.2.1 y hy
 have hk := h.2.2.1.at hi hj
 have h2 : i < y.length := by omega
 have h3 : j < y.length := by omega
 refine ⟨h2, h3, hk, tb_true ?_⟩
 have h4 := h1.2 i j hi hj
 unfold prR at h4
 rwa [getD_ltY hk, getD_ltY h2, getD_ltY h3] at h4
end
theorem rel_at {w : World} {a : Option Addr} {m c : Nat} {P : Rels} (hm : P.length = m) (h : relsT.Rd w [.slice a m c] P) {k : Nat} (hk : k < P.length) : ∃ b o ea ec, a = some ⟨b, o, none⟩ ∧ b < w.heap.size ∧ relT.Rd w [.int .i64 P[k].1, .slice ea P[k].2.length ec] P[k] ∧ w.cell? ⟨b, o + k * 2, none⟩ = some (.int .i64 P[k].1) ∧ w.cell? ⟨b, o + k * 2 + 1, none⟩ = some (.slice ea P[k].2.length ec) := by
 subst hm
 obtain ⟨a', c', hr, -, -, hc⟩ := pairs_ex h
 simp only [List.cons.injEq, Value.slice.injEq, and_true, true_and] at hr
 obtain ⟨rfl, rfl⟩ := hr
 obtain ⟨b, o, rfl, hb, hc⟩ := hc (by omega)
 obtain ⟨v, h1, h2, h4, h5⟩ := hc k hk
 obtain ⟨ea, ec, rfl⟩ := rd_slice h1
 exact ⟨b, o, ea, ec, rfl, hb, pair_mk h2 h1, h4, h5⟩
theorem rels_le {w : World} {a : Option Addr} {m c : Nat} {P : Rels} (h : relsT.Rd w [.slice a m c] P) : P.length ≤ 140737488351232 :=
 let ⟨_, _, _, _, h, _⟩ := pairs_ex h; h
theorem rows_le {w : World} {a : Option Addr} {m c : Nat} {L : List (List Int)} (h : rowsT.Rd w [.slice a m c] L) : L.length ≤ 140737488351232 :=
 let ⟨_, _, _, _, h, _⟩ := slices_ex h; h
theorem row_at {w : World} {a : Option Addr} {m c : Nat} {L : List (List Int)} (hm : L.length = m) (h : rowsT.Rd w [.slice a m c] L) {k : Nat} (hk : k < L.length) : ∃ b o ea ec, a = some ⟨b, o, none⟩ ∧ b < w.heap.size ∧ intsT.Rd w [.slice ea L[k].length ec] L[k] ∧ w.cell? ⟨b, o + k, none⟩ = some (.slice ea L[k].length ec) := by
 subst hm
 obtain ⟨a', c', hr, -, -, hc⟩ := slices_ex h
 simp only [List.cons.injEq, Value.slice.injEq, and_true, true_and] at hr
 obtain ⟨rfl, rfl⟩ := hr
 obtain ⟨b, o, rfl, hb, hc⟩ := hc (by omega)
 obtain ⟨v, h1, h2⟩ := hc k hk
 obtain ⟨ea, ec, rfl⟩ := rd_slice h1
 exact ⟨b, o, ea, ec, rfl, hb, h1, h2⟩
theorem int_at {w : World} {a : Option Addr} {m c : Nat} {L : List Int} (hm : L.length = m) (h : intsT.Rd w [.slice a m c] L) (hk : 0 < L.length) : ∃ b o, a = some ⟨b, o, none⟩ ∧ b < w.heap.size ∧ ∀ i (hi : i < L.length), I64 L[i] ∧ w.cell? ⟨b, o + i, none⟩ = some (.int .i64 L[i]) := by
 subst hm
 obtain ⟨a', c', hr, -, -, hc⟩ := ints_ex h
 simp only [List.cons.injEq, Value.slice.injEq, and_true, true_and] at hr
 obtain ⟨rfl, rfl⟩ := hr
 exact hc hk
theorem pairIndexY_any (n : Int) (i j : Nat) (w : World) (hn : 1 ≤ n ∧ n ≤ 10) (hi : i < j) (hj : j < n.toNat) : Calls Tryz.prog 13 #[.int .i64 n, .int .i64 (j : Int), .int .i64 (i : Int)] w fun e w' => e = .returned (.tuple #[.int .i64 (pxN i j : Int), .int .i64 0]) ∧ w = w' := by
 have hn0 : inB n 1 10 = true := inB_true.2 (by omega)
 have hn' := inB_true.1 hn0
 have hj0 : inB (j : Int) 0 (n - 1) = true := inB_true.2 (by omega)
 have hj' := inB_true.1 hj0
 have hi0 : inB (i : Int) 0 (n - 1) = true := inB_true.2 (by omega)
 have hi' := inB_true.1 hi0
 have he : ((j : Int) == (i : Int)) = false := by rw [beq_eq_false_iff_ne]; omega
 have hp := (pix_lt hi).2
 go_enter Tryz.func13, Tryz.ntmps13
 go_wp2_with (first | (go_at_call 33; refine (within_any _ _ _ _).mono ?_; rintro e w' ⟨rfl, rfl⟩) | (go_at_call 32; refine (isVars_any _ _).mono ?_; rintro e w' ⟨rfl, rfl⟩) | (go_at_call 34; refine (pairIndex_any _ _ _ (by omega) (by omega) (by omega) (by omega)).mono ?_; rintro e w' ⟨rfl, rfl⟩))
 go_ret2
 exact ⟨rfl, rfl⟩
theorem fx_below {α : Type} {E : Ty α} {base : Nat} {w w' : World} {cs : List Value} {x : α} (h : E.Fr base w cs x) (hb : Below w.heap.size w w') : E.Fx 0 w.heap.size w' cs x :=
 let ⟨fp, h1, h2, _, h4⟩ := h
 have hs : Same fp w w' := Same.below hb (E.lt h1)
 ⟨fp, E.same h1 hs, h2, fun k hk => ⟨Nat.zero_le _, E.lt h1 k hk⟩, h4.same hs⟩
theorem wpList_pushOld {P : Program} {α : Type} {E : Ty α} (w : World) {ops : Array Oper} {rest : List Oper} {o : Oper} {a : Act} {Q : Exit → Act → World → Prop} (hgd : o.guard = none) (s x : Operand) (t e : TypeId) {bytes : Nat}
  (ho : o.op = .call { callee := .builtin .append, args := #[s, x], argTypes := #[t, t] }) (hT : ElT P t e E.sz bytes)
  {base top lo : Nat} {v : Value} {ys : List α} (hs : a.eval s = v) (hB : Bl E e base top w v ys)
  {u : Value} {xs : List α} (hx : a.eval x = u) (hy : (Ty.slice E).Fx lo base w [u] xs) (hlo : lo ≤ base)
  (hlen : ys.length + xs.length ≤ 1000000000) (hby : bytes ≤ 100000) (hbt : base ≤ top) (htop : top ≤ w.heap.size)
  (h : ∀ v' w', Bl E e lo w'.heap.size w' v' (ys ++ xs) → w.grownBy w' v.ownBlock → (v'.ownBlock = v.ownBlock ∨ v'.ownBlock = some w.heap.size) → wpList P ops Q rest (a.put o.dst v') w') : wpList P ops Q (o :: rest) a w := by
 refine wpList_plain hgd fun K hK => ?_
 obtain ⟨fp, k1, k2, k3, k4⟩ := hy
 obtain ⟨v', w', hr, h2, h3, h4⟩ := run_pushFx (P := P) w t o.type e hT hB k1 k2 (fun k hk => ⟨(k3 k hk).1, .inl (k3 k hk).2⟩) k4 hlo hlen hby hbt htop
 unfold Oper.wp execOp
 simp only [ho, resolve, invoke, builtin, Sem.run_bind, Sem.run_pure, Result.andThen_ok, List.map_toArray, List.map_cons, List.map_nil, hs, hx, hr]
 exact hK _ _ (h v' w' h2 h3 h4)
end Go.Proofs.YtggelmbnliajeaaGreat
namespace Go.Proofs.YtggelmbnliajeaaGreat
open Go.RowKit Go.Sort
theorem solsX_nat {t : Int × List (Int × List (List Int))} {x : Int × List (Int × List Int)} {n s : Nat} (hn : x.1 = n) (hs : t.1 = s) : solsL s (goesB t (duesL x.2 n)) n [] = solsX t x := by
 unfold solsX
 rw [show x.1.toNat = n by omega, show t.1.toNat = s by omega]
set_option maxHeartbeats 3200000 in
set_option maxRecDepth 100000 in
theorem l05Solutions_any (w : World) {vt vx : Value} {t : Int × List (Int × List (List Int))} {x : Int × List (Int × List Int)} (ht : tplT.Pt w vt t) (hx : instT.Pt w vx x) (hok : instOk t x) {most : Nat} (hm : most ≤ 1000) (hm0 : 0 < most) :
  Calls Tryz.prog 31 #[vt, vx, .int .i64 most] w (RetS rowsT w ((solsX t x).take most)) := by
 have HT := Lib.hid ht
 have HX := Lib.hid hx
 have HOK := Lib.hid hok
 have HSL := Lib.hid (solsX_len hok)
 have hn1 := hok.2.1
 have hs1 := hok.1.1
 unfold sizeOk at hs1
 obtain ⟨n, hn⟩ : ∃ n : Nat, x.1 = n := ⟨x.1.toNat, by omega⟩
 obtain ⟨s, hs⟩ : ∃ s : Nat, t.1 = s := ⟨t.1.toNat, by omega⟩
 have HN := Lib.hid hn
 have HS := Lib.hid hs
 have HSX := Lib.hid (solsX_nat (t := t) (x := x) hn hs)
 obtain ⟨bt, ot, _, _, rfl, -, -, -, -, -⟩ := pt_pair ht
 obtain ⟨bx, ox, _, _, rfl, -, -, -, -, -⟩ := pt_pair hx
 clear ht hx hok hn1 hs1 hn hs
 go_enter Tryz.func31, Tryz.ntmps31
 go_wp2_with fail
 generalize hW : World.alloc (World.alloc w _) _ = W
 have hbW : Below w.heap.size w W := hW ▸ bAA
 have hsW : w.heap.size + 2 ≤ W.heap.size := by rw [← hW]; simp
 have c0 : W.cell? ⟨w.heap.size, 0, none⟩ = some (.pointer (some ⟨bt, ot, none⟩)) := by rw [← hW]; simp [go_sem]
 have c1 : W.cell? ⟨w.heap.size, 1, none⟩ = some (.pointer (some ⟨bx, ox, none⟩)) := by rw [← hW]; simp [go_sem]
 have c2 : W.cell? ⟨w.heap.size, 2, none⟩ = some (.int .i64 most) := by rw [← hW]; simp [go_sem]
 have c3 : W.cell? ⟨w.heap.size, 3, none⟩ = some (.slice none 0 0) := by rw [← hW]; simp [go_sem]
 have c4 : W.cell? ⟨w.heap.size, 4, none⟩ = some (.int .i64 0) := by rw [← hW]; simp [go_sem]
 have m3 : W.frozen? ⟨w.heap.size, 3, none⟩ = false := by rw [← hW]; simp [go_sem]
 have m4 : W.frozen? ⟨w.heap.size, 4, none⟩ = false := by rw [← hW]; simp [go_sem]
 have HF : Hid (Fnd 50 w.heap.size most (.pointer (some ⟨bt, ot, none⟩)) (.pointer (some ⟨bx, ox, none⟩)) [] [w.heap.size] W) := ⟨.slice none 0 0, rfl, by omega, c0, c1, c2, c3, c4, m3, m4, by simpa using Bl.nil⟩
 have HTB := Lib.hid (HT.out.B.below hbW)
 have HXB := Lib.hid (HX.out.B.below hbW)
 clear c0 c1 c2 c3 c4 m3 m4 hW
 refine (from_any HOK.out HN.out HS.out w.heap.size most hm _ _ n W _ [] [] [] [w.heap.size] (by simp) HF.out HTB.out HXB.out ⟨_, 0, rfl, Nat.le_refl _, Nat.zero_le _, .inl ⟨rfl, rfl⟩⟩ (fun k hk => by cases hk) (.inr (by simpa using hm0)) (by have := HSL.out; rw [HSX.out]; simp only [List.length_nil]; omega)).mono ?_
 rintro e w2 ⟨⟨u, rfl⟩, O', hF2, ht2, hO2⟩
 rw [List.nil_append, lim_pos hm0, HSX.out] at hF2
 have hb2 : Below w.heap.size w w2 := hbW.trans (ht2.below (by omega) (fun q hq => by simp at hq; omega))
 obtain ⟨v2, -, h1, -, -, -, d3, -, -, -, hB⟩ := hF2
 rw [List.take_take, Nat.min_self] at hB
 have hf := hB.fr (by rw [List.length_take]; unfold capMax; omega)
 obtain ⟨a2, n2, cc2, rfl⟩ := ex_slice hf
 have HFR := Lib.hid hf
 clear hB hf ht2 hO2 HF
 go_wp2_with fail
 go_ret
 exact ⟨_, rfl, HFR.out.mono (by omega), hb2⟩
set_option maxHeartbeats 3200000 in
set_option maxRecDepth 100000 in
theorem specAllSolutions_any (w : World) {cs cs' : Array Value} {t : Int × List (Int × List (List Int))} {x : Int × List (Int × List Int)} (h : tplT.Rd w cs.toList t) (h' : instT.Rd w cs'.toList x) :
  Calls Tryz.prog 12 #[.agg cs, .agg cs'] w (RetSC rowsT w (asV t x) (asC t x)) := by
 have p0 : tplT.Pt ((w.alloc (.cells cs 26)).alloc (.cells cs' 29)) (.pointer (some ⟨w.heap.size, 0, none⟩)) t := (pt_box h).below bA
 have p1 : instT.Pt ((w.alloc (.cells cs 26)).alloc (.cells cs' 29)) (.pointer (some ⟨w.heap.size + 1, 0, none⟩)) x := by
  simpa using pt_box (T := 29) (h'.below (bA (o := .cells cs 26)))
 obtain ⟨v1, hv, hI, -⟩ := pair_ex h
 obtain rfl := agg_of hv
 obtain ⟨v2, hv', hI', -⟩ := pair_ex h'
 obtain rfl := agg_of hv'
 clear h hv h' hv'
 go_enter Tryz.func12, Tryz.ntmps12
 go_wp2_with fail
 generalize hW : World.alloc _ _ = W at p0 p1 ⊢
 have hbW : Below w.heap.size w W := hW ▸ bAA
 clear hW
 refine (l05Ok_quiet _ p0 p1).mono ?_
 rintro e w1 ⟨rfl, hq1⟩
 have hb1 := hq1.below
 have hB1 := bthen hbW hb1
 clear hq1
 cases hok : tb (instOk t x)
 ·have HR := Lib.hid (as_no hok)
  clear hok
  go_wp2_with fail
  go_ret2
  exact ⟨.slice (some ⟨w1.heap.size, 0, none⟩) 0 0, by rw [HR.out.2]; rfl, by rw [HR.out.1]; exact fr_nil, hB1.alloc hB1.size _⟩
 ·have HRM := Lib.hid (fun h => as_more hok h)
  have HRY := Lib.hid (fun h => as_yes hok h)
  have HOK := Lib.hid (tb_iff.1 hok)
  clear hok
  go_wp2_with fail
  refine (l05Solutions_any (most := 201) _ (p0.below hb1) (p1.below hb1) HOK.out (by omega) (by omega)).mono ?_
  rintro e w2 ⟨u, rfl, hf, hb2⟩
  obtain ⟨a2, c2, rfl⟩ := fr_slice hf
  have hll : ((solsX t x).take 201).length = min 201 (solsX t x).length := List.length_take
  generalize ((solsX t x).take 201).length = ln at *
  have HF := Lib.hid hf
  have hz1 := hB1.size
  clear hf
  cases hle : decide ((solsX t x).length ≤ 200)
  ·have HR := Lib.hid (HRM.out hle)
   have hgt : (200 : Int) < (ln : Int) := by have := of_decide_eq_false hle; omega
   clear hle hll
   go_wp2_with fail
   go_ret2
   exact ⟨.slice (some ⟨w2.heap.size, 0, none⟩) 0 0, by rw [HR.out.2]; rfl, by rw [HR.out.1]; exact fr_nil, (bthen hB1 hb2).alloc (bthen hB1 hb2).size _⟩
  ·have HR := Lib.hid (HRY.out hle)
   have HTK : Hid ((solsX t x).take 201 = solsX t x) := List.take_of_length_le (by have := of_decide_eq_true hle; omega)
   have hgt : ¬ ((200 : Int) < (ln : Int)) := by have := of_decide_eq_true hle; omega
   clear hle hll
   go_wp2_with fail
   go_ret2
   exact ⟨.slice a2 ln c2, by rw [HR.out.2]; rfl, by rw [HR.out.1, ← HTK.out]; exact HF.out.mono hz1, bthen hB1 hb2⟩
end Go.Proofs.YtggelmbnliajeaaGreat
namespace Go.Proofs.YtggelmbnliajeaaGreat
open Go.RowKit Go.Sort
theorem specSameRel_any (w : World) {cs cs' : Array Value} {x y : Int × List (List Int)} (h : relT.Rd w cs.toList x) (h' : relT.Rd w cs'.toList y) :
  Calls Tryz.prog 11 #[.agg cs, .agg cs'] w fun e w' => e = .returned (.bool (eqB x y)) ∧ Below w.heap.size w w' := by
 have p1 := (pt_box (T := 43) h)
 have p2 := (pt_box (T := 43) (h'.below (bA (o := .cells cs.toList.toArray 43))))
 obtain ⟨u, hv, _⟩ := pair_ex h
 obtain rfl := agg_of hv
 obtain ⟨u', hv', _⟩ := pair_ex h'
 obtain rfl := agg_of hv'
 have p1' := p1.below (bA (o := .cells [.int .i64 y.1, u'].toArray 43))
 clear hv hv' h h' p1
 go_enter Tryz.func11, Tryz.ntmps11
 go_wp2_with fail
 rw [World.size_alloc] at p2
 refine (l01Same_quiet _ p1' p2).mono ?_
 rintro e w1 ⟨rfl, n, rfl⟩
 go_wp2_with fail
 go_ret
 exact ⟨rfl, (by repeat (first | exact Below.refl _ _ | exact bA | assumption | refine Below.setCell ?_ (by first | omega | (simp; try omega)) _ | refine Below.alloc ?_ (by first | omega | (simp; try omega)) _ | refine Below.drew ?_ | refine bDN ?_ | refine bthen ?_ (by assumption)))⟩
end Go.Proofs.YtggelmbnliajeaaGreat
namespace Go.Proofs.YtggelmbnliajeaaGreat
open Go.RowKit Go.Sort
theorem fr_intsL {base : Nat} {w : World} {xs : List Int} {e : TypeId} {g n : Nat} {cs : Array Value} (hcs : cs = (xs.map (Value.int .i64)).toArray) (hn : xs.length = n) (hI : ∀ a ∈ xs, I64 a) (hg : w.heap.size = g) (hbs : base ≤ g) (hl : n ≤ 1000) :
  intsT.Fr base (w.alloc (.cells cs e)) [.slice (some ⟨g, 0, none⟩) n n] xs := by
 subst hg hcs hn
 exact IR.fr (e := e) ⟨rfl, hI, hbs, World.ownsRow_lit w _ xs.length hbs (by unfold maxLen; omega) (by simp)⟩ (by unfold capMax; omega)
/-- new data come back, of which something is so; the source has turned -/
def FxR {α : Type} (E : Ty α) (Q : α → Prop) (sb B : Nat) (K : Int) (w : World) (e : Ending) (w' : World) : Prop := ∃ (cs : List Value) (x : α), e = .returned (.agg cs.toArray) ∧ E.Fr w.heap.size w' cs x ∧ Q x ∧ SrcR sb B K w' ∧ TchP (fun q => q = sb) w w'
set_option maxHeartbeats 1600000 in
set_option maxRecDepth 100000 in
theorem l01SizeDrawn_any (w : World) {sb B : Nat} {K : Int} (h : SrcR sb B K w) (hK0 : 0 ≤ K) (hK : K ≤ 100000000) :
  Calls Tryz.prog 94 #[.pointer (some ⟨sb, 0, none⟩)] w (NxS sb B (K + 1) 1 4 w) := by
 have H := Lib.hid h
 have hsb := h.lt
 clear h
 go_enter Tryz.func94, Tryz.ntmps94
 go_wp2_with fail
 generalize hW : World.alloc w _ = W
 have hbW : Below w.heap.size w W := hW ▸ bA
 have HL : Hid (intsT.Fr w.heap.size W [.slice (some ⟨w.heap.size, 0, none⟩) 7 7] [2, 2, 3, 3, 1, 4, 2]) := by
  rw [← hW]
  exact fr_intsL rfl rfl (fun a ha => by simp at ha; unfold I64; omega) rfl (Nat.le_refl _) (by decide)
 have HS := Lib.hid (H.out.below hbW)
 clear hW
 refine (among_any W HS.out hK0 (by omega) HL.out.rd (by simp) (rdP_fr' HL.out (by omega))).mono ?_
 rintro e w2 ⟨s, hs, rfl, hs2, ht2⟩
 have hx : 1 ≤ s ∧ s ≤ 4 := by simp at hs; omega
 have HS2 := Lib.hid hs2
 have HT2 := Lib.hid ((TchP.of_below hbW (fun q => q = sb)).then ht2 (fun q _ h => h))
 clear hs hs2 ht2
 go_wp2_with fail
 go_ret
 exact ⟨s, rfl, hx.1, hx.2, HS2.out, HT2.out⟩
set_option maxHeartbeats 1600000 in
set_option maxRecDepth 100000 in
theorem l01Any_any (w : World) {sb B : Nat} {K s : Int} (h : SrcR sb B K w) (hK0 : 0 ≤ K) (hK : K ≤ 10000000) (hs : 1 ≤ s ∧ s ≤ 4) :
  Calls Tryz.prog 102 #[.pointer (some ⟨sb, 0, none⟩), .int .i64 s] w (FbR intsT 50 (fun r => relOk s r ∧ r.1 ≤ 3) sb B (K + 200) w) := by
 have H := Lib.hid h
 have hsb := h.lt
 have hBs : B ≤ sb := let ⟨_, _, _, _, _, _, _, _, _, _, _, _, _, _, h⟩ := h; h
 clear h
 go_enter Tryz.func102, Tryz.ntmps102
 go_wp2_with fail
 generalize hW : World.alloc w _ = W
 have hbW : Below w.heap.size w W := hW ▸ bA
 have hsW : w.heap.size + 1 ≤ W.heap.size := by rw [← hW]; simp
 have r0 : W.cell? ⟨w.heap.size, 0, none⟩ = some (.int .i64 0) := by rw [← hW]; simp [go_sem]
 have r1 : W.cell? ⟨w.heap.size, 1, none⟩ = some (.slice none 0 0) := by rw [← hW]; simp [go_sem]
 have q0 : W.frozen? ⟨w.heap.size, 0, none⟩ = false := by rw [← hW]; simp [go_sem]
 have q1 : W.frozen? ⟨w.heap.size, 1, none⟩ = false := by rw [← hW]; simp [go_sem]
 have HS := Lib.hid (H.out.below hbW)
 clear hW
 refine (pick_any W HS.out hK0 (by omega) (n := 3) (by omega)).mono ?_
 rintro e w2 ⟨p, rfl, hp0, hp1, hs2, ht2⟩
 have hz2 := ht2.size
 replace r0 := (ht2.cell (i := 0) (show w.heap.size < W.heap.size by omega) (by omega)).trans r0
 replace r1 := (ht2.cell (i := 1) (show w.heap.size < W.heap.size by omega) (by omega)).trans r1
 replace q0 := (ht2.frozen (i := 0) (show w.heap.size < W.heap.size by omega) (by omega)).trans q0
 replace q1 := (ht2.frozen (i := 1) (show w.heap.size < W.heap.size by omega) (by omega)).trans q1
 have HS2 := Lib.hid hs2
 have HT2 := Lib.hid ((TchP.of_below hbW (fun q => q = sb)).then ht2 (fun q _ h => h))
 clear hs2 ht2
 obtain ⟨ar, har⟩ : ∃ ar : Nat, 1 + p = (ar : Int) := ⟨(1 + p).toNat, by omega⟩
 have hwr : IntKind.i64.wrap (1 + p) = (ar : Int) := by rw [har]; exact wrap_small (by omega) (by omega)
 have har3 : 1 ≤ ar ∧ ar ≤ 3 := by omega
 obtain ⟨N, hN⟩ : ∃ N : Nat, s ^ ar = (N : Int) := ⟨(s ^ ar).toNat, by have h0 : 0 < s ^ ar := Int.pow_pos (by omega); omega⟩
 have hNb : N ≤ 64 := by
  have h1 := pow_mono' (s := s) (c := 4) (by omega) (by omega) ar
  rcases (show ar = 1 ∨ ar = 2 ∨ ar = 3 by omega) with e | e | e <;> subst e <;> simp at h1 <;> omega
 have HN := Lib.hid hN
 clear hN har
 go_wp2_with fail
 refine (l01DrawnB_any w2 HS2.out (by omega) (by omega) hs (by omega) HN.out).mono ?_
 rintro e w3 ⟨v, n, T, b0, rfl, hI, hb0, hb1, hB, hTl, hq, hs3, ht3⟩
 obtain ⟨ga, gn, gc, rfl⟩ := ex_slice (hB.fr (by unfold capMax; omega))
 have hz3 := ht3.size
 replace r0 := (ht3.cell (i := 0) (show w.heap.size < w2.heap.size by omega) (by omega)).trans r0
 replace r1 := (ht3.cell (i := 1) (show w.heap.size < w2.heap.size by omega) (by omega)).trans r1
 replace q0 := (ht3.frozen (i := 0) (show w.heap.size < w2.heap.size by omega) (by omega)).trans q0
 replace q1 := (ht3.frozen (i := 1) (show w.heap.size < w2.heap.size by omega) (by omega)).trans q1
 have HB := Lib.hid hB
 have HQ : Hid (relOk s (n, T) ∧ n ≤ 3) := ⟨hq.1, by have h1 := hq.2; dsimp only at h1; omega⟩
 have HS3 := Lib.hid hs3
 have HT3 := Lib.hid (HT2.out.then ht3 (fun q _ h => h))
 obtain ⟨g0, g1⟩ := set2_cells (x := .int .i64 n) (y := .slice ga gn gc) r0 r1
 have HI := Lib.hid hI
 have HF : Hid (Bl intsT 50 b0 ((w3.setCell ⟨w.heap.size, 0, none⟩ (.int .i64 n)).setCell ⟨w.heap.size, 1, none⟩ (.slice ga gn gc)).heap.size ((w3.setCell ⟨w.heap.size, 0, none⟩ (.int .i64 n)).setCell ⟨w.heap.size, 1, none⟩ (.slice ga gn gc)) (.slice ga gn gc) T) := by
  rw [size_set, size_set]
  exact (HB.out.sameB (fun q h1 h2 => Below.heap_setCell _ _ _ _ (by simp; omega))).sameB (fun q h1 h2 => Below.heap_setCell _ _ _ _ (by simp; omega))
 clear hB hq hs3 ht3 hI
 go_wp2_with fail
 refine bodyPost_ret (v := .agg #[.int .i64 n, .slice ga gn gc]) (by simp [results, Tryz.results102, go_sem, g0, g1]) rfl ⟨.slice ga gn gc, n, T, b0, rfl, HI.out, by omega, by rw [size_set, size_set]; omega, HF.out, hTl, HQ.out, ((HS3.out.tch (TchP.set (O := fun q => q = w.heap.size) rfl) (by omega) (by omega)).tch (TchP.set (O := fun q => q = w.heap.size) rfl) (by omega) (by omega)).mono (by omega), tchS (tchS HT3.out (Nat.le_refl _)) (Nat.le_refl _)⟩
end Go.Proofs.YtggelmbnliajeaaGreat
namespace Go.Proofs.YtggelmbnliajeaaGreat
open Go.RowKit Go.Sort
/-- box g holds a number and a row of the call's own -/
structure DrS {α : Type} (E : Ty α) (e : TypeId) (sb : Nat) (w0 : World) (lo g top : Nat) (n : Int) (v : Value) (T : List α) (w : World) : Prop where
 bl : Bl (E.off g) e lo top w v T
 own : v.ownBlock ≠ some g
 c0 : w.cell? ⟨g, 0, none⟩ = some (.int .i64 n)
 c1 : w.cell? ⟨g, 1, none⟩ = some v
 m0 : w.frozen? ⟨g, 0, none⟩ = false
 m1 : w.frozen? ⟨g, 1, none⟩ = false
 lw : w0.heap.size ≤ lo
 lg : lo ≤ g
 hi : g < top
 le : top ≤ w.heap.size
 hs : sb < w0.heap.size
theorem bl_off {α : Type} {E : Ty α} {e base top g : Nat} {w : World} {v : Value} {T : List α} (h : Bl E e base top w v T) (hg : g < base ∨ top ≤ g) : Bl (E.off g) e base top w v T := by
 obtain ⟨L, fps, h1, h2, h3, h4, h5, h6⟩ := h
 refine ⟨L, fps, h1, fun i hi => ?_, h3, h4, h5, h6⟩
 obtain ⟨cs, h7, h8⟩ := h2 i hi
 refine ⟨cs, ⟨h7, fun hm => ?_⟩, h8⟩
 have := h4 g (List.mem_flatMap.2 ⟨i, by simpa using hi, hm⟩)
 omega
section
variable {α : Type} {E : Ty α} {e : TypeId} {sb lo g top : Nat} {w0 w w' : World} {n : Int} {v : Value} {T : List α}
theorem DrS.same (h : DrS E e sb w0 lo g top n v T w) (hs : ∀ k, lo ≤ k → k < top → w'.heap[k]? = w.heap[k]?) (hz : top ≤ w'.heap.size) : DrS E e sb w0 lo g top n v T w' :=
 have hg := hs g h.lg h.hi
 ⟨h.bl.sameB hs, h.own, (World.cell?_of_block (a := ⟨g, 0, none⟩) hg).trans h.c0, (World.cell?_of_block (a := ⟨g, 1, none⟩) hg).trans h.c1, (World.frozen?_of_block (a := ⟨g, 0, none⟩) hg).trans h.m0, (World.frozen?_of_block (a := ⟨g, 1, none⟩) hg).trans h.m1, h.lw, h.lg, h.hi, hz, h.hs⟩
theorem DrS.tch (h : DrS E e sb w0 lo g top n v T w) (ht : TchP (fun q => q = sb) w w') : DrS E e sb w0 lo g top n v T w' :=
 h.same (fun k h1 h2 => ht.block k (by have := h.le; omega) (by have := h.lw; have := h.hs; omega)) (Nat.le_trans h.le ht.size)
theorem DrS.below {C : Nat} (h : DrS E e sb w0 lo g top n v T w) (hb : Below C w w') (hC : top ≤ C) : DrS E e sb w0 lo g top n v T w' :=
 h.same (fun k _ h2 => hb.block k (by omega)) (Nat.le_trans h.le hb.size)
theorem DrS.grown {row : Option Nat} (h : DrS E e sb w0 lo g top n v T w) (hg : w.grownBy w' row) (hr : ∀ b, row = some b → b < lo ∨ top ≤ b) : DrS E e sb w0 lo g top n v T w' :=
 h.same (fun k h1 h2 => hg.block k (by have := h.le; omega) (fun e => by have := hr k e.symm; omega)) (Nat.le_trans h.le hg.size)
theorem DrS.other {b i : Nat} {u : Value} (h : DrS E e sb w0 lo g top n v T w) (hb : b < lo ∨ top ≤ b) : DrS E e sb w0 lo g top n v T (w.setCell ⟨b, i, none⟩ u) :=
 h.same (fun k h1 h2 => Below.heap_setCell _ _ _ _ (fun e => by simp at e; omega)) (by rw [size_set]; exact h.le)
theorem DrS.num (h : DrS E e sb w0 lo g top n v T w) (n' : Int) : DrS E e sb w0 lo g top n' v T (w.setCell ⟨g, 0, none⟩ (.int .i64 n')) :=
 ⟨off_same h.bl h.own (fun k hk => Below.heap_setCell _ _ _ _ (fun e => hk (by simpa using e))), h.own, World.cell?_setCell_same _ _ _ h.c0, (World.cell?_setCell_other _ _ _ _ (by simp)).trans h.c1, (World.frozen?_setCell _ _ _ _).trans h.m0, (World.frozen?_setCell _ _ _ _).trans h.m1, h.lw, h.lg, h.hi, by rw [size_set]; exact h.le, h.hs⟩
theorem DrS.cells (h : DrS E e sb w0 lo g top n v T w) (hg : w.grownBy w' v.ownBlock) : w'.cell? ⟨g, 1, none⟩ = some v ∧ w'.frozen? ⟨g, 1, none⟩ = false := by
 have hk := hg.block g (Nat.lt_of_lt_of_le h.hi h.le) (fun e => h.own e.symm)
 exact ⟨(World.cell?_of_block (a := ⟨g, 1, none⟩) hk).trans h.c1, (World.frozen?_of_block (a := ⟨g, 1, none⟩) hk).trans h.m1⟩
/-- the row has grown, and its new value is laid into the box -/
theorem DrS.row {v' : Value} {T' : List α} (h : DrS E e sb w0 lo g top n v T w) (hB : Bl (E.off g) e lo w'.heap.size w' v' T') (hg : w.grownBy w' v.ownBlock) (ho : v'.ownBlock = v.ownBlock ∨ v'.ownBlock = some w.heap.size) : DrS E e sb w0 lo g w'.heap.size n v' T' (w'.setCell ⟨g, 1, none⟩ v') := by
 have hlt : g < w.heap.size := Nat.lt_of_lt_of_le h.hi h.le
 have hk := hg.block g hlt (fun e => h.own e.symm)
 have hz := hg.size
 have h1 := h.le
 have h2 := h.hi
 have own' : v'.ownBlock ≠ some g := by
  rcases ho with e | e <;> rw [e]
  ·exact h.own
  ·exact fun e' => by simp at e'; omega
 exact ⟨off_same hB own' (fun k hk => Below.heap_setCell _ _ _ _ (fun e => hk (by simpa using e))), own', (World.cell?_setCell_other _ _ _ _ (by simp)).trans ((World.cell?_of_block (a := ⟨g, 0, none⟩) hk).trans h.c0), World.cell?_setCell_same _ _ _ ((World.cell?_of_block (a := ⟨g, 1, none⟩) hk).trans h.c1), (World.frozen?_setCell _ _ _ _).trans ((World.frozen?_of_block (a := ⟨g, 0, none⟩) hk).trans h.m0), (World.frozen?_setCell _ _ _ _).trans ((World.frozen?_of_block (a := ⟨g, 1, none⟩) hk).trans h.m1), h.lw, h.lg, by omega, by rw [size_set]; exact Nat.le_refl _, h.hs⟩
/-- a box that has just been made for what a callee has handed back -/
theorem DrS.box {t : TypeId} {b0 : Nat} (hw : w' = w.alloc (.cells #[.int .i64 n, v] t)) (hg : w.heap.size = g) (hB : Bl E e b0 w.heap.size w v T) (hb : b0 ≤ w.heap.size) (hlo : w0.heap.size ≤ b0) (hs : sb < w0.heap.size) : DrS E e sb w0 b0 g (g + 1) n v T w' := by
 subst hw hg
 have hown : v.ownBlock ≠ some w.heap.size := fun e => by have := hB.lt_top e; omega
 refine ⟨(bl_off ((hB.below bA (Nat.le_refl _)).mono (Nat.le_refl _)) (.inr (Nat.le_refl _))).mono (by omega), hown, by simp [go_sem], by simp [go_sem], by simp [go_sem], by simp [go_sem], hlo, hb, Nat.lt_succ_self _, by simp, hs⟩
theorem DrS.new {t : TypeId} (hw : w' = w.alloc (.cells #[.int .i64 n, .slice none 0 0] t)) (hg : w.heap.size = g) (hlo : w0.heap.size ≤ g) (hs : sb < w0.heap.size) : DrS E e sb w0 g g (g + 1) n (.slice none 0 0) [] w' := by
 subst hw hg
 exact ⟨Bl.nil, by simp [Value.ownBlock], by simp [go_sem], by simp [go_sem], by simp [go_sem], by simp [go_sem], hlo, Nat.le_refl _, Nat.lt_succ_self _, by simp, hs⟩
theorem off_bl {α : Type} {E : Ty α} {g e base top : Nat} {w : World} {v : Value} {ys : List α} (h : Bl (E.off g) e base top w v ys) : Bl E e base top w v ys := by
 obtain ⟨L, fps, h1, h2, h3⟩ := h
 exact ⟨L, fps, h1, fun i hi => let ⟨cs, h7, h8⟩ := h2 i hi; ⟨cs, h7.1, h8⟩, h3⟩
end
/-- a box of two cells that may be written -/
def ResB (r : Nat) (w : World) : Prop := r < w.heap.size ∧ (∃ u, w.cell? ⟨r, 0, none⟩ = some u) ∧ (∃ u, w.cell? ⟨r, 1, none⟩ = some u) ∧ w.frozen? ⟨r, 0, none⟩ = false ∧ w.frozen? ⟨r, 1, none⟩ = false
section
variable {r sb : Nat} {w w' W : World}
theorem ResB.same (h : ResB r w) (hs : w'.heap[r]? = w.heap[r]?) (hz : w.heap.size ≤ w'.heap.size) : ResB r w' := by
 obtain ⟨h0, ⟨u, h1⟩, ⟨x, h2⟩, h3, h4⟩ := h
 exact ⟨by omega, ⟨u, (World.cell?_of_block (a := ⟨r, 0, none⟩) hs).trans h1⟩, ⟨x, (World.cell?_of_block (a := ⟨r, 1, none⟩) hs).trans h2⟩, (World.frozen?_of_block (a := ⟨r, 0, none⟩) hs).trans h3, (World.frozen?_of_block (a := ⟨r, 1, none⟩) hs).trans h4⟩
theorem ResB.tch (h : ResB r w) (ht : TchP (fun q => q = sb) w w') (hr : r ≠ sb) : ResB r w' := h.same (ht.block r h.1 hr) ht.size
theorem ResB.below {C : Nat} (h : ResB r w) (hb : Below C w w') (hC : r < C) : ResB r w' := h.same (hb.block r hC) hb.size
theorem ResB.other {b i : Nat} {u : Value} (h : ResB r w) (hb : b ≠ r) : ResB r (w.setCell ⟨b, i, none⟩ u) := h.same (Below.heap_setCell _ _ _ _ (fun e => hb (by simpa using e.symm))) (by rw [size_set]; exact Nat.le_refl _)
theorem ResB.new {a b : Value} {t : TypeId} (hw : w' = w.alloc (.cells #[a, b] t)) (hr : w.heap.size = r) : ResB r w' := by
 subst hw hr
 exact ⟨by simp, ⟨a, by simp [go_sem]⟩, ⟨b, by simp [go_sem]⟩, by simp [go_sem], by simp [go_sem]⟩
theorem ResB.grown {row : Option Nat} (h : ResB r w) (hg : w.grownBy w' row) (hr : row ≠ some r) : ResB r w' := h.same (hg.block r h.1 (fun e => hr e.symm)) hg.size
theorem tchG {row : Option Nat} (h : TchP (fun q => q = sb) W w) (hg : w.grownBy w' row) (hr : ∀ b, row = some b → W.heap.size ≤ b) : TchP (fun q => q = sb) W w' :=
 h.then (TchP.grown (O := fun q => row = some q) hg (fun k e => e)) (fun k hk e => by have := hr k e; omega)
theorem srcG {row : Option Nat} {B : Nat} {K : Int} (h : SrcR sb B K w) (hg : w.grownBy w' row) (hr : ∀ b, row = some b → sb < b ∧ B ≤ b) : SrcR sb B K w' :=
 h.tch (TchP.grown (O := fun q => row = some q) hg (fun k e => e)) (fun e => by have := (hr sb e).1; omega) (fun q hq e => by have := (hr q e).2; omega)
theorem tchW {C : Nat} (h : TchP (fun q => q = sb) W w) (hb : Below C w w') (hC : W.heap.size ≤ C) : TchP (fun q => q = sb) W w' :=
 ⟨hb.os.trans h.os, hb.tape.trans h.tape, hb.output.trans h.output, Nat.le_trans h.size hb.size, fun k hk hn => (hb.block k (by omega)).trans (h.block k hk hn)⟩
theorem srcS {B b i : Nat} {K : Int} {u : Value} (h : SrcR sb B K w) (hb : b ≠ sb) (hB : B ≤ b) : SrcR sb B K (w.setCell ⟨b, i, none⟩ u) := h.tch (TchP.set (O := fun q => q = b) rfl) (fun e => hb e.symm) (fun q hq e => by omega)
end
theorem elRel : ElT Tryz.prog 24 43 2 32 := .mk (z := .agg #[.int .i64 0, .slice none 0 0]) Tryz.underlying24 (by kernel_rfl) rfl (by decide)
set_option maxHeartbeats 6400000 in
set_option maxRecDepth 100000 in
theorem l01TemplateDrawn_any (w : World) {sb B : Nat} {K s : Int} (h : SrcR sb B K w) (hK0 : 0 ≤ K) (hK : K ≤ 1000000) (hs : 1 ≤ s ∧ s ≤ 4) :
  Calls Tryz.prog 67 #[.pointer (some ⟨sb, 0, none⟩), .int .i64 s] w (FbR relT 43 (fun t => t.1 = s ∧ t.2.length ≤ 3 ∧ ∀ r ∈ t.2, relOk s r ∧ r.1 ≤ 3) sb B (K + 1000) w) := by
 have H := Lib.hid h
 have hsb := h.lt
 have hBs : B ≤ sb := let ⟨_, _, _, _, _, _, _, _, _, _, _, _, _, _, h⟩ := h; h
 clear h
 go_enter Tryz.func67, Tryz.ntmps67
 go_wp2_with fail
 generalize hW : World.alloc (World.alloc w _) _ = W
 have hbW : Below w.heap.size w W := hW ▸ bAA
 have hsW : w.heap.size + 2 ≤ W.heap.size := by rw [← hW]; simp
 have HR : Hid (ResB w.heap.size W) := by
  rw [← hW]
  exact (ResB.new rfl rfl).below bA (by simp)
 have HD : Hid (DrS relT 43 sb w (w.heap.size + 1) (w.heap.size + 1) (w.heap.size + 2) s (.slice none 0 0) [] W) := by
  rw [← hW]
  exact DrS.new rfl (by simp) (by omega) hsb
 have HS := Lib.hid (H.out.below hbW)
 clear hW
 refine (pick_any W HS.out hK0 (by omega) (n := 4) (by omega)).mono ?_
 rintro e w2 ⟨m, rfl, hm0, hm1, hs2, ht2⟩
 have hz2 := ht2.size
 replace HR := Lib.hid (HR.out.tch ht2 (by omega))
 replace HD := Lib.hid (HD.out.tch ht2)
 replace HS := Lib.hid hs2
 have HT := Lib.hid ((TchP.of_below hbW (fun q => q = sb)).then ht2 (fun q _ h => h))
 clear hs2 ht2
 go_wp2_with fail
 go_loopw [6] (fun i wr => ∃ (k : Nat) (va : Value) (T : List (Int × List (List Int))) (top : Nat), i = .int .i64 k ∧ k + T.length ≤ 3 ∧ (∀ r ∈ T, relOk s r ∧ r.1 ≤ 3) ∧ DrS relT 43 sb w (w.heap.size + 1) (w.heap.size + 1) top s va T wr ∧ ResB w.heap.size wr ∧ SrcR sb B (K + 1 + 200 * (3 - (k : Int))) wr ∧ TchP (fun q => q = sb) w wr) (fun i _ => (intOf i).toNat)
 case atStart =>
  refine ⟨m.toNat, _, [], _, ?_, ?_, fun r hr => (by cases hr), HD.out, HR.out, HS.out.mono (by omega), HT.out⟩
  ·rw [Int.toNat_of_nonneg hm0]
  ·simp; omega
 case round =>
  clear HD HR HS HT
  obtain ⟨k, va, T, top, rfl, hkl, hok, hd, hr, hsr, htc⟩ := hrel
  obtain ⟨wv, rfl⟩ : ∃ wv : World, wv = wr := ⟨_, rfl⟩
  have HD := Lib.hid hd
  have HOK := Lib.hid hok
  have HR := Lib.hid hr
  have HS := Lib.hid hsr
  have HT := Lib.hid htc
  have hw1 : w.heap.size + 2 ≤ wv.heap.size := by have := hd.hi; have := hd.le; omega
  have c1 := hd.c1
  obtain ⟨ta, tn, tc, rfl⟩ := ex_slice (hd.bl.fr (by unfold capMax; omega))
  clear hd hok hr hsr htc
  by_cases hk : 0 < k
  ·have hv0 : Below wv.heap.size wv wv.drew := bD
   have hkI : (0 : Int) < (k : Int) := by omega
   go_wp2_with fail
   refine wp_region_T (fun w' => w'.cell? ⟨w.heap.size + 1, 1, none⟩ = some (.slice ta tn tc)) [9] (by kernel_rfl) c1 (fun hHeld => ?_)
   refine wpAnyT_take (i := 0) (v := ?_) rfl (by kernel_rfl) (fun _ _ _ h => h) (Or.inl ⟨by rfl, ?_⟩) (by assumption) ?_
   rotate_left
   ·(intro w hSw; (try dsimp only at hSw); go_simp <;> with_reducible rfl)
   go_simp
   refine wpAnyT_take (i := 1) (v := ?_) rfl (by kernel_rfl) (fun _ _ _ h => h) (Or.inl ⟨by rfl, ?_⟩) (by assumption) ?_
   rotate_left
   ·(intro w hSw; (try dsimp only at hSw); go_simp <;> with_reducible rfl)
   go_simp
   refine wpAnyT_take (i := 2) (v := ?_) rfl (by kernel_rfl) (fun _ _ _ h => h) (Or.inl ⟨by rfl, ?_⟩) (by assumption) ?_
   rotate_left
   ·(intro w hSw; (try dsimp only at hSw); go_simp <;> with_reducible rfl)
   go_simp
   refine wpAnyT_take (i := 3) (v := ?_) rfl (by kernel_rfl) (fun _ _ _ h => h) (Or.inl ⟨by rfl, ?_⟩) (by assumption) ?_
   rotate_left
   ·(intro w hSw; (try dsimp only at hSw); go_simp <;> with_reducible rfl)
   go_simp
   refine wpAnyT_take (i := 4) (v := ?_) rfl (by kernel_rfl) (fun _ _ _ h => h) (Or.inl ⟨by rfl, ?_⟩) (by assumption) ?_
   rotate_left
   ·(intro w hSw; (try dsimp only at hSw); go_simp <;> with_reducible rfl)
   go_simp
   replace HD := Lib.hid (HD.out.below hv0 HD.out.le)
   replace HR := Lib.hid (HR.out.below hv0 HR.out.1)
   replace HS := Lib.hid (HS.out.below hv0)
   replace HT := Lib.hid (tchW HT.out hv0 (by omega))
   clear c1
   generalize wv.drew = x0 at *
   have hz0 := hv0.size
   refine wpAnyT_one (i := 5) rfl (by kernel_rfl) (fun K' hK' => ?_)
   go_simp
   generalize hWx : World.alloc x0 _ = x1
   have hb1 : Below x0.heap.size x0 x1 := by rw [← hWx]; exact bA
   have HL : Hid (intsT.Fr x0.heap.size x1 [.slice (some ⟨x0.heap.size, 0, none⟩) 5 5] [1, 2, 2, 2, 3]) := by
    rw [← hWx]
    exact fr_intsL rfl rfl (fun a ha => by simp at ha; unfold I64; omega) rfl (Nat.le_refl _) (by decide)
   clear hWx
   have hz1 := hb1.size
   replace HD := Lib.hid (HD.out.below hb1 HD.out.le)
   replace HR := Lib.hid (HR.out.below hb1 HR.out.1)
   replace HS := Lib.hid (HS.out.below hb1)
   replace HT := Lib.hid (tchW HT.out hb1 (by omega))
   refine hK'.out _ _ HD.out.c1 (fun hHeld => ?_)
   clear hK' K'
   refine wpAnyT_one (i := 6) rfl (by kernel_rfl) (fun K' hK' => ?_)
   go_simp
   go_at_call 68
   refine (among_any x1 HS.out (by omega) (by omega) HL.out.rd (by simp) (rdP_fr' HL.out (by omega))).mono ?_
   rintro e x2 ⟨p, hp, rfl, hs2, ht2⟩
   have hpx : 1 ≤ p ∧ p ≤ 3 := by simp at hp; omega
   have hz2' := ht2.size
   replace HD := Lib.hid (HD.out.tch ht2)
   replace HR := Lib.hid (HR.out.tch ht2 (by omega))
   replace HS := Lib.hid hs2
   replace HT := Lib.hid (HT.out.then ht2 (fun q _ h => h))
   clear hp hs2 ht2 HL
   dsimp only
   refine hK'.out _ _ HD.out.c1 (fun hHeld => ?_)
   clear hK' K'
   obtain ⟨ar, rfl⟩ : ∃ ar : Nat, p = (ar : Int) := ⟨p.toNat, by omega⟩
   obtain ⟨N, hN⟩ : ∃ N : Nat, s ^ ar = (N : Int) := ⟨(s ^ ar).toNat, by have h0 : 0 < s ^ ar := Int.pow_pos (by omega); omega⟩
   have hNb : N ≤ 64 := by
    have h1 := pow_mono' (s := s) (c := 4) (by omega) (by omega) ar
    rcases (show ar = 1 ∨ ar = 2 ∨ ar = 3 by omega) with e | e | e <;> subst e <;> simp at h1 <;> omega
   have HN := Lib.hid hN
   clear hN
   refine wpAnyT_one (i := 7) rfl (by kernel_rfl) (fun K' hK' => ?_)
   go_simp
   go_at_call 40
   refine (l01DrawnN_any x2 HS.out (by omega) (by omega) hs (by omega) HN.out).mono ?_
   rintro e x3 ⟨cs, r, rfl, hf, hrok, hr1, hs3, ht3⟩
   obtain ⟨ga, gc, rfl⟩ := fr_pair hf
   have hz3 := ht3.size
   have hto := HD.out.le
   replace HD := Lib.hid (HD.out.tch ht3)
   replace HR := Lib.hid (HR.out.tch ht3 (by omega))
   replace HS := Lib.hid hs3
   replace HT := Lib.hid (HT.out.then ht3 (fun q _ h => h))
   have HF := Lib.hid hf
   have HQ : Hid (relOk s r ∧ r.1 ≤ 3) := ⟨hrok, by omega⟩
   have htop : top ≤ x2.heap.size := hto
   clear hf hrok hr1 hs3 ht3
   dsimp only
   refine hK'.out _ _ HD.out.c1 (fun hHeld => ?_)
   clear hK' K'
   refine wpAnyT_one (i := 8) rfl (by kernel_rfl) (fun K' hK' => ?_)
   go_simp
   refine hK'.out _ _ (by go_keep) (fun hHeld => ?_)
   clear hK' K'
   refine wpAnyT_last (i := 9) rfl (by kernel_rfl) (by kernel_rfl) (fun K' hK' => ?_)
   have hgx := HD.out.hi
   refine step_push (E := relT.off (w.heap.size + 1)) _ rfl _ _ 24 43 rfl elRel rfl ((HD.out.bl.mono htop).below (bA (w := x3)) (by omega)) rfl news2 (fr_off (HF.out.below bA) (by omega)) (by omega) (by decide) (by omega) (by first | (simp; done) | (simp; omega)) ?_
   intro v6 w6 hB6 hg6 hown6
   obtain ⟨xa, xn, xc, rfl⟩ := ex_slice (hB6.fr (by rw [List.length_append]; unfold capMax; simp; omega))
   have hrow : ∀ b, (Value.slice ta tn tc).ownBlock = some b → w.heap.size + 1 ≤ b ∧ b ≠ w.heap.size + 1 := fun b hb => ⟨HD.out.bl.own hb, fun e => HD.out.own (by rw [hb, e])⟩
   obtain ⟨d1, dm⟩ := (HD.out.below (bA (w := x3)) HD.out.le).cells hg6
   have HDx := Lib.hid ((HD.out.below (bA (w := x3)) HD.out.le).row hB6 hg6 hown6)
   replace HR := Lib.hid (((HR.out.below (bA (w := x3)) HR.out.1).grown hg6 (fun e => by have := hrow _ e; omega)).other (b := w.heap.size + 1) (i := 1) (u := .slice xa xn xc) (by omega))
   replace HS := Lib.hid (srcS (b := w.heap.size + 1) (i := 1) (u := .slice xa xn xc) (srcG (HS.out.below (bA (w := x3))) hg6 (fun b hb => by have := hrow b hb; omega)) (by omega) (by omega))
   replace HT := Lib.hid (tchS (g := w.heap.size + 1) (i := 1) (v := .slice xa xn xc) (tchG (tchW HT.out (bA (w := x3)) (by omega)) hg6 (fun b hb => by have := hrow b hb; omega)) (by omega))
   have HOK2 : Hid (∀ r' ∈ T ++ [r], relOk s r' ∧ r'.1 ≤ 3) := fun r' hr' => by
    rcases List.mem_append.1 hr' with hr' | hr'
    ·exact HOK.out r' hr'
    ·rw [List.mem_singleton.1 hr']; exact HQ.out
   clear hB6 hg6 hown6 hrow HD HF HQ HOK
   refine hK'.out _ _ ?_
   clear hK' K'
   refine wpAnyT_any (i := 10) (v := ?_) rfl (by kernel_rfl) (fun _ _ _ h => h) (Or.inl ⟨by rfl, ?_⟩) (by first | exact fun _ => by assumption | (intro hp; exact absurd hp (by rw [show pastB _ _ = true by kernel_rfl]; simp))) ?_
   rotate_left
   ·(intro w hSw; (try dsimp only at hSw); go_simp <;> with_reducible rfl)
   try simp only [Act.put]
   refine wpAnyT_last (i := 11) rfl (by kernel_rfl) (by kernel_rfl) (fun K' hK' => ?_)
   go_simp
   refine hK'.out _ _ ?_
   clear hK' K'
   refine wpAnyT_done (by kernel_rfl) ?_ _
   go_simp
   go_wp2_with fail
   go_roundw
   case rel => exact ⟨k - 1, _, T ++ [r], _, by go_num, by rw [List.length_append, List.length_singleton]; omega, HOK2.out, HDx.out, HR.out, HS.out.mono (by omega), HT.out⟩
   case measure => simp [intOf]; omega
  ·obtain rfl : k = 0 := by omega
   have c0 := HD.out.c0
   have hI : I64 s := I64.small (by omega) (by omega)
   obtain ⟨⟨u0, r0⟩, ⟨u1, r1⟩, q0, q1⟩ := HR.out.2
   obtain ⟨g0, g1⟩ := set2_cells (x := .int .i64 s) (y := .slice ta tn tc) r0 r1
   go_wp2_with fail
   have HF : Hid (Bl relT 43 (w.heap.size + 1) ((wv.setCell ⟨w.heap.size, 0, none⟩ (.int .i64 s)).setCell ⟨w.heap.size, 1, none⟩ (.slice ta tn tc)).heap.size ((wv.setCell ⟨w.heap.size, 0, none⟩ (.int .i64 s)).setCell ⟨w.heap.size, 1, none⟩ (.slice ta tn tc)) (.slice ta tn tc) T) := by
    rw [size_set, size_set]
    exact (((off_bl HD.out.bl).mono HD.out.le).sameB (fun q h1 h2 => Below.heap_setCell _ _ _ _ (by simp; omega))).sameB (fun q h1 h2 => Below.heap_setCell _ _ _ _ (by simp; omega))
   refine bodyPost_ret (v := .agg #[.int .i64 s, .slice ta tn tc]) (by simp [results, Tryz.results67, go_sem, g0, g1]) rfl ⟨.slice ta tn tc, s, T, w.heap.size + 1, rfl, hI, by omega, by rw [size_set, size_set]; omega, HF.out, by omega, ⟨rfl, by show T.length ≤ 3; omega, HOK.out⟩, (srcS (srcS HS.out (by omega) (by omega)) (by omega) (by omega)).mono (by omega), tchS (tchS HT.out (Nat.le_refl _)) (Nat.le_refl _)⟩
end Go.Proofs.YtggelmbnliajeaaGreat
namespace Go.Proofs.YtggelmbnliajeaaGreat
open Go.RowKit Go.Sort
theorem pvR.same {ok : Nat → Prop} {w w' : World} {z : (Int × List Int) × (Int × Value)} (h : pvR ok w z) (hs : ∀ k, ok k → w'.heap[k]? = w.heap[k]?) : pvR ok w' z := by
 obtain ⟨h1, h2, fp, h3, h4⟩ := h
 exact ⟨h1, h2, fp, intsT.same h3 (fun k hk => hs k (h4 k hk)), h4⟩
def XrS (e : TypeId) (sb : Nat) (w0 : World) (lo g top : Nat) (n : Int) (v : Value) (Z : List ((Int × List Int) × (Int × Value))) (w : World) : Prop :=
 DrS pvT e sb w0 lo g top n v (Z.map (·.2)) w ∧ ∀ z ∈ Z, pvR (fun q => lo ≤ q ∧ q ≠ g ∧ v.ownBlock ≠ some q ∧ q < top) w z
section
variable {e : TypeId} {sb lo g top : Nat} {w0 w w' : World} {n : Int} {v : Value} {Z : List ((Int × List Int) × (Int × Value))}
theorem XrS.same (h : XrS e sb w0 lo g top n v Z w) (hs : ∀ k, lo ≤ k → k < top → w'.heap[k]? = w.heap[k]?) (hz : top ≤ w'.heap.size) : XrS e sb w0 lo g top n v Z w' :=
 ⟨h.1.same hs hz, fun z hm => (h.2 z hm).same (fun k hk => hs k hk.1 hk.2.2.2)⟩
theorem XrS.tch (h : XrS e sb w0 lo g top n v Z w) (ht : TchP (fun q => q = sb) w w') : XrS e sb w0 lo g top n v Z w' :=
 h.same (fun k h1 h2 => ht.block k (by have := h.1.le; omega) (by have := h.1.lw; have := h.1.hs; omega)) (Nat.le_trans h.1.le ht.size)
theorem XrS.below {C : Nat} (h : XrS e sb w0 lo g top n v Z w) (hb : Below C w w') (hC : top ≤ C) : XrS e sb w0 lo g top n v Z w' :=
 h.same (fun k _ h2 => hb.block k (by omega)) (Nat.le_trans h.1.le hb.size)
theorem XrS.grown {row : Option Nat} (h : XrS e sb w0 lo g top n v Z w) (hg : w.grownBy w' row) (hr : ∀ b, row = some b → b < lo ∨ top ≤ b) : XrS e sb w0 lo g top n v Z w' :=
 h.same (fun k h1 h2 => hg.block k (by have := h.1.le; omega) (fun e => by have := hr k e.symm; omega)) (Nat.le_trans h.1.le hg.size)
theorem XrS.other {b i : Nat} {u : Value} (h : XrS e sb w0 lo g top n v Z w) (hb : b < lo ∨ top ≤ b) : XrS e sb w0 lo g top n v Z (w.setCell ⟨b, i, none⟩ u) :=
 h.same (fun k h1 h2 => Below.heap_setCell _ _ _ _ (fun e => by simp at e; omega)) (by rw [size_set]; exact h.1.le)
theorem XrS.num (h : XrS e sb w0 lo g top n v Z w) (n' : Int) : XrS e sb w0 lo g top n' v Z (w.setCell ⟨g, 0, none⟩ (.int .i64 n')) :=
 ⟨h.1.num n', fun z hm => (h.2 z hm).same (fun k hk => Below.heap_setCell _ _ _ _ (fun e => hk.2.1 (by simpa using e)))⟩
theorem XrS.push {v' : Value} {z : (Int × List Int) × (Int × Value)} (h : XrS e sb w0 lo g top n v Z w) (hB : Bl (pvT.off g) e lo w'.heap.size w' v' (Z.map (·.2) ++ [z.2])) (hg : w.grownBy w' v.ownBlock) (ho : v'.ownBlock = v.ownBlock ∨ v'.ownBlock = some w.heap.size)
  (hz : pvR (fun q => lo ≤ q ∧ q ≠ g ∧ v.ownBlock ≠ some q ∧ q < w.heap.size) w z) : XrS e sb w0 lo g w'.heap.size n v' (Z ++ [z]) (w'.setCell ⟨g, 1, none⟩ v') := by
 refine ⟨h.1.row (by rw [List.map_append]; exact hB) hg ho, fun y hy => ?_⟩
 have hle := h.1.le
 have hgs := hg.size
 have h1 : pvR (fun q => lo ≤ q ∧ q ≠ g ∧ v.ownBlock ≠ some q ∧ q < w.heap.size) w y := by
  rcases List.mem_append.1 hy with hy | hy
  ·exact (h.2 y hy).mono (fun k _ hk => ⟨hk.1, hk.2.1, hk.2.2.1, by omega⟩)
  ·rw [List.mem_singleton.1 hy]; exact hz
 have h2 : pvR (fun q => lo ≤ q ∧ q ≠ g ∧ v.ownBlock ≠ some q ∧ q < w.heap.size) (w'.setCell ⟨g, 1, none⟩ v') y :=
  h1.same (fun k hk => (Below.heap_setCell _ _ _ _ (fun e => hk.2.1 (by simpa using e))).trans (hg.block k hk.2.2.2 (fun e => hk.2.2.1 e.symm)))
 refine h2.mono (fun k _ hk => ⟨hk.1, hk.2.1, fun e => ?_, by omega⟩)
 rcases ho with eo | eo
 ·rw [eo] at e; exact hk.2.2.1 e
 ·rw [eo] at e; simp at e; omega
end
theorem rels_exPa {ok : Nat → Prop} {w : World} {v : Value} {xs : List (Int × List (List Int))} (h : relsT.RdP ok w [v] xs) : ∃ ad cap, v = .slice ad xs.length cap ∧ (0 < xs.length → ∃ b o, ad = some ⟨b, o, none⟩ ∧ b < w.heap.size ∧ ok b ∧ ∀ i (h : i < xs.length), w.cell? ⟨b, o + i * 2, none⟩ = some (.int .i64 (xs[i]).1)) := by
 obtain ⟨ad, cap, hv, -, -, h3⟩ := slice_exP h
 refine ⟨ad, cap, by simpa using hv, fun h0 => ?_⟩
 obtain ⟨b, o, e, hb, hok, he⟩ := h3 h0
 refine ⟨b, o, e, hb, hok, fun i hi => ?_⟩
 obtain ⟨cs, ⟨fp, ⟨cs', rfl, _, _⟩, _⟩, h6⟩ := he i hi
 exact h6 0 (by simp)
/-- a drawn instance comes back -/
def InR (e : TypeId) (sb B : Nat) (K : Int) (w : World) (en : Ending) (w' : World) : Prop := ∃ (v : Value) (n : Int) (Z : List ((Int × List Int) × (Int × Value))) (b0 : Nat), en = .returned (.agg #[.int .i64 n, v]) ∧ (1 ≤ n ∧ n ≤ 5) ∧ w.heap.size ≤ b0 ∧ b0 ≤ w'.heap.size ∧ Bl pvT e b0 w'.heap.size w' v (Z.map (·.2)) ∧ Z.length ≤ 6 ∧ (∀ z ∈ Z, pvR (fun q => b0 ≤ q ∧ v.ownBlock ≠ some q) w' z) ∧ SrcR sb B K w' ∧ TchP (fun q => q = sb) w w'
theorem elCon : ElT Tryz.prog 27 62 2 32 := .mk (z := .agg #[.int .i64 0, .slice none 0 0]) Tryz.underlying27 (by kernel_rfl) rfl (by decide)
set_option maxHeartbeats 6400000 in
set_option maxRecDepth 100000 in
theorem l05Drawn_any (w : World) {sb B : Nat} {K : Int} (h : SrcR sb B K w) (hK0 : 0 ≤ K) (hK : K ≤ 1000000) {bt : Nat} {vt : Value} {R : List (Int × List (List Int))} (t1 : w.cell? ⟨bt, 1, none⟩ = some vt) (hbt : bt ≠ sb) (ht : relsT.RdP (fun q => q ≠ sb) w [vt] R) (hR : R.length ≤ 100) (har : ∀ r ∈ R, 1 ≤ r.1 ∧ r.1 ≤ 3) :
  Calls Tryz.prog 69 #[.pointer (some ⟨sb, 0, none⟩), .pointer (some ⟨bt, 0, none⟩), .int .i64 5] w (InR 62 sb B (K + 100) w) := by
 have H := Lib.hid h
 have hsb := h.lt
 have hBs : B ≤ sb := let ⟨_, _, _, _, _, _, _, _, _, _, _, _, _, _, h⟩ := h; h
 obtain ⟨ta, tc, rfl, hrel⟩ := rels_exPa ht
 have HA := Lib.hid har
 have HREL := Lib.hid hrel
 have hbt1 := cell_lt t1
 clear h ht har hrel
 go_enter Tryz.func69, Tryz.ntmps69
 go_wp2_with fail
 generalize hW : World.alloc w _ = W
 have hbW : Below w.heap.size w W := hW ▸ bA
 have hsW : w.heap.size + 1 = W.heap.size := by rw [← hW]; simp
 have HR : Hid (ResB w.heap.size W) := by
  rw [← hW]
  exact ResB.new rfl rfl
 have HS := Lib.hid (H.out.below hbW)
 clear hW
 refine (pick_any W HS.out hK0 (by omega) (n := 5) (by omega)).mono ?_
 rintro e w2 ⟨p, rfl, hp0, hp1, hs2, ht2⟩
 have hz2 := ht2.size
 replace HR := Lib.hid (HR.out.tch ht2 (by omega))
 replace HS := Lib.hid hs2
 have HT := Lib.hid ((TchP.of_below hbW (fun q => q = sb)).then ht2 (fun q _ h => h))
 obtain ⟨xn, hxn⟩ : ∃ xn : Nat, 1 + p = (xn : Int) := ⟨(1 + p).toNat, by omega⟩
 have hwr : IntKind.i64.wrap (1 + p) = (xn : Int) := by rw [hxn]; exact wrap_small (by omega) (by omega)
 have hx5 : 1 ≤ xn ∧ xn ≤ 5 := by omega
 clear hs2 ht2 hxn
 go_wp2_with fail
 clear hwr
 generalize hW3 : World.alloc w2 _ = w3
 have hb3 : Below w2.heap.size w2 w3 := hW3 ▸ bA
 have hs3 : w2.heap.size + 1 = w3.heap.size := by rw [← hW3]; simp
 have HD : Hid (XrS 62 sb w w2.heap.size w2.heap.size (w2.heap.size + 1) (xn : Int) (.slice none 0 0) [] w3) := ⟨by
  rw [← hW3]
  exact DrS.new rfl rfl (by omega) hsb, fun z hz => by cases hz⟩
 clear hW3
 replace HR := Lib.hid (HR.out.below hb3 HR.out.1)
 replace HS := Lib.hid (HS.out.below hb3)
 replace HT := Lib.hid (tchW HT.out hb3 (by omega))
 generalize w2.heap.size = g at *
 refine (pick_any w3 HS.out (by omega) (by omega) (n := 7) (by omega)).mono ?_
 rintro e w4 ⟨m, rfl, hm0, hm1, hs4, ht4⟩
 have hz4 := ht4.size
 replace HR := Lib.hid (HR.out.tch ht4 (by omega))
 replace HD := Lib.hid (HD.out.tch ht4)
 replace HS := Lib.hid hs4
 replace HT := Lib.hid (HT.out.then ht4 (fun q _ h => h))
 have hgw : w.heap.size + 1 ≤ g := by omega
 clear hs4 ht4
 go_wp2_with fail
 go_loopw [8] (fun i wr => ∃ (k : Nat) (va : Value) (Z : List ((Int × List Int) × (Int × Value))) (top : Nat), i = .int .i64 k ∧ k + Z.length ≤ 6 ∧ XrS 62 sb w g g top (xn : Int) va Z wr ∧ ResB w.heap.size wr ∧ SrcR sb B (K + 2 + 10 * (6 - (k : Int))) wr ∧ TchP (fun q => q = sb) w wr) (fun i _ => (intOf i).toNat)
 case atStart =>
  refine ⟨m.toNat, _, [], _, ?_, ?_, HD.out, HR.out, HS.out.mono (by omega), HT.out⟩
  ·rw [Int.toNat_of_nonneg hm0]
  ·simp; omega
 case round =>
  clear HD HR HS HT
  obtain ⟨k, va, Z, top, rfl, hkl, hd, hr, hsr, htc⟩ := hrel
  obtain ⟨wv, rfl⟩ : ∃ wv : World, wv = wr := ⟨_, rfl⟩
  have HD := Lib.hid hd
  have HR := Lib.hid hr
  have HS := Lib.hid hsr
  have HT := Lib.hid htc
  have hto := hd.1.le
  have hgt := hd.1.hi
  have hZm : (Z.map (·.2)).length = Z.length := List.length_map _
  obtain ⟨xa, xn', xc, rfl⟩ := ex_slice (hd.1.bl.fr (by rw [hZm]; unfold capMax; omega))
  have e1 := (htc.cell (i := 1) hbt1 hbt).trans t1
  clear hd hr hsr htc
  by_cases hgo : 0 < k ∧ 0 < R.length
  ·obtain ⟨hk, hR0⟩ := hgo
   obtain ⟨rb, ro, rfl, hrb, hrs, hrc⟩ := HREL.out hR0
   have hkI : (0 : Int) < (k : Int) := by omega
   have hRI : (0 : Int) < (R.length : Int) := by omega
   clear hZm
   go_wp2_with fail
   refine (pick_any wv HS.out (by omega) (by omega) (n := (R.length : Int)) (by omega)).mono ?_
   rintro e x1 ⟨q, rfl, hq0, hq1, hs1, ht1⟩
   obtain ⟨q, rfl⟩ : ∃ q' : Nat, q = (q' : Int) := ⟨q.toNat, by omega⟩
   have hqR : q < R.length := by omega
   have hz1 := ht1.size
   have HTw := Lib.hid (HT.out.then ht1 (fun q _ h => h))
   replace HR := Lib.hid (HR.out.tch ht1 (by omega))
   replace HD := Lib.hid (HD.out.tch ht1)
   replace HS := Lib.hid hs1
   clear HT hs1 ht1 e1
   go_wp2_with fail
   generalize hWx : World.alloc x1 _ = x2
   have hb2 : Below x1.heap.size x1 x2 := hWx ▸ bA
   have hsx : x1.heap.size + 1 = x2.heap.size := by rw [← hWx]; simp
   have HC : Hid (DrS Ty.int 2 sb w x1.heap.size x1.heap.size (x1.heap.size + 1) (q : Int) (.slice none 0 0) [] x2) := by
    rw [← hWx]
    exact DrS.new rfl rfl (by omega) hsb
   clear hWx
   replace HR := Lib.hid (HR.out.below hb2 HR.out.1)
   replace HD := Lib.hid (HD.out.below hb2 (by omega))
   replace HS := Lib.hid (HS.out.below hb2)
   have HT := Lib.hid (tchW HTw.out hb2 (by omega))
   have hg2 : top ≤ x1.heap.size := by omega
   clear HTw
   generalize x1.heap.size = g2 at *
   have f1 := (HT.out.cell (i := 1) hbt1 hbt).trans t1
   have f2 := (HT.out.cell (i := ro + q * 2) hrb hrs).trans (hrc q hqR)
   have f3 := HC.out.c0
   have hAR := HA.out _ (List.getElem_mem hqR)
   obtain ⟨ar, har⟩ : ∃ ar : Nat, (R[q]).1 = (ar : Int) := ⟨(R[q]).1.toNat, by omega⟩
   rw [har] at f2 hAR
   clear har hrc
   refine wp_region_T (fun w' => w'.cell? ⟨bt, 1, none⟩ = some (.slice (some ⟨rb, ro, none⟩) R.length tc) ∧ w'.cell? ⟨g2, 0, none⟩ = some (.int .i64 (q : Int)) ∧ w'.cell? ⟨rb, ro + q * 2, none⟩ = some (.int .i64 (ar : Int))) [] (by kernel_rfl) ⟨f1, f3, f2⟩ (fun hHeld => ?_)
   refine wpAnyT_take (i := 0) (v := ?_) rfl (by as_aux_lemma => kernel_rfl) (fun _ _ _ h => h) (Or.inl ⟨by rfl, ?_⟩) (by assumption) ?_
   rotate_left
   ·(intro w hSw; (try dsimp only at hSw); go_simp <;> with_reducible rfl)
   go_simp
   refine wpAnyT_take (i := 1) (v := ?_) rfl (by as_aux_lemma => kernel_rfl) (fun _ _ _ h => h) (Or.inl ⟨by rfl, ?_⟩) (by assumption) ?_
   rotate_left
   ·(intro w hSw; (try dsimp only at hSw); go_simp <;> with_reducible rfl)
   go_simp
   refine wpAnyT_take (i := 2) (v := ?_) rfl (by as_aux_lemma => kernel_rfl) (fun _ _ _ h => h) (Or.inl ⟨by rfl, ?_⟩) (by assumption) ?_
   rotate_left
   ·(intro w hSw; (try dsimp only at hSw); go_simp <;> with_reducible rfl)
   go_simp
   refine wpAnyT_take (i := 3) (v := ?_) rfl (by as_aux_lemma => kernel_rfl) (fun _ _ _ h => h) (Or.inl ⟨by rfl, ?_⟩) (by assumption) ?_
   rotate_left
   ·(intro w hSw; (try dsimp only at hSw); go_simp <;> with_reducible rfl)
   go_simp
   refine wpAnyT_take (i := 4) (v := ?_) rfl (by as_aux_lemma => kernel_rfl) (fun _ _ _ h => h) (Or.inl ⟨by rfl, ?_⟩) (by assumption) ?_
   rotate_left
   ·(intro w hSw; (try dsimp only at hSw); go_simp <;> with_reducible rfl)
   go_simp
   refine wpAnyT_take (i := 5) (v := ?_) rfl (by as_aux_lemma => kernel_rfl) (fun _ _ _ h => h) (Or.inl ⟨by rfl, ?_⟩) (by assumption) ?_
   rotate_left
   ·(intro w hSw; (try dsimp only at hSw); go_simp <;> with_reducible rfl)
   go_simp
   refine wpAnyT_take (i := 6) (v := ?_) rfl (by as_aux_lemma => kernel_rfl) (fun _ _ _ h => h) (Or.inl ⟨by rfl, ?_⟩) (by assumption) ?_
   rotate_left
   ·(intro w hSw; (try dsimp only at hSw); go_simp <;> with_reducible rfl)
   go_simp
   refine wpAnyT_take (i := 7) (v := ?_) rfl (by as_aux_lemma => kernel_rfl) (fun _ _ _ h => h) (Or.inl ⟨by rfl, ?_⟩) (by assumption) ?_
   rotate_left
   ·(intro w hSw; (try dsimp only at hSw); go_simp <;> with_reducible rfl)
   go_simp
   refine wpAnyT_take (i := 8) (v := ?_) rfl (by as_aux_lemma => kernel_rfl) (fun _ _ _ h => h) (Or.inl ⟨by rfl, ?_⟩) (by assumption) ?_
   rotate_left
   ·(intro w hSw; (try dsimp only at hSw); go_simp <;> with_reducible rfl)
   go_simp
   refine wpAnyT_take (i := 9) (v := ?_) rfl (by as_aux_lemma => kernel_rfl) (fun _ _ _ h => h) (Or.inl ⟨by rfl, ?_⟩) (by assumption) ?_
   rotate_left
   ·(intro w hSw; (try dsimp only at hSw); go_simp <;> with_reducible rfl)
   go_simp
   refine wpAnyT_done (by kernel_rfl) ?_ _
   go_simp
   have hv0 : Below x2.heap.size x2 x2.drew := bD
   replace HR := Lib.hid (HR.out.below hv0 HR.out.1)
   replace HD := Lib.hid (HD.out.below hv0 (by omega))
   replace HC := Lib.hid (HC.out.below hv0 (by omega))
   replace HS := Lib.hid (HS.out.below hv0)
   replace HT := Lib.hid (tchW HT.out hv0 (by omega))
   have hz0 := hv0.size
   clear f1 f2 f3 hHeld hv0
   generalize x2.drew = x3 at *
   go_wp2_with fail
   go_loopw [10] (fun i wr => ∃ (j : Nat) (vc : Value) (S : List Int) (tp2 : Nat), i = .int .i64 j ∧ j + S.length ≤ 3 ∧ DrS Ty.int 2 sb w g2 g2 tp2 (q : Int) vc S wr ∧ XrS 62 sb w g g top (xn : Int) (.slice xa xn' xc) Z wr ∧ ResB w.heap.size wr ∧ SrcR sb B (K + 2 + 10 * (6 - (k : Int)) + 1 + (3 - (j : Int))) wr ∧ TchP (fun q => q = sb) w wr) (fun i _ => (intOf i).toNat)
   case atStart => exact ⟨ar, _, [], _, rfl, by simp; omega, HC.out, HD.out, HR.out, HS.out.mono (by omega), HT.out⟩
   case round =>
    clear HC HD HR HS HT
    obtain ⟨j, vc, S, tp2, rfl, hjl, hc, hd, hr, hsr, htc⟩ := hrel
    obtain ⟨wy, rfl⟩ : ∃ wy : World, wy = wr := ⟨_, rfl⟩
    have HC := Lib.hid hc
    have HD := Lib.hid hd
    have HR := Lib.hid hr
    have HS := Lib.hid hsr
    have HT := Lib.hid htc
    have hto2 := hc.le
    have hgt2 := hc.hi
    have htox := hd.1.le
    obtain ⟨ca, cn, cc, rfl⟩ := ex_slice (hc.bl.fr (by unfold capMax; omega))
    have c0 := hc.c0
    have c1 := hc.c1
    have d0 := hd.1.c0
    have d1 := hd.1.c1
    have dm := hd.1.m1
    clear hc hd hr hsr htc
    by_cases hj : 0 < j
    ·have hjI : (0 : Int) < (j : Int) := by omega
     have hv0 : Below wy.heap.size wy wy.drew := bD
     go_wp2_with fail
     refine wp_region_T (fun w' => w'.cell? ⟨g2, 1, none⟩ = some (.slice ca cn cc) ∧ w'.cell? ⟨g, 0, none⟩ = some (.int .i64 (xn : Int))) [7] (by kernel_rfl) ⟨c1, d0⟩ (fun hHeld => ?_)
     refine wpAnyT_take (i := 0) (v := ?_) rfl (by kernel_rfl) (fun _ _ _ h => h) (Or.inl ⟨by rfl, ?_⟩) (by assumption) ?_
     rotate_left
     ·(intro w hSw; (try dsimp only at hSw); go_simp <;> with_reducible rfl)
     go_simp
     refine wpAnyT_take (i := 1) (v := ?_) rfl (by kernel_rfl) (fun _ _ _ h => h) (Or.inl ⟨by rfl, ?_⟩) (by assumption) ?_
     rotate_left
     ·(intro w hSw; (try dsimp only at hSw); go_simp <;> with_reducible rfl)
     go_simp
     refine wpAnyT_take (i := 2) (v := ?_) rfl (by kernel_rfl) (fun _ _ _ h => h) (Or.inl ⟨by rfl, ?_⟩) (by assumption) ?_
     rotate_left
     ·(intro w hSw; (try dsimp only at hSw); go_simp <;> with_reducible rfl)
     go_simp
     refine wpAnyT_take (i := 3) (v := ?_) rfl (by kernel_rfl) (fun _ _ _ h => h) (Or.inl ⟨by rfl, ?_⟩) (by assumption) ?_
     rotate_left
     ·(intro w hSw; (try dsimp only at hSw); go_simp <;> with_reducible rfl)
     go_simp
     refine wpAnyT_take (i := 4) (v := ?_) rfl (by kernel_rfl) (fun _ _ _ h => h) (Or.inl ⟨by rfl, ?_⟩) (by assumption) ?_
     rotate_left
     ·(intro w hSw; (try dsimp only at hSw); go_simp <;> with_reducible rfl)
     go_simp
     replace HC := Lib.hid (HC.out.below hv0 hto2)
     replace HD := Lib.hid (HD.out.below hv0 htox)
     replace HR := Lib.hid (HR.out.below hv0 HR.out.1)
     replace HS := Lib.hid (HS.out.below hv0)
     replace HT := Lib.hid (tchW HT.out hv0 (by omega))
     clear c0 c1 d0 d1 dm
     have hzv := hv0.size
     clear hv0
     generalize wy.drew = y0 at *
     refine wpAnyT_one (i := 5) rfl (by kernel_rfl) (fun K' hK' => ?_)
     go_simp
     go_at_call 39
     refine (pick_any y0 HS.out (by omega) (by omega) (n := (xn : Int)) (by omega)).mono ?_
     rintro e y1 ⟨p, rfl, hp0, hp1, hs1, ht1⟩
     have hzy := ht1.size
     have htc1 := HC.out.le
     replace HC := Lib.hid (HC.out.tch ht1)
     replace HD := Lib.hid (HD.out.tch ht1)
     replace HR := Lib.hid (HR.out.tch ht1 (by omega))
     replace HS := Lib.hid hs1
     replace HT := Lib.hid (HT.out.then ht1 (fun q _ h => h))
     have hIp : I64 p := I64.small (by omega) (by omega)
     clear hs1 ht1
     dsimp only
     refine hK'.out _ _ ⟨HC.out.c1, HD.out.1.c0⟩ (fun hHeld => ?_)
     clear hK' K'
     refine wpAnyT_one (i := 6) rfl (by kernel_rfl) (fun K' hK' => ?_)
     go_simp
     refine hK'.out _ _ ⟨by go_keep, by go_keep⟩ (fun hHeld => ?_)
     clear hK' K'
     refine wpAnyT_last (i := 7) rfl (by kernel_rfl) (by kernel_rfl) (fun K' hK' => ?_)
     refine step_push (E := Ty.int.off g2) _ rfl _ _ 50 2 rfl elInt rfl ((HC.out.bl.mono (show tp2 ≤ y1.heap.size by omega)).below (bA (w := y1)) (by omega)) rfl news1 (fr_off (fr_int (base := y1.heap.size) hIp) (by omega)) (by omega) (by decide) (by omega) (by first | (simp; done) | (simp; omega)) ?_
     intro v6 w6 hB6 hg6 hown6
     obtain ⟨pa, pn, pc, rfl⟩ := ex_slice (hB6.fr (by rw [List.length_append]; unfold capMax; simp; omega))
     have hrow : ∀ b, (Value.slice ca cn cc).ownBlock = some b → g2 ≤ b := fun b hb => HC.out.bl.own hb
     obtain ⟨k1, km⟩ := (HC.out.below (bA (w := y1)) HC.out.le).cells hg6
     replace HC := Lib.hid ((HC.out.below (bA (w := y1)) HC.out.le).row hB6 hg6 hown6)
     replace HD := Lib.hid (((HD.out.below (bA (w := y1)) HD.out.1.le).grown hg6 (fun b hb => .inr (by have := hrow b hb; omega))).other (b := g2) (i := 1) (u := .slice pa pn pc) (.inr (by omega)))
     replace HR := Lib.hid (((HR.out.below (bA (w := y1)) HR.out.1).grown hg6 (fun e => by have := hrow _ e; omega)).other (b := g2) (i := 1) (u := .slice pa pn pc) (by omega))
     replace HS := Lib.hid (srcS (b := g2) (i := 1) (u := .slice pa pn pc) (srcG (HS.out.below (bA (w := y1))) hg6 (fun b hb => by have := hrow b hb; omega)) (by omega) (by omega))
     replace HT := Lib.hid (tchS (g := g2) (i := 1) (v := .slice pa pn pc) (tchG (tchW HT.out (bA (w := y1)) (by omega)) hg6 (fun b hb => by have := hrow b hb; omega)) (by omega))
     clear hB6 hg6 hown6 hrow
     refine hK'.out _ _ ?_
     clear hK' K'
     refine wpAnyT_any (i := 8) (v := ?_) rfl (by kernel_rfl) (fun _ _ _ h => h) (Or.inl ⟨by rfl, ?_⟩) (by first | exact fun _ => by assumption | (intro hp; exact absurd hp (by rw [show pastB _ _ = true by kernel_rfl]; simp))) ?_
     rotate_left
     ·(intro w hSw; (try dsimp only at hSw); go_simp <;> with_reducible rfl)
     try simp only [Act.put]
     refine wpAnyT_last (i := 9) rfl (by kernel_rfl) (by kernel_rfl) (fun K' hK' => ?_)
     go_simp
     refine hK'.out _ _ ?_
     clear hK' K'
     refine wpAnyT_done (by kernel_rfl) ?_ _
     go_simp
     go_wp2_with fail
     go_roundw
     case rel => exact ⟨j - 1, _, S ++ [p], _, by go_num, by rw [List.length_append, List.length_singleton]; omega, HC.out, HD.out, HR.out, HS.out.mono (by omega), HT.out⟩
     case measure => simp [intOf]; omega
    ·obtain rfl : j = 0 := by omega
     have hIq : I64 (q : Int) := I64.small (by omega) (by omega)
     have HZ : Hid (pvR (fun z => g ≤ z ∧ z ≠ g ∧ (Value.slice xa xn' xc).ownBlock ≠ some z ∧ z < wy.heap.size) wy (((q : Int), S), ((q : Int), Value.slice ca cn cc))) := by
      obtain ⟨fp, h1, h2, h3, h4⟩ := (off_bl HC.out.bl).fr (by unfold capMax; omega)
      refine ⟨rfl, hIq, fp, h1, fun z hz => ?_⟩
      have hz1 := h3 z hz
      have hz2 := (Ty.slice Ty.int).lt h1 z hz
      exact ⟨by omega, by omega, fun e => by have := HD.out.1.bl.lt_top e; omega, hz2⟩
     go_wp2_with (refine wpList_push (E := pvT.off g) _ rfl _ _ 27 62 rfl elCon rfl ((HD.out.1.bl.mono htox).below (bA (w := wy)) (Nat.le_refl _)) rfl news2 (fr_off (fr_pv (base := wy.heap.size) hIq rfl) (by omega)) (by rw [List.length_map]; omega) (by decide) (by omega) (by first | (simp; done) | (simp; omega)) ?_; intro v5 w5 hB5 hg5 hown5; obtain ⟨a5, n5, c5, rfl⟩ := ex_slice (hB5.fr (by rw [List.length_append, List.length_map]; unfold capMax; simp only [List.length_singleton]; omega)); obtain ⟨k1, km⟩ := (HD.out.1.below (bA (w := wy)) HD.out.1.le).cells hg5)
     have hrow : ∀ b, (Value.slice xa xn' xc).ownBlock = some b → g ≤ b := fun b hb => HD.out.1.bl.own hb
     have HX := Lib.hid ((HD.out.below (bA (w := wy)) HD.out.1.le).push (z := (((q : Int), S), ((q : Int), Value.slice ca cn cc))) hB5 hg5 hown5 ((HZ.out.below bA).mono (fun z _ hz => ⟨hz.1, hz.2.1, hz.2.2.1, by have := hz.2.2.2; simp; omega⟩)))
     replace HR := Lib.hid (((HR.out.below (bA (w := wy)) HR.out.1).grown hg5 (fun e => by have := hrow _ e; omega)).other (b := g) (i := 1) (u := .slice a5 n5 c5) (by omega))
     replace HS := Lib.hid (srcS (b := g) (i := 1) (u := .slice a5 n5 c5) (srcG (HS.out.below (bA (w := wy))) hg5 (fun b hb => by have := hrow b hb; omega)) (by omega) (by omega))
     replace HT := Lib.hid (tchS (g := g) (i := 1) (v := .slice a5 n5 c5) (tchG (tchW HT.out (bA (w := wy)) (by omega)) hg5 (fun b hb => by have := hrow b hb; omega)) (by omega))
     clear hB5 hg5 hown5 hrow HD HC HZ
     go_wp2_with fail
     go_roundw
     case rel => exact ⟨k - 1, _, Z ++ [(((q : Int), S), ((q : Int), Value.slice ca cn cc))], _, by go_num, by rw [List.length_append, List.length_singleton]; omega, HX.out, HR.out, HS.out.mono (by omega), HT.out⟩
     case measure => simp [intOf]; omega
  ·have d0 := HD.out.1.c0
   have d1 := HD.out.1.c1
   have hIx : I64 (xn : Int) := I64.small (by omega) (by omega)
   obtain ⟨⟨u0, r0⟩, ⟨u1, r1⟩, q0, q1⟩ := HR.out.2
   obtain ⟨g0, g1⟩ := set2_cells (x := .int .i64 (xn : Int)) (y := .slice xa xn' xc) r0 r1
   have HB : Hid (Bl pvT 62 g ((wv.setCell ⟨w.heap.size, 0, none⟩ (.int .i64 (xn : Int))).setCell ⟨w.heap.size, 1, none⟩ (.slice xa xn' xc)).heap.size ((wv.setCell ⟨w.heap.size, 0, none⟩ (.int .i64 (xn : Int))).setCell ⟨w.heap.size, 1, none⟩ (.slice xa xn' xc)) (.slice xa xn' xc) (Z.map (·.2))) := by
    rw [size_set, size_set]
    exact (((off_bl HD.out.1.bl).mono hto).sameB (fun q h1 h2 => Below.heap_setCell _ _ _ _ (by simp; omega))).sameB (fun q h1 h2 => Below.heap_setCell _ _ _ _ (by simp; omega))
   have HV : Hid (∀ z ∈ Z, pvR (fun q => g ≤ q ∧ (Value.slice xa xn' xc).ownBlock ≠ some q) ((wv.setCell ⟨w.heap.size, 0, none⟩ (.int .i64 (xn : Int))).setCell ⟨w.heap.size, 1, none⟩ (.slice xa xn' xc)) z) := fun z hz =>
    (((HD.out.2 z hz).mono (fun k _ hk => ⟨hk.1, hk.2.2.1⟩)).same (fun k hk => Below.heap_setCell _ _ _ _ (fun e => by simp at e; omega))).same (fun k hk => Below.heap_setCell _ _ _ _ (fun e => by simp at e; omega))
   have hZl : Z.length ≤ 6 := by omega
   have HF : InR 62 sb B (K + 100) w (.returned (.agg #[.int .i64 (xn : Int), .slice xa xn' xc])) ((wv.setCell ⟨w.heap.size, 0, none⟩ (.int .i64 (xn : Int))).setCell ⟨w.heap.size, 1, none⟩ (.slice xa xn' xc)) :=
    ⟨.slice xa xn' xc, (xn : Int), Z, g, rfl, by omega, by omega, by rw [size_set, size_set]; omega, HB.out, hZl, HV.out, (srcS (srcS HS.out (by omega) (by omega)) (by omega) (by omega)).mono (by omega), tchS (tchS HT.out (Nat.le_refl _)) (Nat.le_refl _)⟩
   have HFF := Lib.hid HF
   clear HF HB HV HD HS HT HR hZm
   rcases Nat.eq_zero_or_pos k with hk | hk
   ·subst hk
    go_wp2_with fail
    exact bodyPost_ret (v := .agg #[.int .i64 (xn : Int), .slice xa xn' xc]) (by simp [results, Tryz.results69, go_sem, g0, g1]) rfl HFF.out
   ·obtain rfl : R = [] := List.eq_nil_of_length_eq_zero (by omega)
    have hkI : (0 : Int) < (k : Int) := by omega
    go_wp2_with fail
    exact bodyPost_ret (v := .agg #[.int .i64 (xn : Int), .slice xa xn' xc]) (by simp [results, Tryz.results69, go_sem, g0, g1]) rfl HFF.out
end Go.Proofs.YtggelmbnliajeaaGreat
