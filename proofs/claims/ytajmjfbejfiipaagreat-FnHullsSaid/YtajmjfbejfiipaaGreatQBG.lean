/-
Contracts: the atoms of a relation in the formula of the hull, the reference's.
-/
import Derived.Test.YtajmjfbejfiipaaGreatQBF
import Derived.Test.YtajmjfbejfiipaaGreatQAG
import Derived.Test.YtajmjfbejfiipaaGreatQBB
namespace Go.Proofs.YtajmjfbejfiipaaGreat
open Go.RowKit Go.Sort
theorem eqB_sym {α : Type} [DecidableEq α] (a b : α) : eqB a b = eqB b a := by
 unfold eqB
 by_cases h : a = b
 ·subst h; rfl
 ·rw [decide_eq_false h, decide_eq_false (fun e => h e.symm)]
theorem any_sym {a : AtomL} {l : List AtomL} : anyB (fun b => eqB b a) l = anyB (fun b => eqB a b) l := by
 unfold anyB
 congr 1
 funext b
 exact eqB_sym b a
theorem any_take {α : Type} {f : α → Bool} {l : List α} {q : Nat} (h : q < l.length) : anyB f (l.take (q + 1)) = (anyB f (l.take q) || f l[q]) := by
 unfold anyB
 rw [List.take_succ_eq_append_getElem h, List.any_append]
 simp
theorem tch_app' {b i : Nat} {v : Value} {wv wq w5 : World} (h : TchP (fun q => q = b) wv wq) (hb : Below wv.heap.size wq w5) : TchP (fun q => q = b) wv (w5.setCell ⟨b, i, none⟩ v) :=
 ⟨hb.os.trans h.os, hb.tape.trans h.tape, hb.output.trans h.output, by rw [size_set]; exact Nat.le_trans h.size hb.size, fun k hk hn => (Below.heap_setCell _ _ _ _ (fun e => hn (by simp at e; exact e))).trans ((hb.block k hk).trans (h.block k hk hn))⟩
theorem elAtm' : ElT Tryz.prog 45 69 2 32 := .mk (z := .agg #[.int .i64 0, .slice none 0 0]) Tryz.underlying45 (by kernel_rfl) rfl (by decide)
/-- what comes back: the atoms in their own row, or no -/
def AtR (base : Nat) (o : Option (List AtomL)) (w : World) (e : Ending) (w' : World) : Prop :=
 Below base w w' ∧ ∃ v', (o = none ∧ e = .returned (.tuple #[v', .bool false])) ∨ ∃ l', o = some l' ∧ e = .returned (.tuple #[v', .bool true]) ∧ Bl opT 69 base w'.heap.size w' v' l'
set_option maxHeartbeats 12800000 in
set_option maxRecDepth 100000 in
theorem l04Atoms_any (w : World) {w0 : World} {vt vv va : Value} {t : Tpl} {L : List Int} {k ar N base : Nat} {l : List AtomL} (hPt : tplT.Pt w0 vt t) (hV : intsT.Rd w0 [vv] L) (hb0 : Below w0.heap.size w0 w) (hbase : w0.heap.size ≤ base) (hbw : base ≤ w.heap.size)
  (hT : tplOk t) (hk : k < t.2.length) (har : 1 ≤ ar ∧ ar ≤ 3) (hN : t.1 ^ ar = N) (hLN : L.length = N) (hLb : ∀ q, q < N → ∃ a, L[q]? = some a ∧ 0 ≤ a ∧ a ≤ 68) (hB : Bl opT 69 base w.heap.size w va l) (hl : l.length ≤ 16) :
  Calls Tryz.prog 76 #[vt, .int .i64 k, .int .i64 ar, vv, va] w (AtR base (inI t.1 ar L k t.2[k] l (powN (t.2[k]).2.length ar)) w) := by
 obtain ⟨tq, tf, ra, rc, rfl, htq, -, p0, p1, hrl⟩ := pt_pair hPt
 obtain ⟨_, _, hvr, -, -, hre⟩ := pairs_ex hrl
 simp only [List.cons.injEq, Value.slice.injEq, and_true, true_and] at hvr
 obtain ⟨rfl, rfl⟩ := hvr
 obtain ⟨rb, ro, rfl, hrb, hre⟩ := hre (by omega)
 obtain ⟨vR, hvR, hIR, hc0, hc1⟩ := hre k hk
 obtain ⟨vx, vc, hvv, -, -, hvcell⟩ := ints_ex hV
 rw [hLN] at hvv
 obtain rfl : vv = _ := by simpa using hvv
 have hs4 := hT.1
 unfold sizeOk at hs4
 have hl6 := hT.2.1
 have hNb := tabN_bd (tabN_of hT.1 (ar := ar) (by omega) hN)
 obtain ⟨vb, vo, rfl, hvb, hvce⟩ := hvcell (by omega)
 have HVC := Lib.hid hvce
 have HRO := Lib.hid (hT.2.2 _ (List.getElem_mem hk))
 have hbd1 := (rel_bd HRO.out).1
 have hR14 := HRO.out.2.1
 unfold sizeOk at hR14
 have HTL : Hid (∀ y ∈ (t.2[k]).2, (y.length : Int) = (t.2[k]).1 ∧ ∀ a ∈ y, 0 ≤ a ∧ a ≤ t.1 - 1) := fun y hy => by
  obtain ⟨q, hq, rfl⟩ := List.mem_iff_getElem.1 hy
  exact (HRO.out.2.2 q hq).1
 obtain ⟨ta, tc, hvT, htl, htl2, hce⟩ := slices_ex hvR
 obtain rfl : vR = _ := by simpa using hvT
 have HCE := Lib.hid hce
 have HNN := Lib.hid hN
 have HLN := Lib.hid hLN
 have HLb := Lib.hid hLb
 have HB0 := Lib.hid hB
 clear hPt hV hvv hvcell hvce hT hN hLN hLb hB hvT hce hvR hre hrl
 generalize t.2[k] = R at *
 obtain ⟨P, hP⟩ : ∃ P : Nat, powN R.2.length ar = P := ⟨_, rfl⟩
 have HPC : Hid (((R.2.length : Int)) ^ ar = (P : Int)) := by unfold Hid; rw [← hP, powN_cast]
 have hPb : P ≤ 100000000 := by
  have h1 : R.2.length ^ ar ≤ 256 ^ ar := Nat.pow_le_pow_left hbd1 _
  have h2 : 256 ^ ar ≤ 256 ^ 3 := Nat.pow_le_pow_right (by decide) har.2
  have h3 : R.2.length ^ ar = P := hP
  omega
 have HP0 : Hid (P ≠ 0 → 1 ≤ R.2.length) := fun h => by
  rcases Nat.eq_zero_or_pos R.2.length with h1 | h1
  ·exact absurd (by rw [← hP]; unfold powN; rw [h1]; exact Nat.zero_pow har.1) h
  ·exact h1
 rw [hP]
 clear hP
 have s1 := (cellB hb0 htq).trans p1
 have e1 := (cellB hb0 hrb).trans hc1
 obtain ⟨ga, gn, gc, rfl⟩ := ex_slice (HB0.out.fr (by unfold capMax; omega))
 go_enter Tryz.func76, Tryz.ntmps76
 go_wp2_with fail
 clear s1 e1
 go_loopw [4, 14] (fun va i wr => ∃ (c : Nat) (l' : List AtomL), c ≤ P ∧ i = .int .i64 c ∧ inI t.1 ar L k R l c = some l' ∧ Bl opT 69 base wr.heap.size wr va l' ∧ l'.length ≤ 16 ∧ Below base w wr) (fun _ i _ => P - (intOf i).toNat)
 case atStart => exact ⟨0, l, Nat.zero_le _, rfl, rfl, HB0.out, hl, Below.refl _ _⟩
 case round =>
  obtain ⟨c, l', hc, rfl, hin, hBa, hll', hbr⟩ := hrel
  have HB := Lib.hid hBa
  have HI' := Lib.hid hin
  have hzr := hbr.size
  have hBc : Below w0.heap.size w0 wr := hb0.trans (hbr.mono hbase)
  obtain ⟨ga', gn', gc', rfl, hgn⟩ : ∃ ad n cap, u4 = Value.slice ad n cap ∧ n = l'.length := by
   obtain ⟨a', c', h⟩ := fr_slice (hBa.fr (by unfold capMax; omega))
   exact ⟨a', _, c', h, rfl⟩
  have HGN := Lib.hid hgn
  obtain ⟨wc, rfl⟩ : ∃ wc : World, wc = wr := ⟨_, rfl⟩
  clear hBa hin hgn
  by_cases hcl : c < P
  ·have h1R := HP0.out (by omega)
   go_wp2_with (go_at_call 139; refine (l01Power_any _ (R.2.length : Int) (ar : Int) (by omega) (by omega) (by omega)).mono ?_; rintro e w' ⟨rfl, rfl⟩; rw [Int.toNat_natCast, HPC.out])
   refine (l01Digits_any wc (R.2.length : Int) (c : Int) ar (by omega) (by omega) (by omega) (by omega) (by omega)).mono ?_
   rintro e wl ⟨dv, rfl, hdf, hbl⟩
   obtain ⟨ad, ac, rfl⟩ := fr_slice hdf
   rw [digL_len] at hdf ⊢
   have HDf := Lib.hid (rdP_lt (fr_rdP hdf))
   have hzl := hbl.size
   clear hdf
   go_wp2_with fail
   generalize hWA : World.alloc wl _ = wA
   have hbA : Below wl.heap.size wl wA := hWA ▸ bA
   have hzA : wl.heap.size + 1 ≤ wA.heap.size := by rw [← hWA]; simp
   have a0 : wA.cell? ⟨wl.heap.size, 0, none⟩ = some (.int .i64 (k : Int)) := by rw [← hWA]; simp [go_sem]
   have a1 : wA.cell? ⟨wl.heap.size, 1, none⟩ = some (.slice none 0 0) := by rw [← hWA]; simp [go_sem]
   have n1 : wA.frozen? ⟨wl.heap.size, 1, none⟩ = false := by rw [← hWA]; simp [go_sem]
   have hbcA : Below wc.heap.size wc wA := bthen hbl hbA
   have hBA : Below w0.heap.size w0 wA := hBc.trans (hbcA.mono (by omega))
   have HD := Lib.hid (HDf.out.below hbA)
   have HTU := Lib.hid (picks_tups (ar := ar) (i := (c : Int)) HRO.out (by omega))
   clear hWA HDf
   go_wp2_with fail
   go_loopw [17] (fun i wr => ∃ (p : Nat) (x : Value), p ≤ R.1.toNat ∧ i = .int .i64 p ∧ Bl Ty.int 2 wA.heap.size wr.heap.size wr x ((atL L (cellsL t.1 ar R c)).take p) ∧ wr.cell? ⟨wl.heap.size, 0, none⟩ = some (.int .i64 (k : Int)) ∧ wr.cell? ⟨wl.heap.size, 1, none⟩ = some x ∧ wr.frozen? ⟨wl.heap.size, 1, none⟩ = false ∧ TchP (fun q => q = wl.heap.size) wA wr) (fun i _ => R.1.toNat - (intOf i).toNat)
   case atStart => exact ⟨0, _, Nat.zero_le _, rfl, by simpa using Bl.nil, a0, a1, n1, TchP.refl _ _⟩
   case round =>
    clear a0 a1 n1
    obtain ⟨p, x, hp, rfl, hBx, a0, a1, n1, htp⟩ := hrel
    have HBX := Lib.hid hBx
    have HTP := Lib.hid htp
    have hzp := htp.size
    have hBp : Below w0.heap.size w0 wr := hBA.trans (htp.below (by omega) (fun q hq e => by omega))
    have d0 := (cellB hBp hrb).trans hc0
    have d1 := (cellB hBp hrb).trans hc1
    have s0 := (cellB hBp htq).trans p0
    have hxl : ((atL L (cellsL t.1 ar R c)).take p).length ≤ 4 := by rw [List.length_take, atL_len, cells_len]; omega
    obtain ⟨xa, xn, xc, rfl⟩ := ex_slice (hBx.fr (by unfold capMax; omega))
    obtain ⟨wp, rfl⟩ : ∃ wp : World, wp = wr := ⟨_, rfl⟩
    clear hBx htp
    by_cases hpl : p < R.1.toNat
    ·have hpI : (p : Int) < R.1 := by omega
     go_wp2_with fail
     generalize hWe : World.alloc wp _ = we
     have hbe : Below wp.heap.size wp we := hWe ▸ bA
     have hse : wp.heap.size + 1 ≤ we.heap.size := by rw [← hWe]; simp
     have HE0 : Hid (Bl Ty.int 2 wp.heap.size we.heap.size we (.slice (some ⟨wp.heap.size, 0, none⟩) 0 0) []) := by
      unfold Hid
      rw [← hWe]
      simpa using Bl.lit0 (E := Ty.int) (e := 2) (base := wp.heap.size) (w := wp) (Nat.le_refl _)
     clear hWe
     go_loopw [18, 19] (fun v i wq => ∃ q : Nat, q ≤ ar ∧ i = .int .i64 q ∧ Bl Ty.int 2 wp.heap.size wq.heap.size wq v ((colL (picks R.2 ar (c : Int)) p).take q) ∧ Below wp.heap.size wp wq) (fun _ i _ => ar - (intOf i).toNat)
     case atStart => exact ⟨0, Nat.zero_le _, rfl, by rw [List.take_zero]; exact HE0.out, hbe⟩
     case round =>
      obtain ⟨q, hq, rfl, hBq, hbq⟩ := hrel
      have HBQ := Lib.hid hBq
      have hzq := hbq.size
      clear hBq HE0
      have hlc3 : ((colL (picks R.2 ar (c : Int)) p).take q).length ≤ 3 := by rw [List.length_take, colL_len, picks_len]; omega
      obtain ⟨va4, vn4, vc4, rfl⟩ := ex_slice (HBQ.out.fr (by unfold capMax; omega))
      have hBq := hBp.trans (hbq.mono (by have := hBp.size; omega))
      replace d0 := (cellB hbq (by omega)).trans d0
      replace d1 := (cellB hbq (by omega)).trans d1
      replace s0 := (cellB hbq (by omega)).trans s0
      replace a0 := (cellB hbq (by omega)).trans a0
      replace a1 := (cellB hbq (by omega)).trans a1
      replace n1 := (frozenB hbq (by omega)).trans n1
      obtain ⟨wq, rfl⟩ : ∃ wq : World, wq = wr := ⟨_, rfl⟩
      by_cases hql : q < ar
      ·have hqI : (q : Int) < (ar : Int) := by omega
       have hqd : q < (digL (R.2.length : Int) (c : Int) ar).length := by rw [digL_len]; exact hql
       have HDp := ((HD.out.tchP HTP.out (fun q' _ h e => by have := h.2; have := h.1; omega)).below hbq).rd
       obtain ⟨_, _, hdv, -, -, hdc⟩ := ints_ex HDp
       simp only [List.cons.injEq, Value.slice.injEq, and_true] at hdv
       obtain ⟨rfl, -, rfl⟩ := hdv
       obtain ⟨db, dq, rfl, hdb, hdcc⟩ := hdc (by omega)
       obtain ⟨-, f7⟩ := hdcc q hqd
       obtain ⟨dn, hdn⟩ : ∃ dn : Nat, (digL (R.2.length : Int) (c : Int) ar)[q] = (dn : Int) := ⟨((digL (R.2.length : Int) (c : Int) ar)[q]).toNat, by have := dig_mem (n := (R.2.length : Int)) (by omega) (List.getElem_mem hqd); omega⟩
       have hdn2 := dig_mem (n := (R.2.length : Int)) (by omega) (List.getElem_mem hqd)
       rw [hdn] at f7 hdn2
       have hdnl : dn < R.2.length := by omega
       obtain ⟨tb, tq', rfl, htb, hce⟩ := HCE.out (by omega)
       obtain ⟨ud, hud, hcd⟩ := hce dn hdnl
       have hdr := HTL.out _ (List.getElem_mem hdnl)
       have hpd : p < (R.2[dn]).length := by have := hdr.1; omega
       obtain ⟨da, dc, hde, -, -, hdc2⟩ := ints_ex hud
       obtain rfl : ud = _ := by simpa using hde
       obtain ⟨b9, o9, rfl, hb9, hc9⟩ := hdc2 (by omega)
       obtain ⟨hI9, e9⟩ := hc9 p hpd
       have f8 := (cellB hBq htb).trans hcd
       have f9 := (cellB hBq hb9).trans e9
       have hqc : q < (colL (picks R.2 ar (c : Int)) p).length := by rw [colL_len, picks_len]; exact hql
       have HSN : Hid ((colL (picks R.2 ar (c : Int)) p).take q ++ [(R.2[dn])[p]] = (colL (picks R.2 ar (c : Int)) p).take (q + 1)) := by
        unfold Hid
        rw [List.take_succ_eq_append_getElem hqc, col_at rfl hqd hdn hdnl hpd hqc]
       generalize (R.2[dn])[p] = xv at *
       clear HDp hdc hdcc hdn hce hud hcd hdr hdc2 hc9 e9 hqd hdn2 hqc
       go_wp2_with fail
       refine wp_region_T (fun w' => w'.cell? ⟨rb, ro + k * 2 + 1, none⟩ = some (.slice (some ⟨tb, tq', none⟩) R.2.length tc) ∧ w'.cell? ⟨db, dq + q, none⟩ = some (.int .i64 (dn : Int)) ∧ w'.cell? ⟨tb, tq' + dn, none⟩ = some (.slice (some ⟨b9, o9, none⟩) (R.2[dn]).length dc) ∧ w'.cell? ⟨b9, o9 + p, none⟩ = some (.int .i64 xv)) [15] (by kernel_rfl) ⟨d1, f7, f8, f9⟩ (fun hHeld => ?_)
       refine wpAnyT_take (i := 0) (v := ?_) rfl (by kernel_rfl) (fun _ _ _ h => h) (Or.inl ⟨by rfl, ?_⟩) (by assumption) ?_
       rotate_left
       ·(intro w hSw; (try dsimp only at hSw); go_simp <;> with_reducible rfl)
       go_simp
       refine wpAnyT_take (i := 1) (v := ?_) rfl (by kernel_rfl) (fun _ _ _ h => h) (Or.inl ⟨by rfl, ?_⟩) (by assumption) ?_
       rotate_left
       ·(intro w hSw; (try dsimp only at hSw); go_simp <;> with_reducible rfl)
       go_simp
       refine wpAnyT_take (i := 2) (v := ?_) rfl (by kernel_rfl) (fun _ _ _ h => h) (Or.inl ⟨by rfl, ?_⟩) (by assumption) ?_
       rotate_left
       ·(intro w hSw; (try dsimp only at hSw); go_simp <;> with_reducible rfl)
       go_simp
       refine wpAnyT_take (i := 3) (v := ?_) rfl (by kernel_rfl) (fun _ _ _ h => h) (Or.inl ⟨by rfl, ?_⟩) (by assumption) ?_
       rotate_left
       ·(intro w hSw; (try dsimp only at hSw); go_simp <;> with_reducible rfl)
       go_simp
       refine wpAnyT_take (i := 4) (v := ?_) rfl (by kernel_rfl) (fun _ _ _ h => h) (Or.inl ⟨by rfl, ?_⟩) (by assumption) ?_
       rotate_left
       ·(intro w hSw; (try dsimp only at hSw); go_simp <;> with_reducible rfl)
       go_simp
       refine wpAnyT_take (i := 5) (v := ?_) rfl (by kernel_rfl) (fun _ _ _ h => h) (Or.inl ⟨by rfl, ?_⟩) (by assumption) ?_
       rotate_left
       ·(intro w hSw; (try dsimp only at hSw); go_simp <;> with_reducible rfl)
       go_simp
       refine wpAnyT_take (i := 6) (v := ?_) rfl (by kernel_rfl) (fun _ _ _ h => h) (Or.inl ⟨by rfl, ?_⟩) (by assumption) ?_
       rotate_left
       ·(intro w hSw; (try dsimp only at hSw); go_simp <;> with_reducible rfl)
       go_simp
       refine wpAnyT_take (i := 7) (v := ?_) rfl (by kernel_rfl) (fun _ _ _ h => h) (Or.inl ⟨by rfl, ?_⟩) (by assumption) ?_
       rotate_left
       ·(intro w hSw; (try dsimp only at hSw); go_simp <;> with_reducible rfl)
       go_simp
       refine wpAnyT_take (i := 8) (v := ?_) rfl (by kernel_rfl) (fun _ _ _ h => h) (Or.inl ⟨by rfl, ?_⟩) (by assumption) ?_
       rotate_left
       ·(intro w hSw; (try dsimp only at hSw); go_simp <;> with_reducible rfl)
       go_simp
       refine wpAnyT_take (i := 9) (v := ?_) rfl (by kernel_rfl) (fun _ _ _ h => h) (Or.inl ⟨by rfl, ?_⟩) (by assumption) ?_
       rotate_left
       ·(intro w hSw; (try dsimp only at hSw); go_simp <;> with_reducible rfl)
       go_simp
       refine wpAnyT_take (i := 10) (v := ?_) rfl (by kernel_rfl) (fun _ _ _ h => h) (Or.inl ⟨by rfl, ?_⟩) (by assumption) ?_
       rotate_left
       ·(intro w hSw; (try dsimp only at hSw); go_simp <;> with_reducible rfl)
       go_simp
       refine wpAnyT_take (i := 11) (v := ?_) rfl (by kernel_rfl) (fun _ _ _ h => h) (Or.inl ⟨by rfl, ?_⟩) (by assumption) ?_
       rotate_left
       ·(intro w hSw; (try dsimp only at hSw); go_simp <;> with_reducible rfl)
       go_simp
       refine wpAnyT_take (i := 12) (v := ?_) rfl (by kernel_rfl) (fun _ _ _ h => h) (Or.inl ⟨by rfl, ?_⟩) (by assumption) ?_
       rotate_left
       ·(intro w hSw; (try dsimp only at hSw); go_simp <;> with_reducible rfl)
       go_simp
       refine wpAnyT_take (i := 13) (v := ?_) rfl (by kernel_rfl) (fun _ _ _ h => h) (Or.inl ⟨by rfl, ?_⟩) (by assumption) ?_
       rotate_left
       ·(intro w hSw; (try dsimp only at hSw); go_simp <;> with_reducible rfl)
       go_simp
       refine wpAnyT_one (i := 14) rfl (by kernel_rfl) (fun K hK => ?_)
       go_simp
       refine hK.out _ _ ⟨by go_keep, by go_keep, by go_keep, by go_keep⟩ (fun hHeld => ?_)
       clear hK K
       refine wpAnyT_last (i := 15) rfl (by kernel_rfl) (by kernel_rfl) (fun K hK => ?_)
       have hbX : ∀ ob : Obj, Below wq.heap.size wq (wq.drew.alloc ob) := fun ob => (Below.refl _ wq).drew.alloc (by simp) ob
       refine step_push (E := Ty.int) _ rfl _ _ 38 2 rfl elInt rfl (HBQ.out.below (hbX _) (Nat.le_refl _)) rfl news1 (fr_int hI9) (by omega) (by decide) (by omega) (by first | (simp; done) | (simp; omega)) ?_
       intro v5 w5 hB5 hg5 hown
       have hb5 : Below wp.heap.size wp w5 := (hbq.trans ((hbX _).mono (by omega))).grown hg5 (by first | (simp; done) | (simp; omega)) (fun q hq => HBQ.out.ge hq)
       rw [HSN.out] at hB5
       have HB5 := Lib.hid hB5
       clear hB5 hg5 hown
       refine hK.out _ _ ?_
       clear hK K
       refine wpAnyT_last (i := 16) rfl (by kernel_rfl) (by kernel_rfl) (fun K hK => ?_)
       go_simp
       refine hK.out _ _ ?_
       clear hK K
       refine wpAnyT_done (by kernel_rfl) ?_ _
       go_simp
       go_wp2_with fail
       go_roundw
       case rel => exact ⟨q + 1, by omega, by go_num, HB5.out, hb5⟩
       case measure => simp [intOf]; omega
      ·obtain rfl : q = ar := by omega
       have hcl2 : (colL (picks R.2 q (c : Int)) p).length = q := by rw [colL_len, picks_len]
       have htk : (colL (picks R.2 q (c : Int)) p).take q = colL (picks R.2 q (c : Int)) p := List.take_of_length_le (by omega)
       have hBf := HBQ.out
       rw [htk] at hBf
       have HCRD := Lib.hid (hBf.fr (by rw [hcl2]; unfold capMax; omega)).rd
       have hcin := colL_in HTU.out hpl
       have HCIN := Lib.hid hcin
       have hix := idx_lt (s := t.1) (by omega) hcl2 hcin
       rw [HNN.out] at hix
       obtain ⟨j, hj⟩ : ∃ j : Nat, idxL t.1 0 (colL (picks R.2 q (c : Int)) p) = j := ⟨(idxL t.1 0 (colL (picks R.2 q (c : Int)) p)).toNat, by omega⟩
       have hjN : j < N := by omega
       have hjL : j < L.length := Nat.lt_of_lt_of_eq hjN HLN.out.symm
       obtain ⟨a, hLa, ha0, ha1⟩ := HLb.out j hjN
       have hLj : L[j] = a := by
        rw [List.getElem?_eq_getElem hjL] at hLa
        exact Option.some.inj hLa
       have hcj := (cellB hBq hvb).trans (HVC.out j hjL).2
       rw [hLj] at hcj
       have hpc : p < (atL L (cellsL t.1 q R c)).length := by rw [atL_len, cells_len]; exact hpl
       have HSN : Hid ((atL L (cellsL t.1 q R c)).take p ++ [a] = (atL L (cellsL t.1 q R c)).take (p + 1)) := by
        unfold Hid
        rw [List.take_succ_eq_append_getElem hpc]
        congr 2
        have h1 : (atL L (cellsL t.1 q R c))[p] = L.getD (idxL t.1 0 (colL (picks R.2 q (c : Int)) p)).toNat 0 := by simp [atL, cellsL]
        rw [h1, hj, Int.toNat_natCast, List.getD_eq_getElem?_getD, hLa]
        rfl
       have hIa : I64 a := I64.small (by omega) (by omega)
       have HJ := Lib.hid hj
       have hl5 : (colL (picks R.2 q (c : Int)) p).length ≤ 5 := by omega
       have hwl : wl.heap.size < wq.heap.size := by omega
       clear hcl2 htk hBf hcin hix hLa hLj hpc hj HBQ
       go_wp2_with fail
       refine wp_region_T (fun w' => w'.cell? ⟨wl.heap.size, 1, none⟩ = some (.slice xa xn xc) ∧ w'.cell? ⟨tq, tf, none⟩ = some (.int .i64 t.1) ∧ w'.cell? ⟨vb, vo + j, none⟩ = some (.int .i64 a)) [12] (by kernel_rfl) ⟨a1, s0, hcj⟩ (fun hHeld => ?_)
       refine wpAnyT_take (i := 0) (v := ?_) rfl (by kernel_rfl) (fun _ _ _ h => h) (Or.inl ⟨by rfl, ?_⟩) (by assumption) ?_
       rotate_left
       ·(intro w hSw; (try dsimp only at hSw); go_simp <;> with_reducible rfl)
       go_simp
       refine wpAnyT_take (i := 1) (v := ?_) rfl (by kernel_rfl) (fun _ _ _ h => h) (Or.inl ⟨by rfl, ?_⟩) (by assumption) ?_
       rotate_left
       ·(intro w hSw; (try dsimp only at hSw); go_simp <;> with_reducible rfl)
       go_simp
       refine wpAnyT_take (i := 2) (v := ?_) rfl (by kernel_rfl) (fun _ _ _ h => h) (Or.inl ⟨by rfl, ?_⟩) (by assumption) ?_
       rotate_left
       ·(intro w hSw; (try dsimp only at hSw); go_simp <;> with_reducible rfl)
       go_simp
       refine wpAnyT_take (i := 3) (v := ?_) rfl (by kernel_rfl) (fun _ _ _ h => h) (Or.inl ⟨by rfl, ?_⟩) (by assumption) ?_
       rotate_left
       ·(intro w hSw; (try dsimp only at hSw); go_simp <;> with_reducible rfl)
       go_simp
       refine wpAnyT_take (i := 4) (v := ?_) rfl (by kernel_rfl) (fun _ _ _ h => h) (Or.inl ⟨by rfl, ?_⟩) (by assumption) ?_
       rotate_left
       ·(intro w hSw; (try dsimp only at hSw); go_simp <;> with_reducible rfl)
       go_simp
       refine wpAnyT_take (i := 5) (v := ?_) rfl (by kernel_rfl) (fun _ _ _ h => h) (Or.inl ⟨by rfl, ?_⟩) (by assumption) ?_
       rotate_left
       ·(intro w hSw; (try dsimp only at hSw); go_simp <;> with_reducible rfl)
       go_simp
       refine wpAnyT_take (i := 6) (v := ?_) rfl (by kernel_rfl) (fun _ _ _ h => h) (Or.inl ⟨by rfl, ?_⟩) (by assumption) ?_
       rotate_left
       ·(intro w hSw; (try dsimp only at hSw); go_simp <;> with_reducible rfl)
       go_simp
       refine wpAnyT_take (i := 7) (v := ?_) rfl (by kernel_rfl) (fun _ _ _ h => h) (Or.inl ⟨by rfl, ?_⟩) (by assumption) ?_
       rotate_left
       ·(intro w hSw; (try dsimp only at hSw); go_simp <;> with_reducible rfl)
       go_simp
       refine wpAnyT_one (i := 8) rfl (by kernel_rfl) (fun K hK => ?_)
       go_simp
       go_at_call 75
       refine (l01Code_any _ t.1 (HCRD.out.below bD) (by omega) (by omega) hl5 HCIN.out).mono ?_
       rintro e w' ⟨rfl, rfl⟩
       rw [HJ.out]
       dsimp only
       refine hK.out _ _ ⟨a1, s0, hcj⟩ (fun hHeld => ?_)
       clear hK K
       refine wpAnyT_take (i := 9) (v := ?_) rfl (by kernel_rfl) (fun _ _ _ h => h) (Or.inl ⟨by rfl, ?_⟩) (by assumption) ?_
       rotate_left
       ·(intro w hSw; (try dsimp only at hSw); go_simp <;> with_reducible rfl)
       go_simp
       refine wpAnyT_take (i := 10) (v := ?_) rfl (by kernel_rfl) (fun _ _ _ h => h) (Or.inl ⟨by rfl, ?_⟩) (by assumption) ?_
       rotate_left
       ·(intro w hSw; (try dsimp only at hSw); go_simp <;> with_reducible rfl)
       go_simp
       refine wpAnyT_one (i := 11) rfl (by kernel_rfl) (fun K hK => ?_)
       go_simp
       refine hK.out _ _ ⟨by go_keep, by go_keep, by go_keep⟩ (fun hHeld => ?_)
       clear hK K
       refine wpAnyT_last (i := 12) rfl (by kernel_rfl) (by kernel_rfl) (fun K hK => ?_)
       have hbX : ∀ ob : Obj, Below wp.heap.size wp (wq.drew.alloc ob) := fun ob => hbq.drew.alloc (by simp; omega) ob
       refine step_push (E := Ty.int) _ rfl _ _ 38 2 rfl elInt rfl (HBX.out.below (hbX _) (Nat.le_refl _)) rfl news1 (fr_int hIa) (by omega) (by decide) (by omega) (by first | (simp; done) | (simp; omega)) ?_
       intro v5 w5 hB5 hg5 hown5
       obtain ⟨va5, vn5, vc5, rfl⟩ := ex_slice (hB5.fr (by rw [List.length_append]; unfold capMax; simp; omega))
       have hb5 : RowKit.Below wA.heap.size wp w5 := ((hbX _).mono (by omega)).grown hg5 (by first | (simp; done) | (simp; omega)) (fun q hq => HBX.out.own hq)
       have hb5q : RowKit.Below wA.heap.size wq w5 := ((Below.refl _ wq).drew.alloc (by simp; omega) _).grown hg5 (by first | (simp; done) | (simp; omega)) (fun q hq => HBX.out.own hq)
       rw [HSN.out] at hB5
       have HB5 := Lib.hid hB5
       replace a0 := (cellB hb5q (by omega)).trans a0
       replace a1 := (cellB hb5q (by omega)).trans a1
       replace n1 := (frozenB hb5q (by omega)).trans n1
       clear hB5 hg5 hown5 hb5q
       refine hK.out _ _ ?_
       clear hK K
       refine wpAnyT_any (i := 13) (v := ?_) rfl (by kernel_rfl) (fun _ _ _ h => h) (Or.inl ⟨by rfl, ?_⟩) (by first | exact fun _ => by assumption | (intro hp; exact absurd hp (by rw [show pastB _ _ = true by kernel_rfl]; simp))) ?_
       rotate_left
       ·(intro w hSw; (try dsimp only at hSw); go_simp <;> with_reducible rfl)
       try simp only [Act.put]
       refine wpAnyT_last (i := 14) rfl (by kernel_rfl) (by kernel_rfl) (fun K hK => ?_)
       go_simp
       refine hK.out _ _ ?_
       clear hK K
       refine wpAnyT_done (by kernel_rfl) ?_ _
       go_simp
       go_wp2_with fail
       go_roundw
       case rel => exact ⟨p + 1, _, by omega, by go_num, by rw [size_set]; exact HB5.out.sameB (fun q h1 h2 => Below.heap_setCell _ _ _ _ (by simp; omega)), (World.cell?_setCell_other _ _ _ _ (by simp)).trans a0, World.cell?_setCell_same _ _ _ a1, (World.frozen?_setCell _ _ _ _).trans n1, tch_app' HTP.out hb5⟩
       case measure => simp [intOf]; omega
    ·obtain rfl : p = R.1.toNat := by omega
     have hnp : ¬ ((R.1.toNat : Int) < R.1) := by omega
     obtain ⟨a, ha⟩ : ∃ a : AtomL, a = ((k : Int), atL L (cellsL t.1 ar R c)) := ⟨_, rfl⟩
     have HA := Lib.hid ha
     have HSTP := Lib.hid (inI_step HI'.out)
     have hcel : (cellsL t.1 ar R c).length = R.1.toNat := cells_len
     have hxe : (atL L (cellsL t.1 ar R c)).take R.1.toNat = atL L (cellsL t.1 ar R c) := List.take_of_length_le (by rw [atL_len, hcel]; exact Nat.le_refl _)
     unfold Hid at HBX HSTP
     rw [hxe] at HBX hxl
     rw [show ((k : Int), atL L (cellsL t.1 ar R c)) = a from ha.symm] at HSTP
     have ha1 : a.1 = (k : Int) := by rw [ha]
     have ha2 : a.2 = atL L (cellsL t.1 ar R c) := by rw [ha]
     rw [← ha2] at HBX hxl
     have HBX := Lib.hid HBX
     have HSTP := Lib.hid HSTP
     have hAfr : intsT.Fr wA.heap.size wp [.slice xa xn xc] a.2 := HBX.out.fr (by unfold capMax; omega)
     have HAF := Lib.hid hAfr
     have hI1 : I64 (k : Int) := I64.small (by omega) (by omega)
     have hard : opT.Rd wp [.int .i64 (k : Int), .slice xa xn xc] a := by
      have h1 : opT.Rd wp [.int .i64 (k : Int), .slice xa xn xc] ((k : Int), a.2) := pair_mk hI1 hAfr.rd
      rw [show ((k : Int), a.2) = a from by rw [← ha1]] at h1
      exact h1
     have HPa : Hid (opT.Pt wp (.pointer (some ⟨wl.heap.size, 0, none⟩)) a) := ⟨_, 0, _, rfl, by omega, hard, fun j hj => by
      have hj2 : j < 2 := hj
      match j, hj2 with
      | 0, _ => exact a0
      | 1, _ => exact a1⟩
     have HB2 : Hid (Bl opT 69 base wc.heap.size wp (.slice ga' gn' gc') l') := (HB.out.below hbcA (Nat.le_refl _)).sameB (fun q h1 h2 => HTP.out.block q (by omega) (by omega))
     have HLR := Lib.hid (HB2.out.fr (by unfold capMax; omega)).rd
     have hcp : wc.heap.size < wp.heap.size := by omega
     have hbwp : Below base w wp := (hbr.trans (hbcA.mono hzr |>.mono hbw)).trans (HTP.out.below (by omega) (fun q hq e => by omega))
     have HBW := Lib.hid hbwp
     clear ha hxe hcel ha1 ha2 hAfr hard HB hbwp
     go_wp2_with fail
     clear d0 d1 s0
     go_loopw [20, 21] (fun kn i wr => ∃ q : Nat, q ≤ l'.length ∧ i = .int .i64 q ∧ kn = .bool (anyB (fun b => eqB b a) (l'.take q)) ∧ Quiet wp wr) (fun _ i _ => l'.length - (intOf i).toNat)
     case atStart => exact ⟨0, Nat.zero_le _, rfl, by simp [anyB], Quiet.refl _⟩
     case round =>
      obtain ⟨q, hq, rfl, rfl, hqw⟩ := hrel
      obtain ⟨nq, rfl⟩ := hqw
      have hgn' := HGN.out
      by_cases hql : q < l'.length
      ·have hqg : q < gn' := by omega
       obtain ⟨_, _, hvL, -, -, hcL⟩ := Ty.slice_ex HLR.out
       simp only [List.cons.injEq, Value.slice.injEq, and_true] at hvL
       obtain ⟨rfl, -, rfl⟩ := hvL
       obtain ⟨gb, go, rfl, hgb, -⟩ := hcL (by omega)
       have HPq : Hid (opT.Pt wp (.pointer (some ⟨gb, go + q * 2, none⟩)) l'[q]) := pt_elem HLR.out hql
       have HTK := Lib.hid (any_take (f := fun b => eqB b a) hql)
       clear hgn' hcL
       generalize l'[q] = y at *
       cases hkn : anyB (fun b => eqB b a) (l'.take q)
       ·rw [hkn] at HTK
        go_wp2_with (go_at_call 150; refine (l03SameAtom_quiet _ (HPq.out.below (Quiet.drewN wp nq).below) (HPa.out.below (Quiet.drewN wp nq).below)).mono ?_; rintro e w' ⟨rfl, nq2, rfl⟩)
        go_roundw
        case rel => exact ⟨q + 1, by omega, by go_num, by rw [HTK.out]; simp, (by first | exact Quiet.refl _ | exact Quiet.drewN _ _ | exact (Quiet.drewN _ _).then (Quiet.drewN _ _) | exact ((Quiet.drewN _ _).then (Quiet.drewN _ _)).then (Quiet.drewN _ _))⟩
        case measure => simp [intOf]; omega
       ·rw [hkn] at HTK
        go_wp2_with fail
        go_roundw
        case rel => exact ⟨q + 1, by omega, by go_num, by rw [HTK.out]; simp, (by first | exact Quiet.refl _ | exact Quiet.drewN _ _ | exact (Quiet.drewN _ _).then (Quiet.drewN _ _) | exact ((Quiet.drewN _ _).then (Quiet.drewN _ _)).then (Quiet.drewN _ _))⟩
        case measure => simp [intOf]; omega
      ·obtain rfl : q = l'.length := by omega
       have hqg : ¬ ((l'.length : Int) < (gn' : Int)) := by omega
       have hta : anyB (fun b => eqB b a) (l'.take l'.length) = anyB (fun b => eqB a b) l' := by rw [List.take_length, any_sym]
       rw [hta]
       have hqq : Below wp.heap.size wp (wp.drewN nq) := (Quiet.drewN wp nq).below
       clear hta
       cases hany : anyB (fun b => eqB a b) l'
       rotate_left
       ·have HS7 : Hid (inI t.1 ar L k R l (c + 1) = some l') := by rw [HSTP.out]; exact addA_old hany
        have HBW2 := Lib.hid (HBW.out.trans (hqq.mono (by omega)))
        have HB3 := Lib.hid ((HB2.out.below hqq (by omega)).mono (top' := (wp.drewN nq).heap.size) (by simp; omega))
        clear hgn' hqq
        go_wp2_with fail
        go_roundw
        case rel => exact ⟨c + 1, l', by omega, by go_num, HS7.out, HB3.out, hll', HBW2.out⟩
        case measure => simp [intOf]; omega
       ·have HY : Hid (opT.Fr wc.heap.size wp [.int .i64 (k : Int), .slice xa xn xc] a) := by
         have hfr1 : (Ty.cons intsT).Fr wA.heap.size wp [.int .i64 (k : Int), .slice xa xn xc] ((k : Int), a.2) := fr_cons hI1 HAF.out
         have h1 := hfr1.mono (base' := wc.heap.size) (by omega)
         rw [show ((k : Int), a.2) = a from by rw [HA.out]] at h1
         exact h1
        cases h16 : ((gn' : Int) == 16)
        ·have h17 : l'.length < 16 := by have : (gn' : Int) ≠ 16 := (by simpa using h16); omega
         have HS7 : Hid (inI t.1 ar L k R l (c + 1) = some (l' ++ [a])) := by rw [HSTP.out]; exact addA_new hany (by omega)
         clear hgn'
         go_wp2_with (at_builtin; go_loud (refine wpList_push (E := opT) _ rfl _ _ 45 69 rfl elAtm' rfl (HB2.out.below ((hqq.alloc (by simp) _).mono (by omega)) (Nat.le_refl _)) rfl (news2' (by simp)) (HY.out.below (hqq.alloc (by simp) _)) (by omega) (by decide) (by omega) (by first | (simp; done) | (simp; omega)) ?_; intro v9 w9 hB9 hg9 ho9; refine Hid.out ?_))
         refine Lib.hid ?_
         have hb9 : RowKit.Below base wp w9 := ((hqq.alloc (by simp) _).mono (by omega)).grown hg9 (by simp; omega) (fun q hq => HB2.out.own hq)
         have HB9 := Lib.hid hB9
         have HBW2 := Lib.hid (HBW.out.trans hb9)
         clear hB9 hg9 ho9 hqq
         go_wp2_with fail
         go_roundw
         case rel => exact ⟨c + 1, l' ++ [a], by omega, by go_num, HS7.out, HB9.out, by rw [List.length_append]; simp; omega, HBW2.out⟩
         case measure => simp [intOf]; omega
        ·have h17 : l'.length = 16 := by have : (gn' : Int) = 16 := (by simpa using h16); omega
         have hno : inI t.1 ar L k R l P = none := inI_none (by rw [HSTP.out]; exact addA_no hany (by omega)) (show c + 1 ≤ P by omega)
         have HR : Hid (AtR base (inI t.1 ar L k R l P) w (.returned (.tuple #[.slice ga' gn' gc', .bool false])) (wp.drewN nq)) := ⟨HBW.out.trans (hqq.mono (by omega)), _, .inl ⟨hno, rfl⟩⟩
         clear hgn' h17 hno hqq
         go_wp2_with fail
         refine bodyPost_ret (v := .tuple #[.slice ga' gn' gc', .bool false]) (by simp [results, Tryz.results76, go_sem]) rfl HR.out
  ·obtain rfl : c = P := by omega
   have HR : Hid (AtR base (inI t.1 ar L k R l c) w (.returned (.tuple #[.slice ga' gn' gc', .bool true])) wc) := ⟨hbr, _, .inr ⟨l', HI'.out, rfl, HB.out⟩⟩
   go_wp2_with (go_at_call 139; refine (l01Power_any _ (R.2.length : Int) (ar : Int) (by omega) (by omega) (by omega)).mono ?_; rintro e w' ⟨rfl, rfl⟩; rw [Int.toNat_natCast, HPC.out])
   refine bodyPost_ret (v := .tuple #[.slice ga' gn' gc', .bool true]) (by simp [results, Tryz.results76, go_sem]) rfl HR.out
end Go.Proofs.YtajmjfbejfiipaaGreat
