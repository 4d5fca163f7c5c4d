/-
Plain: what FnReplaced asks, in one place.
Contracts: relations and tuples compared; whether a relation has a tuple, and whether an operation keeps a relation, checked.
Contracts: a relation of a formula replaced by a formula, the reference's.
Contracts: copies of relations, the reference's; a template extended by a formula, both sides.
Contracts: a template extended by a formula, the reference's.
Contracts: the reference's sameness of formulas and of instances.
-/
import Derived.Test.YtajmjfbejfiipaaGreatQAJ
import Derived.Test.YtajmjfbejfiipaaGreatQAI
import Derived.Test.YtajmjfbejfiipaaGreatQAC
import Derived.Test.YtajmjfbejfiipaaGreatQAH
import Derived.Test.YtajmjfbejfiipaaGreatQAB
import Derived.Test.YtajmjfbejfiipaaGreatQAG
import Derived.Test.YtajmjfbejfiipaaGreatQAF
namespace Go.Proofs.YtajmjfbejfiipaaGreat
open Go.RowKit Go.Sort
section
variable {t : Tpl} {g h : Frm}
theorem xt_yes (hg : frmOk t g) (hl : t.2.length ≤ 5) : xtV t g = xtT t g ∧ xtC t g = 0 := xt_0 (tb_true hg) (by simp; omega)
theorem rep_codes (hg : frmOk t g) (hl : t.2.length ≤ 5) (hh : frmOk (xtT t g) h) : repC0 (xtT t g) h t.2.length g = 0 :=
 repC_0 (by unfold repOk; rw [tb_true hh, tb_true (frmOk_up hg hl hg)]; rfl) (inB_true.2 ⟨by omega, by simp [xtT]⟩) (by rw [xtT_ar]; simp)
theorem rep_code (hg : frmOk t g) (hl : t.2.length ≤ 5) (hh : frmOk (xtT t g) h) : repC (xtT t g) h t.2.length g = 0 ∨ repC (xtT t g) h t.2.length g = 3 := by
 rw [(rplV_yes (rep_codes hg hl hh)).2]
 by_cases h1 : (repF h t.2.length g).2.1 ≤ 8 ∧ (repF h t.2.length g).2.2.length ≤ 16
 ·exact .inl (lim_yes h1).2
 ·exact .inr (lim_no h1).2
theorem rep_value (hg : frmOk t g) (hl : t.2.length ≤ 5) (hh : frmOk (xtT t g) h) (hc : repC (xtT t g) h t.2.length g = 0) :
  frmOk t (rplV (xtT t g) h t.2.length g) ∧ (∀ a ∈ (rplV (xtT t g) h t.2.length g).2.2, a.1 ≠ (t.2.length : Int)) ∧ vaR t (rplV (xtT t g) h t.2.length g) = vaR (xtT t g) h := by
 have h0 := rep_codes hg hl hh
 have hlim : (repF h t.2.length g).2.1 ≤ 8 ∧ (repF h t.2.length g).2.2.length ≤ 16 := by
  rcases Classical.em ((repF h t.2.length g).2.1 ≤ 8 ∧ (repF h t.2.length g).2.2.length ≤ 16) with h1 | h1
  ·exact h1
  ·rw [(rplV_yes h0).2, (lim_no h1).2] at hc
   cases hc
 rw [(rplV_yes h0).1, (lim_yes hlim).1]
 have hhf := hh.2.1
 unfold frameOk at hhf
 obtain ⟨n, hn⟩ : ∃ n : Nat, h.1 = (n : Int) := ⟨h.1.toNat, by omega⟩
 obtain ⟨m, hm⟩ : ∃ m : Nat, h.2.1 = (m : Int) := ⟨h.2.1.toNat, by omega⟩
 have htake : h.2.2.take h.2.2.length = h.2.2 := List.take_length
 have hs := hg.1.1.1
 have hgen := rep_holds hg hh (y := List.replicate m 0) (by simp [hm]) (fun a ha => by rw [List.eq_of_mem_replicate ha]; omega) h.2.2.length (Nat.le_refl _)
 have hat : ∀ a ∈ (repF h t.2.length g).2.2, atomOk t (repF h t.2.length g).2.1 a := hgen.1.2
 have hge : h.2.1 ≤ (repF h t.2.length g).2.1 := hgen.1.1
 have hok : frmOk t (repF h t.2.length g) := ⟨hg.1, ⟨hhf.1, ⟨Int.le_trans hhf.2.1.1 hge, hlim.1⟩, hlim.2⟩, hat⟩
 refine ⟨hok, fun a ha => atomOk_ne (hat a ha), rel_ext (va_ok hok) (va_ok (t := xtT t g) hh) rfl fun l => ?_⟩
 rw [va_mem hok (n := n) hn, va_mem hh hn]
 refine and_congr_right fun hl2 => ?_
 constructor
 ·rintro ⟨x, x1, x2, x3, x4⟩
  have x1' : (x.length : Int) = (repF h t.2.length g).2.1 := x1
  have hyl : ((x.take m).length : Int) = h.2.1 := by rw [List.length_take]; omega
  have hyi : ∀ a ∈ x.take m, 0 ≤ a ∧ a ≤ t.1 - 1 := fun a ha => x2 a (List.mem_of_mem_take ha)
  have hrep := (rep_holds hg hh hyl hyi h.2.2.length (Nat.le_refl _)).2
  rw [htake] at hrep
  refine ⟨x.take m, hyl, hyi, ?_, hrep.1 ⟨x.drop m, by rw [List.take_append_drop]; exact x1', fun a ha => x2 a (List.mem_of_mem_drop ha), by rw [List.take_append_drop]; exact x4⟩⟩
  rw [List.take_take, Nat.min_eq_left (by have := hl2.1; omega)]
  exact x3
 ·rintro ⟨y, y1, y2, y3, y4⟩
  have hrep := (rep_holds hg hh y1 y2 h.2.2.length (Nat.le_refl _)).2
  rw [htake] at hrep
  obtain ⟨z, z1, z2, z3⟩ := hrep.2 y4
  refine ⟨y ++ z, z1, fun a ha => (List.mem_append.1 ha).elim (y2 a) (z2 a), ?_, z3⟩
  rw [List.take_append_of_le_length (by have := hl2.1; omega)]
  exact y3
theorem upL_at {n : Nat} {l : List Int} (hl : l.length = n) : atL l (upL 0 n) = l := by
 subst hl
 refine List.ext_getElem (by simp [atL, upL]) fun i h1 h2 => ?_
 simp [atL, upL, h2]
theorem atom_value (hg : frmOk t g) (hl : t.2.length ≤ 5) : atomC (xtT t g) t.2.length = 0 ∧ frmOk (xtT t g) (atomV (xtT t g) t.2.length) ∧ vaR (xtT t g) (atomV (xtT t g) t.2.length) = vaR t g := by
 have hgf := hg.2.1
 unfold frameOk at hgf
 obtain ⟨n, hn⟩ : ∃ n : Nat, g.1 = (n : Int) := ⟨g.1.toNat, by omega⟩
 have hT := xtT_ok hg hl
 obtain ⟨e1, e2⟩ := atom_0 (t := xtT t g) (rel := t.2.length) (tb_true hT) (inB_true.2 ⟨by omega, by simp [xtT]⟩)
 rw [xtT_ar, hn, Int.toNat_natCast] at e1
 have hup : ∀ p ∈ upL 0 n, 0 ≤ p ∧ p ≤ (n : Int) - 1 := fun p hp => by
  simp [upL] at hp
  obtain ⟨q, hq, rfl⟩ := hp
  omega
 have hok : frmOk (xtT t g) (atomV (xtT t g) t.2.length) := by
  rw [e1]
  refine ⟨hT, ⟨⟨by show (1 : Int) ≤ n; omega, by show (n : Int) ≤ 4; omega⟩, ⟨Int.le_refl _, by show (n : Int) ≤ 8; omega⟩, by simp⟩, fun a ha => ?_⟩
  rw [List.mem_singleton.1 ha]
  refine ⟨by show arOf (xtT t g) _ ≠ 0; rw [xtT_ar]; omega, by show ((upL 0 n).length : Int) = arOf (xtT t g) _; rw [xtT_ar, hn]; simp [upL], hup⟩
 refine ⟨e2, hok, rel_ext (va_ok hok) (show relOk (xtT t g).1 (vaR t g) from va_ok hg) (by rw [e1]; exact hn.symm) fun l => ?_⟩
 rw [va_mem hok (n := n) (by rw [e1])]
 have hne : (((t.2.length : Int)) == -1) = false := by simp
 have hha : ∀ x : List Int, x.length = n → (holdsA (xtT t g) x ((t.2.length : Int), upL 0 n) = true ↔ x ∈ (vaR t g).2) := fun x hx => by
  rw [holdsA_rel (a := ((t.2.length : Int), upL 0 n)) hne, tb_iff]
  unfold holdsC
  dsimp only
  rw [relAt_new, upL_at hx]
 unfold ValP
 rw [e1]
 constructor
 ·rintro ⟨h1, x, x1, x2, x3, x4⟩
  have hxl : x.length = n := by have : (x.length : Int) = (n : Int) := x1; omega
  rw [h1.1, ← hxl, List.take_length] at x3
  subst x3
  exact (hha x hxl).1 (x4 _ (List.mem_singleton.2 rfl))
 ·intro hm
  have h1 := ((va_mem hg hn).1 hm).1
  exact ⟨h1, l, by show (l.length : Int) = n; rw [h1.1], h1.2, List.take_length, fun a ha => by rw [List.mem_singleton.1 ha]; exact (hha l h1.1).2 hm⟩
end
end Go.Proofs.YtajmjfbejfiipaaGreat
namespace Go.Proofs.YtajmjfbejfiipaaGreat
open Go.RowKit Go.Sort
theorem specSameRel_any (w : World) {cs cs' : Array Value} {x y : Int × List (List Int)} (h : relT.Rd w cs.toList x) (h' : relT.Rd w cs'.toList y) :
  Calls Tryz.prog 12 #[.agg cs, .agg cs'] w fun e w' => e = .returned (.bool (eqB x y)) ∧ Below w.heap.size w w' := by
 have p1 := (pt_box (T := 32) h)
 have p2 := (pt_box (T := 32) (h'.below (bA (o := .cells cs.toList.toArray 32))))
 obtain ⟨u, hv, _⟩ := pair_ex h
 obtain rfl := agg_of hv
 obtain ⟨u', hv', _⟩ := pair_ex h'
 obtain rfl := agg_of hv'
 have p1' := p1.below (bA (o := .cells [.int .i64 y.1, u'].toArray 32))
 clear hv hv' h h' p1
 go_enter Tryz.func12, Tryz.ntmps12
 go_wp2_with fail
 rw [World.size_alloc] at p2
 refine (l01Same_quiet _ p1' p2).mono ?_
 rintro e w1 ⟨rfl, n, rfl⟩
 go_wp2_with fail
 go_ret
 exact ⟨rfl, (by repeat (first | exact Below.refl _ _ | exact bA | assumption | refine Below.setCell ?_ (by first | omega | (simp; try omega)) _ | refine Below.alloc ?_ (by first | omega | (simp; try omega)) _ | refine Below.drew ?_ | refine bDN ?_ | refine bthen ?_ (by assumption)))⟩
set_option maxHeartbeats 1600000 in
theorem Keeps_any (w : World) {cs cs' : Array Value} {f : Int × List Int} {r : Int × List (List Int)} (hf : opT.Rd w cs.toList f) (h : relT.Rd w cs'.toList r) {s : Int} (hr : relOk s r) (ho : opOk s f) :
  Calls Tryz.prog 15 #[.int .i64 s, .agg cs, .agg cs'] w fun e w' => e = .returned (.tuple #[.bool (tb (keepsP s f r)), .int .i64 0]) ∧ Below w.heap.size w w' := by
 have hvo : tb (opOk s f) = true := tb_true ho
 have hvr : tb (relOk s r) = true := tb_true hr
 obtain ⟨u2, hv2, hI, hx⟩ := pair_ex hf
 obtain rfl := agg_of hv2
 obtain ⟨u3, hv3, hI3, hx3⟩ := pair_ex h
 obtain rfl := agg_of hv3
 have HF := Lib.hid hf
 have H := Lib.hid h
 have HR := Lib.hid hr
 have HO := Lib.hid ho
 clear h hx hv2 hf hr ho hv3 hx3
 go_enter Tryz.func15, Tryz.ntmps15
 go_wp2_with fail
 generalize hW : World.alloc (World.alloc w _) _ = W
 have hbW : Below w.heap.size w W := hW ▸ bthen bA bA
 have hsW : w.heap.size + 2 ≤ W.heap.size := by rw [← hW]; simp
 have f0 : W.cell? ⟨w.heap.size, 0, none⟩ = some (.int .i64 f.1) := by rw [← hW]; simp [go_sem]
 have f1 : W.cell? ⟨w.heap.size, 1, none⟩ = some u2 := by rw [← hW]; simp [go_sem]
 have g0 : W.cell? ⟨w.heap.size + 1, 0, none⟩ = some (.int .i64 r.1) := by rw [← hW]; simp [go_sem]
 have g1 : W.cell? ⟨w.heap.size + 1, 1, none⟩ = some u3 := by rw [← hW]; simp [go_sem]
 clear hW
 refine (ValidOp_any W (f := f) (HF.out.below hbW) s).mono ?_
 rintro e w1 ⟨rfl, hb1⟩
 rw [hvo]
 have hz1 := hb1.size
 have hbw1 := bthen hbW hb1
 replace f0 := (cellB hb1 (by omega)).trans f0
 replace f1 := (cellB hb1 (by omega)).trans f1
 replace g0 := (cellB hb1 (by omega)).trans g0
 replace g1 := (cellB hb1 (by omega)).trans g1
 clear hvo
 go_wp2_with fail
 refine (ValidRel_any w1 (r := r) (H.out.below hbw1) s).mono ?_
 rintro e w2 ⟨rfl, hb2⟩
 rw [hvr]
 have hz2 := hb2.size
 have hbw2 := bthen hbw1 hb2
 replace f0 := (cellB hb2 (by omega)).trans f0
 replace f1 := (cellB hb2 (by omega)).trans f1
 replace g0 := (cellB hb2 (by omega)).trans g0
 replace g1 := (cellB hb2 (by omega)).trans g1
 clear hvr
 go_wp2_with fail
 refine (keeps_any w2 (f := f) (r := r) (HF.out.below hbw2) (H.out.below hbw2) HR.out HO.out).mono ?_
 rintro e w3 ⟨rfl, hb3⟩
 go_wp2_with fail
 go_ret2
 exact ⟨rfl, bthen hbw2 hb3⟩
end Go.Proofs.YtajmjfbejfiipaaGreat
namespace Go.Proofs.YtajmjfbejfiipaaGreat
open Go.RowKit Go.Sort
theorem putTo_self {args : List Int} {p : Nat} {behind : Int} (h : args.length = p) : toL (putTo args p behind) p = args := by
 apply List.ext_getElem
 ·rw [toL_len, h]
 ·intro i h1 h2
  simp only [toL, List.getElem_map, List.getElem_range]
  rw [put_lt (by omega), Int.toNat_natCast, List.getD_eq_getElem?_getD, List.getElem?_eq_getElem h2]
  rfl
set_option maxHeartbeats 6400000 in
set_option maxRecDepth 100000 in
theorem specReplaceRel_any (w : World) {cs cf cg : Array Value} {t : Int × List (Int × List (List Int))} {f g : Int × Int × List (Int × List Int)} (h : tplT.Rd w cs.toList t) (hf : frmT.Rd w cf.toList f) {rel : Int} (hg : frmT.Rd w cg.toList g) :
  Calls Tryz.prog 34 #[.agg cs, .agg cf, .int .i64 rel, .agg cg] w (RetAC frmT w (rplV t f rel g) (repC t f rel g)) := by
 have p0 : tplT.Pt (((w.alloc (.cells cs 26)).alloc (.cells cf 47)).alloc (.cells cg 47)) (.pointer (some ⟨w.heap.size, 0, none⟩)) t := ((pt_box h).below bA).below bA
 have p1 : frmT.Pt (((w.alloc (.cells cs 26)).alloc (.cells cf 47)).alloc (.cells cg 47)) (.pointer (some ⟨w.heap.size + 1, 0, none⟩)) f := by
  simpa using (pt_box (T := 47) (hf.below (bA (o := .cells cs 26)))).below (bA (o := .cells cg 47))
 have p2 : frmT.Pt (((w.alloc (.cells cs 26)).alloc (.cells cf 47)).alloc (.cells cg 47)) (.pointer (some ⟨w.heap.size + 2, 0, none⟩)) g := by
  simpa using pt_box (T := 47) (hg.below (bAA (o := .cells cs 26) (o' := .cells cf 47)))
 obtain ⟨v1, hv, hI, htx⟩ := pair_ex h
 obtain rfl := agg_of hv
 obtain ⟨v2, hv2, hIf, hIf2, hfx⟩ := trip_ex hf
 obtain rfl := agg_of hv2
 obtain ⟨v3, hv3, -, -, hgx⟩ := trip_ex hg
 obtain rfl := agg_of hv3
 obtain ⟨ta, tc, htv, -, -, htcell⟩ := pairs_ex htx
 obtain rfl : v1 = _ := by simpa using htv
 obtain ⟨fa, fc, hfv, -, -, hfcell⟩ := pairs_ex hfx
 obtain rfl : v2 = _ := by simpa using hfv
 obtain ⟨ga, gn, gc, rfl⟩ := rd_sl hgx
 have HTC := Lib.hid htcell
 have HFC := Lib.hid hfcell
 have HGX := Lib.hid hgx
 clear h hf hg hv hv2 hv3 hfx hgx htx htv hfv htcell hfcell
 go_enter Tryz.func34, Tryz.ntmps34
 go_wp2_with fail
 have P0 := p0.below (bA (o := .cells #[.int .i64 0, .int .i64 0, .slice none 0 0] 47))
 have P1 := p1.below (bA (o := .cells #[.int .i64 0, .int .i64 0, .slice none 0 0] 47))
 have P2 := p2.below (bA (o := .cells #[.int .i64 0, .int .i64 0, .slice none 0 0] 47))
 generalize hW : World.alloc (World.alloc (World.alloc (World.alloc _ _) _) _) _ = W at P0 P1 P2 ⊢
 have hbW : Below w.heap.size w W := hW ▸ (((bAA (w := w)).alloc (by simp; omega) _).alloc (by simp; omega) _)
 have hsW : W.heap.size = w.heap.size + 4 := by rw [← hW]; simp
 have t0 : W.cell? ⟨w.heap.size, 0, none⟩ = some (.int .i64 t.1) := by rw [← hW]; simp [go_sem]
 have t1 : W.cell? ⟨w.heap.size, 1, none⟩ = some (.slice ta t.2.length tc) := by rw [← hW]; simp [go_sem]
 have f0 : W.cell? ⟨w.heap.size + 1, 0, none⟩ = some (.int .i64 f.1) := by rw [← hW]; simp [go_sem]
 have f1 : W.cell? ⟨w.heap.size + 1, 1, none⟩ = some (.int .i64 f.2.1) := by rw [← hW]; simp [go_sem]
 have f2 : W.cell? ⟨w.heap.size + 1, 2, none⟩ = some (.slice fa f.2.2.length fc) := by rw [← hW]; simp [go_sem]
 have g0 : W.cell? ⟨w.heap.size + 2, 0, none⟩ = some (.int .i64 g.1) := by rw [← hW]; simp [go_sem]
 have g1 : W.cell? ⟨w.heap.size + 2, 1, none⟩ = some (.int .i64 g.2.1) := by rw [← hW]; simp [go_sem]
 have g2 : W.cell? ⟨w.heap.size + 2, 2, none⟩ = some (.slice ga gn gc) := by rw [← hW]; simp [go_sem]
 have r0 : W.cell? ⟨w.heap.size + 3, 0, none⟩ = some (.int .i64 0) := by rw [← hW]; simp [go_sem]
 have r1 : W.cell? ⟨w.heap.size + 3, 1, none⟩ = some (.int .i64 0) := by rw [← hW]; simp [go_sem]
 have r2 : W.cell? ⟨w.heap.size + 3, 2, none⟩ = some (.slice none 0 0) := by rw [← hW]; simp [go_sem]
 have m0 : W.frozen? ⟨w.heap.size + 3, 0, none⟩ = false := by rw [← hW]; simp [go_sem]
 have m1 : W.frozen? ⟨w.heap.size + 3, 1, none⟩ = false := by rw [← hW]; simp [go_sem]
 have m2 : W.frozen? ⟨w.heap.size + 3, 2, none⟩ = false := by rw [← hW]; simp [go_sem]
 clear hW p0 p1 p2
 have HBAD : Hid (∀ (w1 : World) (c : Int), Below w.heap.size w w1 → repC0 t f rel g = c → c ≠ 0 → RetAC frmT w (rplV t f rel g) (repC t f rel g) (.returned (.tuple #[.agg #[.int .i64 0, .int .i64 0, .slice none 0 0], .int .i64 c])) (set3 w1 (w.heap.size + 3) (.int .i64 0) (.int .i64 0) (.slice none 0 0))) := by
  intro w1 c hb hc h0
  obtain ⟨e1, e2⟩ := rplV_no (show repC0 t f rel g ≠ 0 by rw [hc]; exact h0)
  exact ⟨[.int .i64 0, .int .i64 0, .slice none 0 0], by rw [e2, hc], by rw [e1]; exact fr_frm0, set3_below hb (by omega)⟩
 refine (l03Ok_quiet _ P0 P1).mono ?_
 rintro e w1 ⟨rfl, hq1⟩
 have hb1 := hq1.below
 have PT := Lib.hid (P0.below hb1)
 have PG := Lib.hid (P2.below hb1)
 clear hq1 P0 P1 P2
 have hz1 := hb1.size
 have hB1 := bthen hbW hb1
 replace t0 := (cellB hb1 (by omega)).trans t0
 replace t1 := (cellB hb1 (by omega)).trans t1
 replace f0 := (cellB hb1 (by omega)).trans f0
 replace f1 := (cellB hb1 (by omega)).trans f1
 replace f2 := (cellB hb1 (by omega)).trans f2
 replace g0 := (cellB hb1 (by omega)).trans g0
 replace g1 := (cellB hb1 (by omega)).trans g1
 replace g2 := (cellB hb1 (by omega)).trans g2
 replace r0 := (cellB hb1 (by omega)).trans r0
 replace r1 := (cellB hb1 (by omega)).trans r1
 replace r2 := (cellB hb1 (by omega)).trans r2
 replace m0 := (frozenB hb1 (by omega)).trans m0
 replace m1 := (frozenB hb1 (by omega)).trans m1
 replace m2 := (frozenB hb1 (by omega)).trans m2
 cases hT : tb (frmOk t f)
 ·have HR := Lib.hid (repC_1 (rel := rel) (show repOk t f g = false by rw [repOk, hT]; rfl))
  clear hT
  obtain ⟨q0, q1, q2⟩ := set3_cells (x := .int .i64 0) (y := .int .i64 0) (z := .slice none 0 0) r0 r1 r2
  go_wp2_with fail
  exact bodyPost_ret (v := .tuple #[.agg #[.int .i64 0, .int .i64 0, .slice none 0 0], .int .i64 1]) (by simp [results, Tryz.results34, go_sem, q0, q1, q2]) rfl (HBAD.out w1 1 hB1 HR.out (by decide))
 go_wp2_with fail
 refine (l03Ok_quiet _ PT.out PG.out).mono ?_
 rintro e w2 ⟨rfl, hq2⟩
 have hb2 := hq2.below
 clear hq2
 have hz2 := hb2.size
 have hB2 := bthen hB1 hb2
 replace t0 := (cellB hb2 (by omega)).trans t0
 replace t1 := (cellB hb2 (by omega)).trans t1
 replace f0 := (cellB hb2 (by omega)).trans f0
 replace f1 := (cellB hb2 (by omega)).trans f1
 replace f2 := (cellB hb2 (by omega)).trans f2
 replace g0 := (cellB hb2 (by omega)).trans g0
 replace g1 := (cellB hb2 (by omega)).trans g1
 replace g2 := (cellB hb2 (by omega)).trans g2
 replace r0 := (cellB hb2 (by omega)).trans r0
 replace r1 := (cellB hb2 (by omega)).trans r1
 replace r2 := (cellB hb2 (by omega)).trans r2
 replace m0 := (frozenB hb2 (by omega)).trans m0
 replace m1 := (frozenB hb2 (by omega)).trans m1
 replace m2 := (frozenB hb2 (by omega)).trans m2
 obtain ⟨q0, q1, q2⟩ := set3_cells (x := .int .i64 0) (y := .int .i64 0) (z := .slice none 0 0) r0 r1 r2
 cases hT2 : tb (frmOk t g)
 ·have HR := Lib.hid (repC_1 (rel := rel) (show repOk t f g = false by rw [repOk, hT, hT2]; rfl))
  clear hT hT2
  go_wp2_with fail
  exact bodyPost_ret (v := .tuple #[.agg #[.int .i64 0, .int .i64 0, .slice none 0 0], .int .i64 1]) (by simp [results, Tryz.results34, go_sem, q0, q1, q2]) rfl (HBAD.out w2 1 hB2 HR.out (by decide))
 have hok : repOk t f g = true := by rw [repOk, hT, hT2]; rfl
 have htl6 : t.2.length ≤ 6 := (tb_iff.1 hT).1.2.1
 go_wp2_with fail
 refine (l00In_any _ _ _ _).mono ?_
 rintro e _ ⟨rfl, rfl⟩
 cases hA : inB rel 0 ((t.2.length : Int) - 1)
 ·have HR := Lib.hid (repC_2 hok hA)
  clear hT hT2 hok hA
  go_wp2_with fail
  exact bodyPost_ret (v := .tuple #[.agg #[.int .i64 0, .int .i64 0, .slice none 0 0], .int .i64 2]) (by simp [results, Tryz.results34, go_sem, q0, q1, q2]) rfl (HBAD.out w2 2 hB2 HR.out (by decide))
 have hA2 := inB_true.1 hA
 obtain ⟨kk, rfl⟩ : ∃ kk : Nat, rel = kk := ⟨rel.toNat, by omega⟩
 have hkk : kk < t.2.length := by omega
 obtain ⟨tb0, to0, rfl, htb, hte⟩ := HTC.out (by omega)
 obtain ⟨_, _, _, he0, -⟩ := hte kk hkk
 have tt := (hB2.cell htb).trans he0
 have har := arOf_nat hkk
 cases hE : (g.1 != arOf t (kk : Int))
 rotate_left
 ·have HR := Lib.hid (repC_4 hok hA hE)
  have hE' : (g.1 != (t.2[kk]).1) = true := by rw [← har]; exact hE
  clear hT hT2 hok hA hte he0 hE har
  go_wp2_with fail
  go_quiet (fail)
  generalize hWq : w2.drewN _ = w3
  have hbq : Below w2.heap.size w2 w3 := hWq ▸ (Quiet.drewN w2 _).below
  have hz3 := hbq.size
  replace r0 := (cellB hbq (by omega)).trans r0
  replace r1 := (cellB hbq (by omega)).trans r1
  replace r2 := (cellB hbq (by omega)).trans r2
  replace m0 := (frozenB hbq (by omega)).trans m0
  replace m1 := (frozenB hbq (by omega)).trans m1
  replace m2 := (frozenB hbq (by omega)).trans m2
  clear hWq
  obtain ⟨q0, q1, q2⟩ := set3_cells (x := .int .i64 0) (y := .int .i64 0) (z := .slice none 0 0) r0 r1 r2
  go_wp2_with fail
  exact bodyPost_ret (v := .tuple #[.agg #[.int .i64 0, .int .i64 0, .slice none 0 0], .int .i64 4]) (by simp [results, Tryz.results34, go_sem, q0, q1, q2]) rfl (HBAD.out w3 4 (bthen hB2 hbq) HR.out (by decide))
 have HR := Lib.hid (rplV_yes (repC_0 hok hA hE))
 have hE' : (g.1 != (t.2[kk]).1) = false := by rw [← har]; exact hE
 have HAR := Lib.hid har
 have HGE : Hid (g.1 = arOf t (kk : Int)) := by unfold Hid; simpa using hE
 clear hok hA hte he0 hE har q0 q1 q2
 go_wp2_with fail
 go_quiet (fail)
 generalize hWq : w2.drewN _ = w3
 have hbq : Below w2.heap.size w2 w3 := hWq ▸ (Quiet.drewN w2 _).below
 have hz3 := hbq.size
 have hB3 := bthen hB2 hbq
 replace f0 := (cellB hbq (by omega)).trans f0
 replace f1 := (cellB hbq (by omega)).trans f1
 replace f2 := (cellB hbq (by omega)).trans f2
 replace g0 := (cellB hbq (by omega)).trans g0
 replace g1 := (cellB hbq (by omega)).trans g1
 replace g2 := (cellB hbq (by omega)).trans g2
 replace r0 := (cellB hbq (by omega)).trans r0
 replace r1 := (cellB hbq (by omega)).trans r1
 replace r2 := (cellB hbq (by omega)).trans r2
 replace m0 := (frozenB hbq (by omega)).trans m0
 replace m1 := (frozenB hbq (by omega)).trans m1
 replace m2 := (frozenB hbq (by omega)).trans m2
 obtain ⟨a1, a2, a3, a4, a5⟩ := frm_bd hT
 obtain ⟨c1, c2, c3, c4, c5⟩ := frm_bd hT2
 have A5 := Lib.hid a5
 have C5 := Lib.hid c5
 have HBD := Lib.hid (rep_bd (rel := (kk : Int)) hT hT2)
 have HTO := Lib.hid (tb_iff.1 hT)
 have hl1 : w.heap.size + 1 < w3.heap.size := by omega
 clear hWq hT hT2 a5 c5 t0 t1 tt hE' HTC htb PT PG
 go_wp2_with fail
 generalize hWa : World.alloc w3 _ = wa
 have hba : Below w3.heap.size w3 wa := hWa ▸ bA
 have hsa : wa.heap.size = w3.heap.size + 1 := by rw [← hWa]; simp
 have y0 : wa.cell? ⟨w3.heap.size, 0, none⟩ = some (.int .i64 f.1) := by rw [← hWa]; simp
 have y1 : wa.cell? ⟨w3.heap.size, 1, none⟩ = some (.int .i64 f.2.1) := by rw [← hWa]; simp
 have y2 : wa.cell? ⟨w3.heap.size, 2, none⟩ = some (.slice none 0 0) := by rw [← hWa]; simp
 have n1 : wa.frozen? ⟨w3.heap.size, 1, none⟩ = false := by rw [← hWa]; simp
 have n2 : wa.frozen? ⟨w3.heap.size, 2, none⟩ = false := by rw [← hWa]; simp
 replace f2 := (cellB hba (by omega)).trans f2
 replace g0 := (cellB hba (by omega)).trans g0
 replace g1 := (cellB hba (by omega)).trans g1
 replace g2 := (cellB hba (by omega)).trans g2
 replace r0 := (cellB hba (by omega)).trans r0
 replace r1 := (cellB hba (by omega)).trans r1
 replace r2 := (cellB hba (by omega)).trans r2
 replace m0 := (frozenB hba (by omega)).trans m0
 replace m1 := (frozenB hba (by omega)).trans m1
 replace m2 := (frozenB hba (by omega)).trans m2
 have hBa := bthen hB3 hba
 clear hWa
 go_loopw [11] (fun i wr => ∃ (k : Nat) (v : Value), k ≤ f.2.2.length ∧ i = .int .i64 k ∧ Bl opT 69 (w3.heap.size + 1) wr.heap.size wr v (repAll f kk g k).2 ∧ wr.cell? ⟨w3.heap.size, 2, none⟩ = some v ∧ wr.cell? ⟨w3.heap.size, 0, none⟩ = some (.int .i64 f.1) ∧ wr.cell? ⟨w3.heap.size, 1, none⟩ = some (.int .i64 (repAll f kk g k).1) ∧ wr.frozen? ⟨w3.heap.size, 1, none⟩ = false ∧ wr.frozen? ⟨w3.heap.size, 2, none⟩ = false ∧ Below w3.heap.size wa wr ∧ w3.heap.size + 1 ≤ wr.heap.size) (fun i _ => f.2.2.length - (intOf i).toNat)
 case atStart => exact ⟨0, _, Nat.zero_le _, rfl, by rw [rep_zero]; simpa using Bl.nil, y2, y0, by rw [rep_zero]; exact y1, n1, n2, Below.refl _ _, by omega⟩
 case round =>
  obtain ⟨k, v, hk, rfl, hBv, z2, z0, z1, zn1, zn2, hbe, hse⟩ := hrel
  obtain ⟨b1, b2, b3, b4⟩ := HBD.out k hk
  obtain ⟨sv, sl, hrs⟩ : ∃ sv sl, repAll f kk g k = (sv, sl) := ⟨_, _, rfl⟩
  have hrs1 : (repAll f kk g k).1 = sv := by rw [hrs]
  have hrs2 : (repAll f kk g k).2 = sl := by rw [hrs]
  rw [hrs1] at z1 b1 b2
  rw [hrs2] at hBv b3 b4
  have HRS := Lib.hid hrs
  obtain ⟨av0, nv0, cv0, rfl⟩ := ex_slice (hBv.fr (by unfold capMax; omega))
  have HBv := Lib.hid hBv
  have hbw : Below w.heap.size w wr := hBa.trans (hbe.mono (by omega))
  have hbw1 : Below (w.heap.size + 4) w3 wr := (hba.mono (by omega)).trans (hbe.mono (by omega))
  clear hBv y0 y1 y2 n1 n2 hrs hrs1 hrs2
  have G0 := (cellB hbe (by omega)).trans g0
  have G1 := (cellB hbe (by omega)).trans g1
  have G2 := (cellB hbe (by omega)).trans g2
  have F2 := (cellB hbe (by omega)).trans f2
  have hlf : w.heap.size + 1 < wr.heap.size := by omega
  by_cases hkl : k < f.2.2.length
  ·obtain ⟨b, o, rfl, hb, hce⟩ := HFC.out (by omega)
   obtain ⟨uk, huk, hIk, e0, e1⟩ := hce k hkl
   obtain ⟨ak, nk, ck, rfl⟩ := rd_sl huk
   have d0 := (hbw.cell hb).trans e0
   have d1 := (hbw.cell hb).trans e1
   have HU := Lib.hid (huk.below hbw)
   have HA5 := Lib.hid (A5.out _ (List.getElem_mem hkl))
   have HSUC := Lib.hid (rep_succ (rel := (kk : Int)) (g := g) hkl)
   have hlb : b < wr.heap.size := Nat.lt_of_lt_of_le hb (by omega)
   clear hce huk e0 e1
   by_cases hrel' : (f.2.2[k]).1 = (kk : Int)
   ·have hne : ((f.2.2[k]).1 != (kk : Int)) = false := by simpa using hrel'
    obtain ⟨p, hp⟩ : ∃ p : Nat, g.1 = p := ⟨g.1.toNat, by omega⟩
    obtain ⟨q, hq⟩ : ∃ q : Nat, g.2.1 = q := ⟨g.2.1.toNat, by omega⟩
    have HST : Hid (repAll f kk g (k + 1) = (sv + ((q : Int) - p), sl ++ rnL (putTo (f.2.2[k]).2 p (sv - p)) g.2.2)) := by unfold Hid; rw [HSUC.out, HRS.out, rep_yes hrel', hp, hq]
    have hal : (f.2.2[k]).2.length = p := by
     have h1 := (HTO.out.2.2 _ (List.getElem_mem hkl)).2.1
     rw [hrel', ← HGE.out, hp] at h1
     omega
    have HTS := Lib.hid (putTo_self (behind := sv - (p : Int)) hal)
    have hpq : 1 ≤ p ∧ p ≤ q ∧ q ≤ 8 := by omega
    have HQ := Lib.hid hq
    have hl4 : w.heap.size + 2 < wr.heap.size := by omega
    have hl5 : w3.heap.size < wr.heap.size := by omega
    rw [hp] at G0
    rw [hq] at G1
    have HA4 : Hid ((f.2.2[k]).2.length ≤ 1000000) := by unfold Hid; have := HA5.out.2; omega
    have HARG := Lib.hid (show ∀ v ∈ (f.2.2[k]).2, 0 ≤ v ∧ v ≤ 1000 from fun v hv => by have := HA5.out.1 v hv; omega)
    have HPL := Lib.hid hal
    clear hrel' hal hp hq
    go_wp2_with fail
    refine (l00Own_any _ HU.out HA4.out).mono ?_
    rintro e wc ⟨u4, rfl, hB4, hb4⟩
    rw [← HTS.out] at hB4
    have HB4 := Lib.hid hB4
    have hzc := hb4.size
    have y0 := (cellB hb4 (by omega)).trans z0
    have y1 := (cellB hb4 (by omega)).trans z1
    have y2 := (cellB hb4 (by omega)).trans z2
    have yn1 := (frozenB hb4 (by omega)).trans zn1
    have yn2 := (frozenB hb4 (by omega)).trans zn2
    have GG0 := (cellB hb4 (by omega)).trans G0
    clear hB4 d0 d1
    obtain ⟨wo, rfl⟩ : ∃ wo : World, wo = wr := ⟨_, rfl⟩
    have hlc : w.heap.size + 2 < wc.heap.size := by omega
    go_wp2_with fail
    go_loopw [13, 12] (fun i q' wr => ∃ j : Nat, p ≤ j ∧ j ≤ q ∧ i = .int .i64 j ∧ Bl Ty.int 2 wo.heap.size wr.heap.size wr q' (toL (putTo (f.2.2[k]).2 p (sv - p)) j) ∧ wr.cell? ⟨w3.heap.size, 1, none⟩ = some (.int .i64 (sv + ((j : Int) - p))) ∧ wr.cell? ⟨w3.heap.size, 0, none⟩ = some (.int .i64 f.1) ∧ wr.cell? ⟨w3.heap.size, 2, none⟩ = some (.slice av0 nv0 cv0) ∧ wr.frozen? ⟨w3.heap.size, 1, none⟩ = false ∧ wr.frozen? ⟨w3.heap.size, 2, none⟩ = false ∧ Below w3.heap.size wo wr ∧ (∀ b, w3.heap.size + 1 ≤ b → b < wo.heap.size → wr.heap[b]? = wo.heap[b]?) ∧ wo.heap.size ≤ wr.heap.size) (fun i _ _ => q - (intOf i).toNat)
    case atStart => exact ⟨p, Nat.le_refl _, hpq.2.1, rfl, HB4.out, by rw [Int.sub_self, Int.add_zero]; exact y1, y0, y2, yn1, yn2, hb4.mono (by omega), fun b _ hb => hb4.block b hb, hb4.size⟩
    case round =>
     obtain ⟨j, hj0, hj, rfl, hBj, x1, x0, x2, xn1, xn2, hbi, hsm, hsi⟩ := hrel
     have HBj := Lib.hid hBj
     have HSM := Lib.hid hsm
     have I0 := (cellB hbi (by omega)).trans G0
     have I1 := (cellB hbi (by omega)).trans G1
     have hl6 : w3.heap.size < wr.heap.size := by omega
     have hl7 : w.heap.size + 2 < wr.heap.size := by omega
     clear hBj hsm y0 y1 y2 yn1 yn2 GG0
     by_cases hjl : j < q
     ·have HE : Hid (putTo (f.2.2[k]).2 p (sv - p) j = sv + ((j : Int) - p)) := by
       unfold Hid
       rw [put_ge (by omega)]; omega
      have hI9 : I64 (sv + ((j : Int) - p)) := I64.small (by omega) (by omega)
      have HRT := Lib.hid (toL_succ (putTo (f.2.2[k]).2 p (sv - p)) j)
      have HNX : Hid (sv + ((j : Int) - p) + 1 = sv + (((j + 1 : Nat) : Int) - p)) := by unfold Hid; omega
      go_wp2_with (refine wpList_push (E := Ty.int) _ rfl _ _ 38 2 rfl elInt rfl (HBj.out.below bA (Nat.le_refl _)) rfl news1 (fr_int hI9) (by rw [toL_len]; omega) (by decide) hsi (by simp) ?_; intro v6 w6 hB6 hg6 _; have hb6 : Below wo.heap.size wr w6 := ((bA (w := wr)).mono hsi).grown hg6 (by first | (simp; done) | (simp; omega)) (fun q hq => HBj.out.own hq); have k1 := (cellB hb6 (by omega)).trans x1; have k0 := (cellB hb6 (by omega)).trans x0; have k2 := (cellB hb6 (by omega)).trans x2; have kn1 := (frozenB hb6 (by omega)).trans xn1; have kn2 := (frozenB hb6 (by omega)).trans xn2)
      have hz6 := hb6.size
      have hB7 : Bl Ty.int 2 wo.heap.size w6.heap.size w6 v6 (toL (putTo (f.2.2[k]).2 p (sv - p)) (j + 1)) := by rw [← HRT.out, HE.out]; exact hB6
      have HB7 := Lib.hid hB7
      have hb6' : Below w3.heap.size wo w6 := hbi.trans (hb6.mono (by omega))
      have HS6 : Hid (∀ b, w3.heap.size + 1 ≤ b → b < wo.heap.size → w6.heap[b]? = wo.heap[b]?) := fun b h1 h2 => (hb6.block b h2).trans (HSM.out b h1 h2)
      clear hB6 hB7 hg6
      go_wp2_with fail
      go_roundw
      case rel => exact ⟨j + 1, by omega, by omega, by go_num, by rw [size_set]; exact HB7.out.sameB (fun q hq1 hq2 => Below.heap_setCell _ _ _ _ (by simp; omega)), by rw [← HNX.out]; exact World.cell?_setCell_same _ _ _ k1, (World.cell?_setCell_other _ _ _ _ (by simp)).trans k0, (World.cell?_setCell_other _ _ _ _ (by simp)).trans k2, (World.frozen?_setCell _ _ _ _).trans kn1, (World.frozen?_setCell _ _ _ _).trans kn2, hb6'.setCell (by simp) _, fun b h1 h2 => (Below.heap_setCell _ _ _ _ (by simp; omega)).trans (HS6.out b h1 h2), by rw [size_set]; omega⟩
      case measure => simp [intOf]; omega
     ·obtain rfl : j = q := by omega
      have hft := HBj.out.fr (by rw [toL_len]; unfold capMax; omega)
      obtain ⟨at0, nt0, ct0, rfl⟩ := ex_slice hft
      have HT := Lib.hid hft.rd
      have I2 := (cellB hbi (by omega)).trans G2
      have HBv2 : Hid (Bl opT 69 (w3.heap.size + 1) wo.heap.size wr (.slice av0 nv0 cv0) sl) := HBv.out.sameB HSM.out
      have HGW := Lib.hid (HGX.out.below (hbw.trans (hbi.mono (by omega))))
      have hsw : w3.heap.size + 1 ≤ wr.heap.size := by omega
      clear hft HBj
      go_wp2_with fail
      refine wp_region_T (fun w' => w'.cell? ⟨w3.heap.size, 2, none⟩ = some (.slice av0 nv0 cv0) ∧ w'.cell? ⟨w.heap.size + 2, 2, none⟩ = some (.slice ga gn gc)) [6, 8] (by kernel_rfl) ⟨x2, I2⟩ (fun hHeld => ?_)
      refine wpAnyT_take (i := 0) (v := ?_) rfl (by kernel_rfl) (fun _ _ _ h => h) (Or.inl ⟨by rfl, ?_⟩) (by assumption) ?_
      rotate_left
      ·(intro w hSw; (try dsimp only at hSw); go_simp <;> with_reducible rfl)
      try simp only [Act.put]
      refine wpAnyT_take (i := 1) (v := ?_) rfl (by kernel_rfl) (fun _ _ _ h => h) (Or.inl ⟨by rfl, ?_⟩) (by assumption) ?_
      rotate_left
      ·(intro w hSw; (try dsimp only at hSw); go_simp <;> with_reducible rfl)
      try simp only [Act.put]
      refine wpAnyT_take (i := 2) (v := ?_) rfl (by kernel_rfl) (fun _ _ _ h => h) (Or.inl ⟨by rfl, ?_⟩) (by assumption) ?_
      rotate_left
      ·(intro w hSw; (try dsimp only at hSw); go_simp <;> with_reducible rfl)
      try simp only [Act.put]
      refine wpAnyT_take (i := 3) (v := ?_) rfl (by kernel_rfl) (fun _ _ _ h => h) (Or.inl ⟨by rfl, ?_⟩) (by assumption) ?_
      rotate_left
      ·(intro w hSw; (try dsimp only at hSw); go_simp <;> with_reducible rfl)
      try simp only [Act.put]
      refine wpAnyT_take (i := 4) (v := ?_) rfl (by kernel_rfl) (fun _ _ _ h => h) (Or.inl ⟨by rfl, ?_⟩) (by assumption) ?_
      rotate_left
      ·(intro w hSw; (try dsimp only at hSw); go_simp <;> with_reducible rfl)
      try simp only [Act.put]
      refine wpAnyT_one (i := 5) rfl (by kernel_rfl) (fun K hK => ?_)
      go_simp
      go_at_call 109
      refine (l03Moved_any _ (HGW.out.below bD) (HT.out.below bD) (fun a ha => ⟨fun v hv => by have := (C5.out a ha).1 v hv; have := HQ.out; rw [toL_len]; omega, by have := (C5.out a ha).2; omega⟩) (by omega)).mono ?_
      rintro e w4 ⟨u4, rfl, hf4, hb4⟩
      rw [movedL_toL (g := putTo (f.2.2[k]).2 p (sv - p)) (n := j) (xs := g.2.2) (fun a ha v hv => by have := (C5.out a ha).1 v hv; have := HQ.out; omega)] at hf4
      obtain ⟨a4, n4, c4, rfl⟩ := ex_slice hf4
      have HF4 := Lib.hid (hf4.mono (base' := wo.heap.size) (by simp; omega))
      have hb4' : Below wr.heap.size wr w4 := bthen bD hb4
      have hz4 := hb4'.size
      replace x0 := (cellB hb4' (by omega)).trans x0
      replace x1 := (cellB hb4' (by omega)).trans x1
      replace x2 := (cellB hb4' (by omega)).trans x2
      replace I2 := (cellB hb4' (by omega)).trans I2
      replace xn1 := (frozenB hb4' (by omega)).trans xn1
      replace xn2 := (frozenB hb4' (by omega)).trans xn2
      clear hf4 hb4
      dsimp only
      refine hK.out _ _ ⟨x2, I2⟩ (fun hHeld => ?_)
      clear hK K
      refine wpAnyT_last (i := 6) rfl (by kernel_rfl) (by kernel_rfl) (fun K hK => ?_)
      refine step_pushAll (E := opT) _ rfl _ _ 45 69 rfl elAtomS rfl (HBv2.out.below (hb4'.mono hsi) (Nat.le_refl _)) rfl HF4.out (by rw [rnL_len]; omega) (by decide) hse (by omega) ?_
      intro v5 w5 hB5 hg5 _
      obtain ⟨a5, n5, c5, rfl⟩ := ex_slice (hB5.fr (by rw [List.length_append, rnL_len]; unfold capMax; omega))
      have HB5 := Lib.hid hB5
      have hb5 : Below (w3.heap.size + 1) w4 w5 := (Below.refl _ w4).grown hg5 (by omega) (fun q hq => HBv2.out.own hq)
      have hz5 := hb5.size
      replace x0 := (cellB hb5 (by omega)).trans x0
      replace x1 := (cellB hb5 (by omega)).trans x1
      replace x2 := (cellB hb5 (by omega)).trans x2
      replace xn1 := (frozenB hb5 (by omega)).trans xn1
      replace xn2 := (frozenB hb5 (by omega)).trans xn2
      clear hB5 hg5 I2
      refine hK.out _ _ ?_
      clear hK K
      refine wpAnyT_any (i := 7) (v := ?_) rfl (by kernel_rfl) (fun _ _ _ h => h) (Or.inl ⟨by rfl, ?_⟩) (by first | exact fun _ => by assumption | (intro hp; exact absurd hp (by rw [show pastB _ _ = true by kernel_rfl]; simp))) ?_
      rotate_left
      ·(intro w hSw; (try dsimp only at hSw); go_simp <;> with_reducible rfl)
      try simp only [Act.put]
      refine wpAnyT_last (i := 8) rfl (by kernel_rfl) (by kernel_rfl) (fun K hK => ?_)
      go_simp
      refine hK.out _ _ ?_
      clear hK K
      refine wpAnyT_done (by kernel_rfl) ?_ _
      go_simp
      go_wp2_with fail
      go_roundw
      case rel => exact ⟨k + 1, _, by omega, by go_num, by rw [size_set, HST.out]; exact HB5.out.sameB (fun q hq1 hq2 => Below.heap_setCell _ _ _ _ (by simp; omega)), World.cell?_setCell_same _ _ _ x2, (World.cell?_setCell_other _ _ _ _ (by simp)).trans x0, (World.cell?_setCell_other _ _ _ _ (by simp)).trans (by rw [HST.out]; exact x1), (World.frozen?_setCell _ _ _ _).trans xn1, (World.frozen?_setCell _ _ _ _).trans xn2, (hbe.trans (hbi.trans ((hb4'.mono (by omega)).trans (hb5.mono (by omega))))).setCell (by simp) _, by rw [size_set]; omega⟩
      case measure => simp [intOf]; omega
   ·have hne : ((f.2.2[k]).1 != (kk : Int)) = true := by simpa using hrel'
    have HST : Hid (repAll f kk g (k + 1) = (sv, sl ++ [f.2.2[k]])) := by unfold Hid; rw [HSUC.out, HRS.out, rep_no hrel']
    have hl2 : w3.heap.size < wr.heap.size := by omega
    clear hrel'
    go_wp2_with fail
    refine wp_region_T (fun w' => w'.cell? ⟨w3.heap.size, 2, none⟩ = some (.slice av0 nv0 cv0) ∧ w'.cell? ⟨w.heap.size + 1, 2, none⟩ = some (.slice (some ⟨b, o, none⟩) f.2.2.length fc) ∧ w'.cell? ⟨b, o + k * 2, none⟩ = some (.int .i64 (f.2.2[k]).1) ∧ w'.cell? ⟨b, o + k * 2 + 1, none⟩ = some (.slice ak nk ck)) [17, 19] (by kernel_rfl) ⟨z2, F2, d0, d1⟩ (fun hHeld => ?_)
    refine wpAnyT_take (i := 0) (v := ?_) rfl (by kernel_rfl) (fun _ _ _ h => h) (Or.inl ⟨by rfl, ?_⟩) (by assumption) ?_
    rotate_left
    ·(intro w hSw; (try dsimp only at hSw); go_simp <;> with_reducible rfl)
    try simp only [Act.put]
    refine wpAnyT_take (i := 1) (v := ?_) rfl (by kernel_rfl) (fun _ _ _ h => h) (Or.inl ⟨by rfl, ?_⟩) (by assumption) ?_
    rotate_left
    ·(intro w hSw; (try dsimp only at hSw); go_simp <;> with_reducible rfl)
    try simp only [Act.put]
    refine wpAnyT_take (i := 2) (v := ?_) rfl (by kernel_rfl) (fun _ _ _ h => h) (Or.inl ⟨by rfl, ?_⟩) (by assumption) ?_
    rotate_left
    ·(intro w hSw; (try dsimp only at hSw); go_simp <;> with_reducible rfl)
    try simp only [Act.put]
    refine wpAnyT_take (i := 3) (v := ?_) rfl (by kernel_rfl) (fun _ _ _ h => h) (Or.inl ⟨by rfl, ?_⟩) (by assumption) ?_
    rotate_left
    ·(intro w hSw; (try dsimp only at hSw); go_simp <;> with_reducible rfl)
    try simp only [Act.put]
    refine wpAnyT_take (i := 4) (v := ?_) rfl (by kernel_rfl) (fun _ _ _ h => h) (Or.inl ⟨by rfl, ?_⟩) (by assumption) ?_
    rotate_left
    ·(intro w hSw; (try dsimp only at hSw); go_simp <;> with_reducible rfl)
    try simp only [Act.put]
    refine wpAnyT_take (i := 5) (v := ?_) rfl (by kernel_rfl) (fun _ _ _ h => h) (Or.inl ⟨by rfl, ?_⟩) (by assumption) ?_
    rotate_left
    ·(intro w hSw; (try dsimp only at hSw); go_simp <;> with_reducible rfl)
    try simp only [Act.put]
    refine wpAnyT_take (i := 6) (v := ?_) rfl (by kernel_rfl) (fun _ _ _ h => h) (Or.inl ⟨by rfl, ?_⟩) (by assumption) ?_
    rotate_left
    ·(intro w hSw; (try dsimp only at hSw); go_simp <;> with_reducible rfl)
    try simp only [Act.put]
    refine wpAnyT_take (i := 7) (v := ?_) rfl (by kernel_rfl) (fun _ _ _ h => h) (Or.inl ⟨by rfl, ?_⟩) (by assumption) ?_
    rotate_left
    ·(intro w hSw; (try dsimp only at hSw); go_simp <;> with_reducible rfl)
    try simp only [Act.put]
    refine wpAnyT_take (i := 8) (v := ?_) rfl (by kernel_rfl) (fun _ _ _ h => h) (Or.inl ⟨by rfl, ?_⟩) (by assumption) ?_
    rotate_left
    ·(intro w hSw; (try dsimp only at hSw); go_simp <;> with_reducible rfl)
    try simp only [Act.put]
    refine wpAnyT_take (i := 9) (v := ?_) rfl (by kernel_rfl) (fun _ _ _ h => h) (Or.inl ⟨by rfl, ?_⟩) (by assumption) ?_
    rotate_left
    ·(intro w hSw; (try dsimp only at hSw); go_simp <;> with_reducible rfl)
    try simp only [Act.put]
    refine wpAnyT_take (i := 10) (v := ?_) rfl (by kernel_rfl) (fun _ _ _ h => h) (Or.inl ⟨by rfl, ?_⟩) (by assumption) ?_
    rotate_left
    ·(intro w hSw; (try dsimp only at hSw); go_simp <;> with_reducible rfl)
    try simp only [Act.put]
    refine wpAnyT_take (i := 11) (v := ?_) rfl (by kernel_rfl) (fun _ _ _ h => h) (Or.inl ⟨by rfl, ?_⟩) (by assumption) ?_
    rotate_left
    ·(intro w hSw; (try dsimp only at hSw); go_simp <;> with_reducible rfl)
    try simp only [Act.put]
    refine wpAnyT_take (i := 12) (v := ?_) rfl (by kernel_rfl) (fun _ _ _ h => h) (Or.inl ⟨by rfl, ?_⟩) (by assumption) ?_
    rotate_left
    ·(intro w hSw; (try dsimp only at hSw); go_simp <;> with_reducible rfl)
    try simp only [Act.put]
    refine wpAnyT_take (i := 13) (v := ?_) rfl (by kernel_rfl) (fun _ _ _ h => h) (Or.inl ⟨by rfl, ?_⟩) (by assumption) ?_
    rotate_left
    ·(intro w hSw; (try dsimp only at hSw); go_simp <;> with_reducible rfl)
    try simp only [Act.put]
    refine wpAnyT_one (i := 14) rfl (by kernel_rfl) (fun K hK => ?_)
    go_simp
    go_at_call 108
    refine (l00Own_any _ (HU.out.below bD) (by have := HA5.out.2; omega)).mono ?_
    rintro e w4 ⟨u4, rfl, hB4, hb4⟩
    have hf4 := hB4.fr (by have := HA5.out.2; unfold capMax; omega)
    obtain ⟨a4, n4, c4, rfl⟩ := ex_slice hf4
    have HF4 := Lib.hid hf4
    have hb4' : Below wr.heap.size wr w4 := bthen bD hb4
    replace z2 := (cellB hb4' (by omega)).trans z2
    replace F2 := (cellB hb4' (by omega)).trans F2
    replace d0 := (cellB hb4' (by omega)).trans d0
    replace d1 := (cellB hb4' (by omega)).trans d1
    replace z0 := (cellB hb4' (by omega)).trans z0
    replace z1 := (cellB hb4' (by omega)).trans z1
    replace zn1 := (frozenB hb4' (by omega)).trans zn1
    replace zn2 := (frozenB hb4' (by omega)).trans zn2
    have hz4 := hb4'.size
    clear hf4 hB4 hb4
    dsimp only
    refine hK.out _ _ ⟨z2, F2, d0, d1⟩ (fun hHeld => ?_)
    clear hK K
    refine wpAnyT_take (i := 15) (v := ?_) rfl (by kernel_rfl) (fun _ _ _ h => h) (Or.inl ⟨by rfl, ?_⟩) (by assumption) ?_
    rotate_left
    ·(intro w hSw; (try dsimp only at hSw); go_simp <;> with_reducible rfl)
    try simp only [Act.put]
    refine wpAnyT_one (i := 16) rfl (by kernel_rfl) (fun K hK => ?_)
    go_simp
    refine hK.out _ _ ⟨by go_keep, by go_keep, by go_keep, by go_keep⟩ (fun hHeld => ?_)
    clear hK K
    refine wpAnyT_last (i := 17) rfl (by kernel_rfl) (by kernel_rfl) (fun K hK => ?_)
    refine step_push (E := opT) _ rfl _ _ 45 69 rfl elAtomS rfl (HBv.out.below (hb4'.alloc hb4'.size _) (Nat.le_refl _)) rfl news2 ((fr_cons hIk (HF4.out.below bA)).mono (by have := (bD (w := wr)).size; omega)) (by omega) (by decide) hse (by simp; omega) ?_
    intro v5 w5 hB5 hg5 _
    have hB5' : Bl opT 69 (w3.heap.size + 1) w5.heap.size w5 v5 (sl ++ [f.2.2[k]]) := hB5
    obtain ⟨a5, n5, c5, rfl⟩ := ex_slice (hB5'.fr (by rw [List.length_append]; unfold capMax; simp; omega))
    have HB5 := Lib.hid hB5'
    have hb5 : Below (w3.heap.size + 1) w4 w5 := ((Below.refl _ w4).alloc (by omega) _).grown hg5 (by simp; omega) (fun q hq => HBv.out.own hq)
    have hz5 := hb5.size
    replace z2 := (cellB hb5 (by omega)).trans z2
    replace z0 := (cellB hb5 (by omega)).trans z0
    replace z1 := (cellB hb5 (by omega)).trans z1
    replace zn1 := (frozenB hb5 (by omega)).trans zn1
    replace zn2 := (frozenB hb5 (by omega)).trans zn2
    clear hB5 hB5' hg5 F2 d0 d1
    refine hK.out _ _ ?_
    clear hK K
    refine wpAnyT_any (i := 18) (v := ?_) rfl (by kernel_rfl) (fun _ _ _ h => h) (Or.inl ⟨by rfl, ?_⟩) (by first | exact fun _ => by assumption | (intro hp; exact absurd hp (by rw [show pastB _ _ = true by kernel_rfl]; simp))) ?_
    rotate_left
    ·(intro w hSw; (try dsimp only at hSw); go_simp <;> with_reducible rfl)
    try simp only [Act.put]
    refine wpAnyT_last (i := 19) rfl (by kernel_rfl) (by kernel_rfl) (fun K hK => ?_)
    go_simp
    refine hK.out _ _ ?_
    clear hK K
    refine wpAnyT_done (by kernel_rfl) ?_ _
    go_simp
    go_wp2_with fail
    go_roundw
    case rel => exact ⟨k + 1, _, by omega, by go_num, by rw [size_set, HST.out]; exact HB5.out.sameB (fun q hq1 hq2 => Below.heap_setCell _ _ _ _ (by simp; omega)), World.cell?_setCell_same _ _ _ z2, (World.cell?_setCell_other _ _ _ _ (by simp)).trans z0, (World.cell?_setCell_other _ _ _ _ (by simp)).trans (by rw [HST.out]; exact z1), (World.frozen?_setCell _ _ _ _).trans zn1, (World.frozen?_setCell _ _ _ _).trans zn2, (hbe.trans ((hb4'.mono (by omega)).trans (hb5.mono (by omega)))).setCell (by simp) _, by rw [size_set]; omega⟩
    case measure => simp [intOf]; omega
  ·obtain rfl : k = f.2.2.length := by omega
   have HGF : Hid (frmT.Fr (w3.heap.size + 1) wr [.int .i64 f.1, .int .i64 sv, .slice av0 nv0 cv0] (repF f kk g)) := by
    have h1 : repF f kk g = (f.1, sv, sl) := by rw [repF, HRS.out]
    unfold Hid
    rw [h1]
    exact fr_cons hIf (fr_cons (I64.small (by omega) (by omega)) (HBv.out.fr (by unfold capMax; omega)))
   have hl5 : w3.heap.size < wr.heap.size := by omega
   replace r0 := (cellB hbe (by omega)).trans r0
   replace r1 := (cellB hbe (by omega)).trans r1
   replace r2 := (cellB hbe (by omega)).trans r2
   replace m0 := (frozenB hbe (by omega)).trans m0
   replace m1 := (frozenB hbe (by omega)).trans m1
   replace m2 := (frozenB hbe (by omega)).trans m2
   clear HBv
   go_wp2_with fail
   refine (l03Told_any _ (cs := #[.int .i64 f.1, .int .i64 sv, .slice av0 nv0 cv0]) HGF.out (by omega)).mono ?_
   rintro e w7 ⟨cs7, rfl, hf7, hb7⟩
   obtain ⟨ad7, cap7, rfl⟩ := fr_trip hf7
   have HF7 := Lib.hid hf7
   have hz7 := hb7.size
   replace r0 := (cellB hb7 (by omega)).trans r0
   replace r1 := (cellB hb7 (by omega)).trans r1
   replace r2 := (cellB hb7 (by omega)).trans r2
   replace m0 := (frozenB hb7 (by omega)).trans m0
   replace m1 := (frozenB hb7 (by omega)).trans m1
   replace m2 := (frozenB hb7 (by omega)).trans m2
   clear hf7 z0 z1 z2 zn1 zn2
   obtain ⟨q0, q1, q2⟩ := set3_cells (x := .int .i64 (limV (repF f kk g)).1) (y := .int .i64 (limV (repF f kk g)).2.1) (z := .slice ad7 (limV (repF f kk g)).2.2.length cap7) r0 r1 r2
   have hl7 : w.heap.size + 3 < w7.heap.size := by omega
   go_wp2_with fail
   refine bodyPost_ret (v := .tuple #[.agg #[.int .i64 (limV (repF f kk g)).1, .int .i64 (limV (repF f kk g)).2.1, .slice ad7 (limV (repF f kk g)).2.2.length cap7], .int .i64 (limC (repF f kk g))]) (by simp [results, Tryz.results34, go_sem, q0, q1, q2]) rfl ⟨[.int .i64 (limV (repF f kk g)).1, .int .i64 (limV (repF f kk g)).2.1, .slice ad7 (limV (repF f kk g)).2.2.length cap7], by rw [HR.out.2], ?_, ?_⟩
   ·rw [HR.out.1]
    exact (HF7.out.set3 (by omega)).mono (by omega)
   ·exact set3_below (bthen hbw hb7) (by omega)
end Go.Proofs.YtajmjfbejfiipaaGreat
namespace Go.Proofs.YtajmjfbejfiipaaGreat
open Go.RowKit Go.Sort
theorem fr_tpl0 {base : Nat} {w : World} : tplT.Fr base w [.int .i64 0, .slice none 0 0] (0, []) := fr_cons (I64.small (by omega) (by omega)) fr_nil
set_option maxHeartbeats 3200000 in
set_option maxRecDepth 100000 in
theorem ExtendTemplate_any (w : World) {cs cf : Array Value} {t : Int × List (Int × List (List Int))} {f : Int × Int × List (Int × List Int)} (h : tplT.Rd w cs.toList t) (hf : frmT.Rd w cf.toList f) :
  Calls Tryz.prog 31 #[.agg cs, .agg cf] w (RetAC tplT w (xtV t f) (xtC t f)) := by
 have HT := Lib.hid h
 have HF := Lib.hid hf
 obtain ⟨v1, hv1, hI, hx⟩ := pair_ex h
 obtain rfl := agg_of hv1
 obtain ⟨ta, tc, rfl⟩ := rd_slice hx
 obtain ⟨v2, hv2, hIf, hIf2, -⟩ := trip_ex hf
 obtain rfl := agg_of hv2
 have HI := Lib.hid hI
 clear h hf hv1 hv2 hx hI
 go_enter Tryz.func31, Tryz.ntmps31
 go_wp2_with fail
 generalize hW : World.alloc _ _ = W
 have hbW : Below w.heap.size w W := hW ▸ ((bAA (w := w)).alloc (by simp; omega) _)
 have hsW : w.heap.size + 3 ≤ W.heap.size := by rw [← hW]; simp
 have t0 : W.cell? ⟨w.heap.size, 0, none⟩ = some (.int .i64 t.1) := by rw [← hW]; simp [go_sem]
 have t1 : W.cell? ⟨w.heap.size, 1, none⟩ = some (.slice ta t.2.length tc) := by rw [← hW]; simp [go_sem]
 have f0 : W.cell? ⟨w.heap.size + 1, 0, none⟩ = some (.int .i64 f.1) := by rw [← hW]; simp [go_sem]
 have f1 : W.cell? ⟨w.heap.size + 1, 1, none⟩ = some (.int .i64 f.2.1) := by rw [← hW]; simp [go_sem]
 have f2 : W.cell? ⟨w.heap.size + 1, 2, none⟩ = some v2 := by rw [← hW]; simp [go_sem]
 have r0 : W.cell? ⟨w.heap.size + 2, 0, none⟩ = some (.int .i64 0) := by rw [← hW]; simp [go_sem]
 have r1 : W.cell? ⟨w.heap.size + 2, 1, none⟩ = some (.slice none 0 0) := by rw [← hW]; simp [go_sem]
 have m0 : W.frozen? ⟨w.heap.size + 2, 0, none⟩ = false := by rw [← hW]; simp [go_sem]
 have m1 : W.frozen? ⟨w.heap.size + 2, 1, none⟩ = false := by rw [← hW]; simp [go_sem]
 clear hW
 refine (ValidFormula_any _ (cs := #[.int .i64 t.1, .slice ta t.2.length tc]) (cs' := #[.int .i64 f.1, .int .i64 f.2.1, v2]) (HT.out.below hbW) (HF.out.below hbW)).mono ?_
 rintro e w1 ⟨rfl, hb1⟩
 have hz1 := hb1.size
 have hB1 := bthen hbW hb1
 replace t0 := (cellB hb1 (by omega)).trans t0
 replace t1 := (cellB hb1 (by omega)).trans t1
 replace f0 := (cellB hb1 (by omega)).trans f0
 replace f1 := (cellB hb1 (by omega)).trans f1
 replace f2 := (cellB hb1 (by omega)).trans f2
 replace r0 := (cellB hb1 (by omega)).trans r0
 replace r1 := (cellB hb1 (by omega)).trans r1
 replace m0 := (frozenB hb1 (by omega)).trans m0
 replace m1 := (frozenB hb1 (by omega)).trans m1
 obtain ⟨g0, g1⟩ := set2_cells (x := .int .i64 0) (y := .slice none 0 0) r0 r1
 have HBAD : Hid (Below w.heap.size w ((w1.setCell ⟨w.heap.size + 2, 0, none⟩ (.int .i64 0)).setCell ⟨w.heap.size + 2, 1, none⟩ (.slice none 0 0))) := (hB1.setCell (show w.heap.size ≤ w.heap.size + 2 by omega) _).setCell (show w.heap.size ≤ w.heap.size + 2 by omega) _
 cases hT : tb (frmOk t f)
 ·have HR := Lib.hid (xt_1 hT)
  clear hT
  go_wp2_with fail
  exact bodyPost_ret (v := .tuple #[.agg #[.int .i64 0, .slice none 0 0], .int .i64 1]) (by simp [results, Tryz.results31, go_sem, g0, g1]) rfl ⟨[.int .i64 0, .slice none 0 0], by rw [HR.out.2], by rw [HR.out.1]; exact fr_tpl0, HBAD.out⟩
 cases hL : ((t.2.length : Int) == 6)
 rotate_left
 ·have HR := Lib.hid (xt_3 hT hL)
  clear hT
  go_wp2_with fail
  exact bodyPost_ret (v := .tuple #[.agg #[.int .i64 0, .slice none 0 0], .int .i64 3]) (by simp [results, Tryz.results31, go_sem, g0, g1]) rfl ⟨[.int .i64 0, .slice none 0 0], by rw [HR.out.2], by rw [HR.out.1]; exact fr_tpl0, HBAD.out⟩
 have HR := Lib.hid (xt_0 hT hL)
 have HOK := Lib.hid (tb_iff.1 hT)
 have hbd := tpl_bds HOK.out.1
 have htl := hbd.1
 have HBD := Lib.hid hbd.2
 clear hT hbd g0 g1
 go_wp2_with fail
 refine (ownTemplate_any _ (cs := #[.int .i64 t.1, .slice ta t.2.length tc]) (HT.out.below hB1) (by omega) HBD.out).mono ?_
 rintro e w2 ⟨v, rfl, hBv0, hb2, hz2'⟩
 obtain ⟨av0, nv0, cv0, rfl⟩ := ex_slice (hBv0.fr (by unfold capMax; omega))
 have HBv := Lib.hid (bl_off hBv0 (Nat.le_refl _))
 have hz2 := hb2.size
 have hB2 := bthen hB1 hb2
 replace t0 := (cellB hb2 (by omega)).trans t0
 replace t1 := (cellB hb2 (by omega)).trans t1
 replace f0 := (cellB hb2 (by omega)).trans f0
 replace f1 := (cellB hb2 (by omega)).trans f1
 replace f2 := (cellB hb2 (by omega)).trans f2
 replace r0 := (cellB hb2 (by omega)).trans r0
 replace r1 := (cellB hb2 (by omega)).trans r1
 replace m0 := (frozenB hb2 (by omega)).trans m0
 replace m1 := (frozenB hb2 (by omega)).trans m1
 clear hBv0
 go_wp2_with fail
 generalize hWa : World.alloc w2 _ = wa
 have hba : Below w2.heap.size w2 wa := hWa ▸ bA
 have hsa : wa.heap.size = w2.heap.size + 1 := by rw [← hWa]; simp
 have y0 : wa.cell? ⟨w2.heap.size, 0, none⟩ = some (.int .i64 t.1) := by rw [← hWa]; simp
 have y1 : wa.cell? ⟨w2.heap.size, 1, none⟩ = some (.slice av0 nv0 cv0) := by rw [← hWa]; simp
 have n1 : wa.frozen? ⟨w2.heap.size, 1, none⟩ = false := by rw [← hWa]; simp
 replace t0 := (cellB hba (by omega)).trans t0
 replace t1 := (cellB hba (by omega)).trans t1
 replace f0 := (cellB hba (by omega)).trans f0
 replace f1 := (cellB hba (by omega)).trans f1
 replace f2 := (cellB hba (by omega)).trans f2
 replace r0 := (cellB hba (by omega)).trans r0
 replace r1 := (cellB hba (by omega)).trans r1
 replace m0 := (frozenB hba (by omega)).trans m0
 replace m1 := (frozenB hba (by omega)).trans m1
 have hBa := bthen hB2 hba
 clear hWa
 refine wp_region_T (fun w' => w'.cell? ⟨w2.heap.size, 1, none⟩ = some (.slice av0 nv0 cv0) ∧ w'.cell? ⟨w.heap.size, 0, none⟩ = some (.int .i64 t.1) ∧ w'.cell? ⟨w.heap.size, 1, none⟩ = some (.slice ta t.2.length tc) ∧ w'.cell? ⟨w.heap.size + 1, 0, none⟩ = some (.int .i64 f.1) ∧ w'.cell? ⟨w.heap.size + 1, 1, none⟩ = some (.int .i64 f.2.1) ∧ w'.cell? ⟨w.heap.size + 1, 2, none⟩ = some v2) [6, 8] (by kernel_rfl) ⟨y1, t0, t1, f0, f1, f2⟩ (fun hHeld => ?_)
 refine wpAnyT_take (i := 0) (v := ?_) rfl (by kernel_rfl) (fun _ _ _ h => h) (Or.inl ⟨by rfl, ?_⟩) (by assumption) ?_
 rotate_left
 ·(intro w hSw; (try dsimp only at hSw); go_simp <;> with_reducible rfl)
 try simp only [Act.put]
 refine wpAnyT_take (i := 1) (v := ?_) rfl (by kernel_rfl) (fun _ _ _ h => h) (Or.inl ⟨by rfl, ?_⟩) (by assumption) ?_
 rotate_left
 ·(intro w hSw; (try dsimp only at hSw); go_simp <;> with_reducible rfl)
 try simp only [Act.put]
 refine wpAnyT_take (i := 2) (v := ?_) rfl (by kernel_rfl) (fun _ _ _ h => h) (Or.inl ⟨by rfl, ?_⟩) (by assumption) ?_
 rotate_left
 ·(intro w hSw; (try dsimp only at hSw); go_simp <;> with_reducible rfl)
 try simp only [Act.put]
 refine wpAnyT_take (i := 3) (v := ?_) rfl (by kernel_rfl) (fun _ _ _ h => h) (Or.inl ⟨by rfl, ?_⟩) (by assumption) ?_
 rotate_left
 ·(intro w hSw; (try dsimp only at hSw); go_simp <;> with_reducible rfl)
 try simp only [Act.put]
 refine wpAnyT_one (i := 4) rfl (by kernel_rfl) (fun K hK => ?_)
 go_simp
 go_at_call 79
 refine (valueOf_any _ (cs := #[.int .i64 t.1, .slice ta t.2.length tc]) (cf := #[.int .i64 f.1, .int .i64 f.2.1, v2]) (HT.out.below (bthen hBa bD)) (HF.out.below (bthen hBa bD)) HOK.out).mono ?_
 rintro e w3 ⟨cs3, rfl, hf3, hb3'⟩
 obtain ⟨a3, c3, rfl⟩ := fr_pair hf3
 have HF3 : Hid (relT.Fr wa.heap.size w3 [.int .i64 (vaR t f).1, .slice a3 (vaR t f).2.length c3] (vaR t f)) := hf3
 have hb3 : Below wa.heap.size wa w3 := bthen bD hb3'
 have hz3 := hb3.size
 have hBa3 := bthen hBa hb3
 replace y0 := (cellB hb3 (by omega)).trans y0
 replace y1 := (cellB hb3 (by omega)).trans y1
 replace t0 := (cellB hb3 (by omega)).trans t0
 replace t1 := (cellB hb3 (by omega)).trans t1
 replace f0 := (cellB hb3 (by omega)).trans f0
 replace f1 := (cellB hb3 (by omega)).trans f1
 replace f2 := (cellB hb3 (by omega)).trans f2
 replace r0 := (cellB hb3 (by omega)).trans r0
 replace r1 := (cellB hb3 (by omega)).trans r1
 replace n1 := (frozenB hb3 (by omega)).trans n1
 replace m0 := (frozenB hb3 (by omega)).trans m0
 replace m1 := (frozenB hb3 (by omega)).trans m1
 clear hf3 hb3'
 dsimp only
 refine hK.out _ _ ⟨y1, t0, t1, f0, f1, f2⟩ (fun hHeld => ?_)
 clear hK K
 refine wpAnyT_one (i := 5) rfl (by kernel_rfl) (fun K hK => ?_)
 go_simp
 refine hK.out _ _ ⟨by go_keep, by go_keep, by go_keep, by go_keep, by go_keep, by go_keep⟩ (fun hHeld => ?_)
 clear hK K
 refine wpAnyT_last (i := 6) rfl (by kernel_rfl) (by kernel_rfl) (fun K hK => ?_)
 refine step_push (E := relT.off w2.heap.size) _ rfl _ _ 24 32 rfl elRelS rfl (HBv.out.below ((hba.trans (hb3.mono (by omega))).alloc (by omega) _) (Nat.le_refl _)) rfl news2 ((fr_off (HF3.out.below bA) (by omega)).mono (by omega)) (by omega) (by decide) (by omega) (by simp; omega) ?_
 intro v5 w5 hB5 hg5 hown
 have hoE : (Value.slice av0 nv0 cv0).ownBlock ≠ some w2.heap.size := fun hg => by have := HBv.out.lt_top hg; omega
 have hb5 : Below (w1.heap.size + 3) w3 w5 := ((Below.refl _ w3).alloc (by omega) _).grown hg5 (by simp; omega) (fun q hq => HBv.out.own hq)
 have i1 := (grown_cell' (i := 1) hg5 (show w2.heap.size < _ by simp; omega) hoE).trans ((cellB (bA (w := w3)) (by omega)).trans y1)
 have i0 := (grown_cell' (i := 0) hg5 (show w2.heap.size < _ by simp; omega) hoE).trans ((cellB (bA (w := w3)) (by omega)).trans y0)
 have in1 := (World.frozen?_of_block (a := ⟨w2.heap.size, 1, none⟩) (hg5.block w2.heap.size (by simp; omega) (fun e => hoE e.symm))).trans ((frozenB (bA (w := w3)) (by omega)).trans n1)
 have hz5 := hb5.size
 have hl5 : (t.2 ++ [vaR t f]).length ≤ capMax := by rw [List.length_append]; unfold capMax; simp only [List.length_singleton]; omega
 obtain ⟨a5, n5, c5, rfl⟩ := ex_slice (hB5.fr hl5)
 have HB5 := Lib.hid hB5
 have HO5 : Hid ((Value.slice a5 n5 c5).ownBlock ≠ some w2.heap.size) := by
  unfold Hid
  rcases hown with e | e
  ·rw [e]; exact hoE
  ·rw [e]; simp; omega
 replace r0 := (cellB hb5 (by omega)).trans r0
 replace r1 := (cellB hb5 (by omega)).trans r1
 replace m0 := (frozenB hb5 (by omega)).trans m0
 replace m1 := (frozenB hb5 (by omega)).trans m1
 have hB5w : Below w.heap.size w w5 := hBa3.trans (hb5.mono (by omega))
 clear hB5 hg5 hown hoE y0 y1 n1 t0 t1 f0 f1 f2 hHeld
 refine hK.out _ _ ?_
 clear hK K
 refine wpAnyT_any (i := 7) (v := ?_) rfl (by kernel_rfl) (fun _ _ _ h => h) (Or.inl ⟨by rfl, ?_⟩) (by first | exact fun _ => by assumption | (intro hp; exact absurd hp (by rw [show pastB _ _ = true by kernel_rfl]; simp))) ?_
 rotate_left
 ·(intro w hSw; (try dsimp only at hSw); go_simp <;> with_reducible rfl)
 try simp only [Act.put]
 refine wpAnyT_last (i := 8) rfl (by kernel_rfl) (by kernel_rfl) (fun K hK => ?_)
 go_simp
 refine hK.out _ _ ?_
 clear hK K
 refine wpAnyT_done (by kernel_rfl) ?_ _
 go_simp
 generalize hW6 : World.setCell w5 _ _ = w6
 have q0 : w6.cell? ⟨w2.heap.size, 0, none⟩ = some (.int .i64 t.1) := by rw [← hW6]; exact (World.cell?_setCell_other _ _ _ _ (by simp)).trans i0
 have q1 : w6.cell? ⟨w2.heap.size, 1, none⟩ = some (.slice a5 n5 c5) := by rw [← hW6]; exact World.cell?_setCell_same _ _ _ i1
 have s0 : w6.cell? ⟨w.heap.size + 2, 0, none⟩ = some (.int .i64 0) := by rw [← hW6]; exact (World.cell?_setCell_other _ _ _ _ (by first | (simp; done) | (simp; omega))).trans r0
 have s1 : w6.cell? ⟨w.heap.size + 2, 1, none⟩ = some (.slice none 0 0) := by rw [← hW6]; exact (World.cell?_setCell_other _ _ _ _ (by first | (simp; done) | (simp; omega))).trans r1
 have k0 : w6.frozen? ⟨w.heap.size + 2, 0, none⟩ = false := by rw [← hW6]; exact (World.frozen?_setCell _ _ _ _).trans m0
 have k1 : w6.frozen? ⟨w.heap.size + 2, 1, none⟩ = false := by rw [← hW6]; exact (World.frozen?_setCell _ _ _ _).trans m1
 have hB6 : Below w.heap.size w w6 := by rw [← hW6]; exact hB5w.setCell (show w.heap.size ≤ w2.heap.size by omega) _
 have HF6 : Hid (relsT.Fr (w1.heap.size + 3) w6 [.slice a5 n5 c5] (t.2 ++ [vaR t f])) := by
  unfold Hid
  rw [← hW6]
  exact off_fr ((off_same HB5.out HO5.out (fun k hk => Below.heap_setCell _ _ _ _ hk)).fr hl5)
 have hz6 := hB6.size
 have hs6 : w5.heap.size ≤ w6.heap.size := by rw [← hW6]; simp
 clear hW6 i0 i1 in1 r0 r1 m0 m1
 obtain ⟨g0, g1⟩ := set2_cells (x := .int .i64 t.1) (y := .slice a5 n5 c5) s0 s1
 have hl6 : w2.heap.size < w6.heap.size := by omega
 go_wp2_with fail
 refine bodyPost_ret (v := .tuple #[.agg #[.int .i64 t.1, .slice a5 n5 c5], .int .i64 0]) (by simp [results, Tryz.results31, go_sem, g0, g1]) rfl ⟨[.int .i64 t.1, .slice a5 n5 c5], by rw [HR.out.2], ?_, ?_⟩
 ·rw [HR.out.1]
  exact (fr_cons HI.out (fr_set2 HF6.out (by omega))).mono (by omega)
 ·exact (hB6.setCell (show w.heap.size ≤ w.heap.size + 2 by omega) _).setCell (show w.heap.size ≤ w.heap.size + 2 by omega) _
end Go.Proofs.YtajmjfbejfiipaaGreat
namespace Go.Proofs.YtajmjfbejfiipaaGreat
open Go.RowKit Go.Sort
end Go.Proofs.YtajmjfbejfiipaaGreat
namespace Go.Proofs.YtajmjfbejfiipaaGreat
open Go.RowKit Go.Sort
set_option maxHeartbeats 800000 in
theorem l03Same_quiet (w : World) {v v' : Value} {x y : Int × Int × List (Int × List Int)} (h : frmT.Pt w v x) (h' : frmT.Pt w v' y) :
  Calls Tryz.prog 77 #[v, v'] w fun e w' => e = .returned (.bool (eqB x y)) ∧ Quiet w w' := by
 obtain ⟨b, o, ad, cap, rfl, hb, hI, hI2, c0, c1, c2, hx⟩ := pt_trip h
 obtain ⟨b', o', ad', cap', rfl, hb', hI', hI2', c0', c1', c2', hx'⟩ := pt_trip h'
 clear h h'
 cases hn : (x.1 != y.1)
 rotate_left
 ·go_enter Tryz.func77, Tryz.ntmps77
  go_wp2_with fail
  go_quiet (fail)
  go_wp2_with fail
  go_ret
  exact ⟨ret_bool (eqB_fst (by simpa using hn)).symm, (by first | exact Quiet.refl _ | exact Quiet.drewN _ _ | exact (Quiet.drewN _ _).then (Quiet.drewN _ _) | exact ((Quiet.drewN _ _).then (Quiet.drewN _ _)).then (Quiet.drewN _ _))⟩
 have HN : Hid (x.1 = y.1) := by simpa [Hid] using hn
 cases hm : (x.2.1 != y.2.1)
 rotate_left
 ·go_enter Tryz.func77, Tryz.ntmps77
  go_wp2_with fail
  go_quiet (fail)
  go_wp2_with fail
  go_ret
  exact ⟨ret_bool (eqB_snd HN.out (eqB_fst (by simpa using hm))).symm, (by first | exact Quiet.refl _ | exact Quiet.drewN _ _ | exact (Quiet.drewN _ _).then (Quiet.drewN _ _) | exact ((Quiet.drewN _ _).then (Quiet.drewN _ _)).then (Quiet.drewN _ _))⟩
 have HM : Hid (x.2.1 = y.2.1) := by simpa [Hid] using hm
 cases hl : (((x.2.2.length : Nat) : Int) != (y.2.2.length : Nat))
 rotate_left
 ·go_enter Tryz.func77, Tryz.ntmps77
  go_wp2_with fail
  go_quiet (fail)
  go_wp2_with fail
  go_ret
  exact ⟨ret_bool (eqB_snd HN.out (eqB_snd HM.out (eqB_len (by simp at hl; omega)))).symm, (by first | exact Quiet.refl _ | exact Quiet.drewN _ _ | exact (Quiet.drewN _ _).then (Quiet.drewN _ _) | exact ((Quiet.drewN _ _).then (Quiet.drewN _ _)).then (Quiet.drewN _ _))⟩
 have hl' : x.2.2.length = y.2.2.length := by simp at hl; omega
 have HL := Lib.hid hl'
 clear hl'
 obtain ⟨_, _, e1, hle, hle2, hcell⟩ := pairs_ex hx
 obtain ⟨_, _, e2, hle', hle2', hcell'⟩ := pairs_ex hx'
 simp only [List.cons.injEq, Value.slice.injEq, and_true, true_and] at e1 e2
 obtain ⟨rfl, rfl⟩ := e1
 obtain ⟨rfl, rfl⟩ := e2
 go_enter Tryz.func77, Tryz.ntmps77
 go_wp2_with fail
 go_quiet (fail)
 go_wp2_with fail
 go_loopw [5] (fun i wr => ∃ k : Nat, k ≤ x.2.2.length ∧ i = .int .i64 k ∧ x.2.2.take k = y.2.2.take k ∧ Quiet w wr) (fun i _ => x.2.2.length - (intOf i).toNat)
 case atStart => exact ⟨0, Nat.zero_le _, rfl, rfl, (by first | exact Quiet.refl _ | exact Quiet.drewN _ _ | exact (Quiet.drewN _ _).then (Quiet.drewN _ _) | exact ((Quiet.drewN _ _).then (Quiet.drewN _ _)).then (Quiet.drewN _ _))⟩
 case round =>
  obtain ⟨k, hk, rfl, ht, hqw⟩ := hrel
  have HT := Lib.hid ht
  have d2 := (hqw.below.cell hb).trans c2
  have d2' := (hqw.below.cell hb').trans c2'
  clear ht hn hm hl c0 c1 c2 c0' c1' c2'
  by_cases hkl : k < x.2.2.length
  ·have hkl' : k < y.2.2.length := by have := HL.out; omega
   obtain ⟨a, q, rfl, ha, -⟩ := hcell (by omega)
   obtain ⟨a', q', rfl, ha', -⟩ := hcell' (by omega)
   have p1 := (pt_elem hx hkl).below hqw.below
   have p2 := (pt_elem hx' hkl').below hqw.below
   have cQ : ∀ n, Calls Tryz.prog 150 #[.pointer (some ⟨a, q + k * 2, none⟩), .pointer (some ⟨a', q' + k * 2, none⟩)] (wr.drewN n) fun e w'' => e = .returned (.bool (eqB x.2.2[k] y.2.2[k])) ∧ ∃ m, w'' = wr.drewN m := fun n =>
    quiet_call (l03SameAtom_quiet _ (p1.below (Quiet.drewN wr n).below) (p2.below (Quiet.drewN wr n).below))
   cases hq : eqB x.2.2[k] y.2.2[k]
   ·rw [hq] at cQ
    go_wp2_with fail
    go_quiet (exact cQ _)
    go_wp2_with fail
    go_ret
    exact ⟨ret_bool (eqB_snd HN.out (eqB_snd HM.out (eqB_get hkl hkl' (fun e => by rw [eqB_true e] at hq; cases hq)))).symm, hqw.then (by first | exact Quiet.refl _ | exact Quiet.drewN _ _ | exact (Quiet.drewN _ _).then (Quiet.drewN _ _) | exact ((Quiet.drewN _ _).then (Quiet.drewN _ _)).then (Quiet.drewN _ _))⟩
   ·rw [hq] at cQ
    go_wp2_with fail
    go_quiet (exact cQ _)
    go_wp2_with fail
    go_roundw
    case rel => exact ⟨k + 1, by omega, by go_num, take_eq_succ hkl hkl' HT.out (eqB_iff.1 hq), hqw.then (by first | exact Quiet.refl _ | exact Quiet.drewN _ _ | exact (Quiet.drewN _ _).then (Quiet.drewN _ _) | exact ((Quiet.drewN _ _).then (Quiet.drewN _ _)).then (Quiet.drewN _ _))⟩
    case measure => simp [intOf]; omega
  ·obtain rfl : k = x.2.2.length := by omega
   go_wp2_with fail
   go_ret
   exact ⟨ret_bool (eqB_snd HN.out (eqB_snd HM.out (eqB_true (by have h1 := HT.out; have h2 := HL.out; rw [List.take_length, h2, List.take_length] at h1; exact h1)))).symm, hqw⟩
theorem specSameFormula_any (w : World) {cs cs' : Array Value} {x y : Int × Int × List (Int × List Int)} (h : frmT.Rd w cs.toList x) (h' : frmT.Rd w cs'.toList y) :
  Calls Tryz.prog 18 #[.agg cs, .agg cs'] w fun e w' => e = .returned (.bool (eqB x y)) ∧ Below w.heap.size w w' := by
 have p1 := (pt_box (T := 47) h)
 have p2 := (pt_box (T := 47) (h'.below (bA (o := .cells cs.toList.toArray 47))))
 obtain ⟨u, hv, _⟩ := trip_ex h
 obtain rfl := agg_of hv
 obtain ⟨u', hv', _⟩ := trip_ex h'
 obtain rfl := agg_of hv'
 have p1' := p1.below (bA (o := .cells [.int .i64 y.1, .int .i64 y.2.1, u'].toArray 47))
 clear hv hv' h h' p1
 go_enter Tryz.func18, Tryz.ntmps18
 go_wp2_with fail
 rw [World.size_alloc] at p2
 refine (l03Same_quiet _ p1' p2).mono ?_
 rintro e w1 ⟨rfl, n, rfl⟩
 go_wp2_with fail
 go_ret
 exact ⟨rfl, (by repeat (first | exact Below.refl _ _ | exact bA | assumption | refine Below.setCell ?_ (by first | omega | (simp; try omega)) _ | refine Below.alloc ?_ (by first | omega | (simp; try omega)) _ | refine Below.drew ?_ | refine bDN ?_ | refine bthen ?_ (by assumption)))⟩
end Go.Proofs.YtajmjfbejfiipaaGreat
