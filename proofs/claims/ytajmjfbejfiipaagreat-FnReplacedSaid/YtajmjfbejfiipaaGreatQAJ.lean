/-
Contracts: a template that an operation keeps, drawn from bytes.
Contracts: formulas drawn from bytes.
Plain: when a tuple is in the value of a formula: when there are values at which all atoms hold.
Plain: values of formulas: which tuples they have; operations that keep a template keep them.
Plain: a relation replaced by a formula with its value changes no value.
-/
import Derived.Test.YtajmjfbejfiipaaGreatQAI
import Derived.Test.YtajmjfbejfiipaaGreatQAC
import Derived.Test.YtajmjfbejfiipaaGreatQAE
import Derived.Test.YtajmjfbejfiipaaGreatQAG
import Derived.Test.YtajmjfbejfiipaaGreatQAF
namespace Go.Proofs.YtajmjfbejfiipaaGreat
open Go.RowKit Go.Sort
theorem rdP_one {ok : Nat → Prop} {w : World} {n : Int} {u : Value} {x : List Int} {T : TypeId} {B : Nat} (hI : I64 n) (h : intsT.RdP ok w [u] x) (hB : B = w.heap.size) (hok : ok B) : opsT.RdP ok (w.alloc (.cells #[.int .i64 n, u] T)) [.slice (some ⟨B, 0, none⟩) 1 1] [(n, x)] := by
 subst hB
 obtain ⟨fp, h1, h2⟩ := h
 have hs : Same fp w (w.alloc (.cells #[.int .i64 n, u] T)) := Same.below bA ((Ty.slice Ty.int).lt h1)
 refine ⟨w.heap.size :: fp, ⟨some ⟨w.heap.size, 0, none⟩, 1, rfl, Nat.le_refl _, by simp [capMax], .inr ⟨by simp, w.heap.size, 0, fun _ => fp, rfl, by simp, by simp, fun i hi => ?_⟩⟩, fun k hk => (List.mem_cons.1 hk).elim (fun e => e ▸ hok) (h2 k)⟩
 obtain rfl : i = 0 := by simpa using hi
 refine ⟨[.int .i64 n, u], ⟨[u], rfl, hI, (Ty.slice Ty.int).same h1 hs⟩, fun j hj => ?_⟩
 rcases (show j = 0 ∨ j = 1 by simp at hj; omega) with rfl | rfl <;> simp
set_option maxHeartbeats 12800000 in
set_option maxRecDepth 100000 in
theorem P6Kept_any (w : World) {v : Value} {code : List Int} (h : bytesT.Rd w [v] code) {cs : Array Value} {f : Int × List Int} (hf : opT.Rd w cs.toList f) {s : Int} (ho : opOk s f) (hs : 1 ≤ s ∧ s ≤ 4) :
  Calls Tryz.prog 29 #[v, .int .i64 s, .agg cs] w fun e w' => ∃ (cs : List Value) (t : Tpl), e = .returned (.agg cs.toArray) ∧ tplT.Fr w.heap.size w' cs t ∧ tplOk t ∧ t.1 = s ∧ t.2.length ≤ 2 ∧ (∀ r ∈ t.2, keepsP s f r) ∧ Below w.heap.size w w' := by
 obtain ⟨ad, cap, rfl⟩ := rd_slice h
 obtain ⟨fv, hfv, hfI, hfx⟩ := pair_ex hf
 obtain rfl := agg_of hfv
 obtain ⟨fa, fc, rfl⟩ := rd_slice hfx
 have hf1 := ho.2.1
 have H := Lib.hid h
 have HF := Lib.hid hf
 have HO := Lib.hid ho
 clear h hf ho hfv hfx
 go_enter Tryz.func29, Tryz.ntmps29
 go_wp2_with fail
 generalize hW : World.alloc (World.alloc w _) _ = W
 have hbW : Below w.heap.size w W := hW ▸ bAA
 have hsW : w.heap.size + 2 ≤ W.heap.size := by rw [← hW]; simp
 have f0 : W.cell? ⟨w.heap.size, 0, none⟩ = some (.int .i64 f.1) := by rw [← hW]; simp [go_sem]
 have f1 : W.cell? ⟨w.heap.size, 1, none⟩ = some (.slice fa f.2.length fc) := by rw [← hW]; simp [go_sem]
 have r0 : W.cell? ⟨w.heap.size + 1, 0, none⟩ = some (.int .i64 0) := by rw [← hW]; simp [go_sem]
 have r1 : W.cell? ⟨w.heap.size + 1, 1, none⟩ = some (.slice none 0 0) := by rw [← hW]; simp [go_sem]
 have q0 : W.frozen? ⟨w.heap.size + 1, 0, none⟩ = false := by rw [← hW]; simp [go_sem]
 have q1 : W.frozen? ⟨w.heap.size + 1, 1, none⟩ = false := by rw [← hW]; simp [go_sem]
 have HFW := Lib.hid (HF.out.below hbW)
 have HRQ := Lib.hid (And.intro r0 (And.intro r1 (And.intro q0 q1)))
 clear hW HF r0 r1 q0 q1
 refine (l00From_any W (H.out.below hbW)).mono ?_
 rintro e w1 ⟨rfl, hs1, hb1⟩
 have HS := Lib.hid hs1
 have hz1 := hs1.lt
 clear hs1
 go_wp2_with fail
 generalize hW2 : World.alloc w1 _ = w2
 have hb2 : Below w1.heap.size w1 w2 := hW2 ▸ bA
 have hsw2 : w1.heap.size + 1 ≤ w2.heap.size := by rw [← hW2]; simp
 have c0 : w2.cell? ⟨w1.heap.size, 0, none⟩ = some (.int .i64 s) := by rw [← hW2]; simp [go_sem]
 have c1 : w2.cell? ⟨w1.heap.size, 1, none⟩ = some (.slice none 0 0) := by rw [← hW2]; simp [go_sem]
 have m1 : w2.frozen? ⟨w1.heap.size, 1, none⟩ = false := by rw [← hW2]; simp [go_sem]
 have HS2 := Lib.hid (HS.out.below hb2)
 have hbW2 : Below W.heap.size W w2 := bthen hb1 hb2
 clear hW2 HS
 refine (pick_any w2 HS2.out (by omega) (by omega) (n := 2) (by omega)).mono ?_
 rintro e w3 ⟨x, rfl, hx0, hx1, hs3, ht3⟩
 have hz3 := ht3.size
 replace c0 := (ht3.cell (i := 0) (b := w1.heap.size) (by omega) (by omega)).trans c0
 replace c1 := (ht3.cell (i := 1) (b := w1.heap.size) (by omega) (by omega)).trans c1
 replace m1 := (ht3.frozen (i := 1) (b := w1.heap.size) (by omega) (by omega)).trans m1
 have HS3 := Lib.hid hs3
 have hbW3 : Below W.heap.size W w3 := hbW2.trans (ht3.below (by omega) (fun k hk e => by omega))
 obtain ⟨n, hn⟩ : ∃ n : Nat, 1 + x = (n : Int) := ⟨(1 + x).toNat, by omega⟩
 clear hs3 ht3 HS2
 go_wp2_with fail
 go_loopg [9] n (fun g i wr => ∃ (k : Nat) (va : Value) (T : List (Int × List (List Int))), k = g ∧ k ≤ 2 ∧ i = .int .i64 k ∧ T.length + k ≤ 2 ∧ Bl relT 32 (w1.heap.size + 1) wr.heap.size wr va T ∧ (∀ r ∈ T, relOk s r ∧ keepsP s f r) ∧ wr.cell? ⟨w1.heap.size, 0, none⟩ = some (.int .i64 s) ∧ wr.cell? ⟨w1.heap.size, 1, none⟩ = some va ∧ wr.frozen? ⟨w1.heap.size, 1, none⟩ = false ∧ SrcR W.heap.size W.heap.size (1 + 40 * (2 - (k : Int))) wr ∧ Below W.heap.size W wr ∧ w1.heap.size + 1 ≤ wr.heap.size)
 case atStart => exact ⟨n, _, [], rfl, by omega, by rw [← hn], by simp; omega, Bl.nil, by simp, c0, c1, m1, HS3.out.mono (by omega), hbW3, by omega⟩
 case round =>
  clear c0 c1 m1
  obtain ⟨k, va, T, rfl, hk, rfl, hTl, hBa, hok, c0, c1, m1, hsr, hbr, hsz⟩ := hrel
  have HB := Lib.hid hBa
  have HOK := Lib.hid hok
  have HSR := Lib.hid hsr
  obtain ⟨ta, tn, tc, rfl⟩ := ex_slice (hBa.fr (by unfold capMax; omega))
  obtain ⟨wv, rfl⟩ : ∃ wv : World, wv = wr := ⟨_, rfl⟩
  clear hBa hok hsr
  by_cases hkl : 0 < k
  ·go_wp2_with fail
   refine (pick_any wv HSR.out (by omega) (by omega) (n := 2) (by omega)).mono ?_
   rintro e w4 ⟨y, rfl, hy0, hy1, hs4, ht4⟩
   have hz4 := ht4.size
   have HS4 := Lib.hid hs4
   obtain ⟨ar, har⟩ : ∃ ar : Nat, 1 + y = (ar : Int) := ⟨(1 + y).toNat, by omega⟩
   have har2 : 1 ≤ ar ∧ ar ≤ 2 := by omega
   have hwr : IntKind.i64.wrap (1 + y) = (ar : Int) := by rw [har]; exact wrap_small (by omega) (by omega)
   clear hs4
   go_wp2_with fail
   clear hwr
   refine (l01Drawn_any w4 HS4.out (by omega) (by omega) hs har2).mono ?_
   rintro e w5 ⟨cs, r, rfl, hfr, hrok, hrar, hs5, ht5⟩
   obtain ⟨ra, rc, rfl⟩ := fr_pair hfr
   have hz5 := ht5.size
   have HS5 := Lib.hid hs5
   have HFR := Lib.hid hfr
   have HRK := Lib.hid hrok
   have HRAR := Lib.hid hrar
   have hb45 : Below W.heap.size wv w5 := (ht4.below (by omega) (fun k hk e => by omega)).trans (ht5.below (by omega) (fun k hk e => by omega))
   have hne : w1.heap.size ≠ W.heap.size := by omega
   replace c0 := ((ht5.cell (i := 0) (b := w1.heap.size) (by omega) (by omega)).trans ((ht4.cell (by omega) (by omega)).trans c0))
   replace c1 := ((ht5.cell (i := 1) (b := w1.heap.size) (by omega) (by omega)).trans ((ht4.cell (by omega) (by omega)).trans c1))
   replace m1 := ((ht5.frozen (i := 1) (b := w1.heap.size) (by omega) (by omega)).trans ((ht4.frozen (by omega) (by omega)).trans m1))
   have HB5 : Hid (Bl relT 32 (w1.heap.size + 1) wv.heap.size w5 (.slice ta tn tc) T) := HB.out.sameB (fun q h1 h2 => (ht5.block q (by omega) (by omega)).trans (ht4.block q h2 (by omega)))
   have hbr5 : Below W.heap.size W w5 := hbr.trans hb45
   clear hfr hrok hrar hs5 ht4 ht5 HB HS4 HSR hb45
   obtain ⟨N, hN⟩ : ∃ N : Nat, s ^ ar = (N : Int) := ⟨(s ^ ar).toNat, by have := pow_nn (s := s) (by omega) ar; omega⟩
   have HN := Lib.hid hN
   clear hN
   by_cases hl0 : ¬ 0 < r.2.length
   ·have HKP : Hid (keepsP s f r) := fun i hi => by
     have h0 : r.2.length = 0 := by omega
     rw [h0, show ((0 : Nat) : Int) = 0 from rfl, Int.zero_pow (by omega)] at hi
     omega
    go_upto_region 9 with fail
    generalize hW6 : World.alloc w5 _ = w6
    have hb6 : Below w5.heap.size w5 w6 := hW6 ▸ bA
    have hsw6 : w5.heap.size + 1 ≤ w6.heap.size := by rw [← hW6]; simp
    have g0 : w6.cell? ⟨w5.heap.size, 0, none⟩ = some (.int .i64 r.1) := by rw [← hW6]; simp [go_sem]
    have g1 : w6.cell? ⟨w5.heap.size, 1, none⟩ = some (.slice ra r.2.length rc) := by rw [← hW6]; simp [go_sem]
    have gm0 : w6.frozen? ⟨w5.heap.size, 0, none⟩ = false := by rw [← hW6]; simp [go_sem]
    have gm1 : w6.frozen? ⟨w5.heap.size, 1, none⟩ = false := by rw [← hW6]; simp [go_sem]
    replace c0 := (cellB hb6 (by omega)).trans c0
    replace c1 := (cellB hb6 (by omega)).trans c1
    replace m1 := (frozenB hb6 (by omega)).trans m1
    have HFR6 := Lib.hid (HFR.out.below hb6)
    have HS6 := Lib.hid (HS5.out.below hb6)
    have HB6 : Hid (Bl relT 32 (w1.heap.size + 1) wv.heap.size w6 (.slice ta tn tc) T) := HB5.out.below hb6 (by omega)
    have hbr6 : Below W.heap.size W w6 := bthen hbr5 hb6 |>.mono (Nat.le_refl _)
    have HPT6 : Hid (relT.Pt w6 (.pointer (some ⟨w5.heap.size, 0, none⟩)) r) := ⟨w5.heap.size, 0, _, rfl, by omega, HFR6.out.rd, fun j hj => by
     rcases (show j = 0 ∨ j = 1 by simp at hj; omega) with rfl | rfl
     ·exact g0
     ·exact g1⟩
    clear hW6 HFR HS5 HB5 hb6
    have hb5 : w5.heap.size < w6.heap.size := by omega
    obtain ⟨rr, hrr⟩ : ∃ rr, rr = r := ⟨_, rfl⟩
    obtain ⟨wx, hwx⟩ : ∃ wx : World, wx = w6 := ⟨_, rfl⟩
    obtain ⟨xa, hxa⟩ : ∃ xa, xa = ra := ⟨_, rfl⟩
    obtain ⟨xc, hxc⟩ : ∃ xc, xc = rc := ⟨_, rfl⟩
    rw [← hrr] at g0 g1 HKP HFR6 HRK
    rw [← hwx] at c0 c1 m1 g0 g1 HFR6 HS6 HB6 hbr6 ⊢
    rw [← hxa, ← hxc] at HFR6 g1
    have HFX : Hid (relT.Fr wv.heap.size wx [.int .i64 rr.1, .slice xa rr.2.length xc] rr) := HFR6.out.mono (by omega)
    have HSX : Hid (SrcR W.heap.size W.heap.size (1 + 40 * (2 - (k : Int)) + 34) wx) := HS6.out.mono (by omega)
    have hzx' : w6.heap.size ≤ wx.heap.size := by rw [hwx]; exact Nat.le_refl _
    have HBX := HB6
    have hbrX := hbr6
    have HRKX := HRK
    clear hrr hwx hxa hxc hl0 HFR6 HS6 HB6 hbr6
    go_wp2_with (refine wpList_push (E := relT) _ rfl _ _ 24 32 rfl elRelS rfl (HBX.out.below ((bA (w := wx)).mono (by omega)) (Nat.le_refl _)) rfl news2 ((HFX.out.below bA).mono (by omega)) (by omega) (by decide) (by omega) (by first | (simp; done) | (simp; omega)) ?_; intro v7 w7 hB7 hg7 hown; obtain ⟨a7, n7, c7, rfl⟩ := ex_slice (hB7.fr (by rw [List.length_append]; unfold capMax; simp only [List.length_singleton]; omega)); have hb7 : Below (w1.heap.size + 1) wx w7 := ((bA (w := wx)).mono (by omega)).grown hg7 (by first | (simp; done) | (simp; omega)) (fun q hq => HBX.out.own hq); have i0 := (cellB hb7 (by omega)).trans c0; have i1 := (cellB hb7 (by omega)).trans c1; have im := (frozenB hb7 (by omega)).trans m1)
    have hz7 := hb7.size
    have HB7 := Lib.hid hB7
    have HS7 := Lib.hid (srcB HSX.out (show W.heap.size < w1.heap.size + 1 by omega) hb7)
    clear hB7 hg7 hown
    go_wp2_with fail
    obtain ⟨k', rfl⟩ : ∃ k', k = k' + 1 := ⟨k - 1, by omega⟩
    go_roundg k'
    case measure => omega
    case rel => exact ⟨k', .slice a7 n7 c7, T ++ [rr], rfl, by omega, by go_num, by rw [List.length_append, List.length_singleton]; omega, by rw [size_set]; exact HB7.out.sameB (fun q h1 h2 => Below.heap_setCell _ _ _ _ (by simp; omega)), fun r' hr' => by
      rcases List.mem_append.1 hr' with hr' | hr'
      ·exact HOK.out r' hr'
      ·rw [List.mem_singleton.1 hr']; exact ⟨HRKX.out, HKP.out⟩, (World.cell?_setCell_other _ _ _ _ (by simp)).trans i0, World.cell?_setCell_same _ _ _ i1, (World.frozen?_setCell _ _ _ _).trans im, (HS7.out.tch (TchP.set (O := fun q => q = w1.heap.size) rfl) (by omega) (by omega)).mono (by omega), (hbrX.trans (hb7.mono (by omega))).setCell (by simp; omega) _, by rw [size_set]; omega⟩
   ·have hl1 : 0 < r.2.length := by omega
    go_wp2_with fail
    generalize hW6 : World.alloc w5 _ = w6
    have hb6 : Below w5.heap.size w5 w6 := hW6 ▸ bA
    have hsw6 : w5.heap.size + 1 ≤ w6.heap.size := by rw [← hW6]; simp
    have g0 : w6.cell? ⟨w5.heap.size, 0, none⟩ = some (.int .i64 r.1) := by rw [← hW6]; simp [go_sem]
    have g1 : w6.cell? ⟨w5.heap.size, 1, none⟩ = some (.slice ra r.2.length rc) := by rw [← hW6]; simp [go_sem]
    have gm0 : w6.frozen? ⟨w5.heap.size, 0, none⟩ = false := by rw [← hW6]; simp [go_sem]
    have gm1 : w6.frozen? ⟨w5.heap.size, 1, none⟩ = false := by rw [← hW6]; simp [go_sem]
    replace c0 := (cellB hb6 (by omega)).trans c0
    replace c1 := (cellB hb6 (by omega)).trans c1
    replace m1 := (frozenB hb6 (by omega)).trans m1
    have HFR6 := Lib.hid (HFR.out.below hb6)
    have HS6 := Lib.hid (HS5.out.below hb6)
    have HB6 : Hid (Bl relT 32 (w1.heap.size + 1) wv.heap.size w6 (.slice ta tn tc) T) := HB5.out.below hb6 (by omega)
    have hbr6 : Below W.heap.size W w6 := bthen hbr5 hb6 |>.mono (Nat.le_refl _)
    have HPT6 : Hid (relT.Pt w6 (.pointer (some ⟨w5.heap.size, 0, none⟩)) r) := ⟨w5.heap.size, 0, _, rfl, by omega, HFR6.out.rd, fun j hj => by
     rcases (show j = 0 ∨ j = 1 by simp at hj; omega) with rfl | rfl
     ·exact g0
     ·exact g1⟩
    clear hW6 HFR HS5 HB5 hb6
    have hb5 : w5.heap.size < w6.heap.size := by omega
    have p0 := (hbr6.cell (p := ⟨w.heap.size, 0, none⟩) (by show w.heap.size < W.heap.size; omega)).trans f0
    have p1 := (hbr6.cell (p := ⟨w.heap.size, 1, none⟩) (by show w.heap.size < W.heap.size; omega)).trans f1
    refine wp_region_T (fun w' => w'.cell? ⟨w.heap.size, 0, none⟩ = some (.int .i64 f.1) ∧ w'.cell? ⟨w.heap.size, 1, none⟩ = some (.slice fa f.2.length fc)) [6] (by kernel_rfl) ⟨p0, p1⟩ (fun hHeld => ?_)
    refine wpAnyT_take (i := 0) (v := ?_) rfl (by kernel_rfl) (fun _ _ _ h => h) (Or.inl ⟨by rfl, ?_⟩) (by assumption) ?_
    rotate_left
    ·(intro w hSw; (try dsimp only at hSw); go_simp <;> with_reducible rfl)
    go_simp
    refine wpAnyT_take (i := 1) (v := ?_) rfl (by kernel_rfl) (fun _ _ _ h => h) (Or.inl ⟨by rfl, ?_⟩) (by assumption) ?_
    rotate_left
    ·(intro w hSw; (try dsimp only at hSw); go_simp <;> with_reducible rfl)
    go_simp
    refine wpAnyT_take (i := 3) (v := ?_) rfl (by kernel_rfl) (fun _ _ _ h => h) (Or.inl ⟨by rfl, ?_⟩) (by assumption) ?_
    rotate_left
    ·(intro w hSw; (try dsimp only at hSw); go_simp <;> with_reducible rfl)
    go_simp
    have hv0 : Below w6.heap.size w6 w6.drew := bD
    have HPT0 := Lib.hid (HPT6.out.below hv0)
    have HF0 : Hid (opT.Rd w6.drew [.int .i64 f.1, .slice fa f.2.length fc] f) := HFW.out.below (hbr6.trans (hv0.mono (by omega)))
    have hz0 := hv0.size
    have hbr0 : Below W.heap.size W w6.drew := hbr6.trans (hv0.mono (by omega))
    clear p0 p1
    obtain ⟨x0, hx0'⟩ : ∃ x0 : World, x0 = w6.drew := ⟨_, rfl⟩
    rw [← hx0'] at hHeld hv0 HPT0 HF0 hz0 hbr0 ⊢
    clear hx0'
    obtain ⟨p0, p1⟩ := hHeld
    refine wpAnyT_two (i := 2) (j := 4) rfl rfl (by kernel_rfl) (fun K hK => ?_) (fun K hK => ?_)
    ·go_simp
     generalize hWb : World.alloc x0 _ = xb
     have hbb : Below x0.heap.size x0 xb := by rw [← hWb]; exact bA
     have hsb : x0.heap.size + 1 ≤ xb.heap.size := by rw [← hWb]; simp
     have HOP : Hid (opsT.Rd xb [.slice (some ⟨x0.heap.size, 0, none⟩) 1 1] [f]) := by
      unfold Hid
      rw [← hWb]
      obtain ⟨u, hu, hI, hx⟩ := pair_ex HF0.out
      simp only [List.cons.injEq, true_and, and_true] at hu
      exact rd_one hI (by rw [hu]; exact hx) rfl
     replace p0 := (cellB hbb (by omega)).trans p0
     replace p1 := (cellB hbb (by omega)).trans p1
     clear hWb
     refine hK.out _ _ ⟨p0, p1⟩ (fun hHeld => ?_)
     clear hK K
     refine wpAnyT_one (i := 4) rfl (by kernel_rfl) (fun K hK => ?_)
     go_simp
     go_at_call 98
     refine (l01SetOf3_any xb (HPT0.out.below hbb) HRK.out ar N HRAR.out HN.out).mono ?_
     rintro e xd ⟨bx, g, rfl, hset, hgl, hbd⟩
     have HSET := Lib.hid hset
     have hzd := hbd.size
     replace p0 := (cellB hbd (by omega)).trans p0
     replace p1 := (cellB hbd (by omega)).trans p1
     obtain ⟨ob, hob⟩ : ∃ ob, ob = x0.heap.size := ⟨_, rfl⟩
     have HOPD : Hid (opsT.RdP (fun q => q ≠ g) xd [.slice (some ⟨ob, 0, none⟩) 1 1] [f]) := by
      rw [hob]
      exact HOP.out.P.mono (fun q hq1 hq2 => by omega) |>.below hbd
     have hb0d : Below x0.heap.size x0 xd := bthen hbb hbd
     have hgx : x0.heap.size ≤ g := by omega
     rw [← hob]
     clear hset hob HOP
     dsimp only
     refine hK.out _ _ ⟨p0, p1⟩ (fun hHeld => ?_)
     clear hK K
     refine wpAnyT_one (i := 5) rfl (by kernel_rfl) (fun K hK => ?_)
     go_simp
     go_at_call 97
     refine (l02Closure_any xd HSET.out HRK.out.1 (by omega) HN.out (rel_tup HRK.out HRAR.out) HOPD.out (fun f' hf' => by rw [List.mem_singleton.1 hf']; exact HO.out)).mono ?_
     rintro e xe ⟨cs, M, rfl, hfm, hmok, hmem, htc⟩
     obtain ⟨xa, xc, rfl⟩ := fr_pair hfm
     have HFM := Lib.hid hfm
     have HRKX := Lib.hid hmok
     have HKP : Hid (keepsP s f ((ar : Int), M)) := clo_keeps hmem (List.mem_singleton.2 rfl) HO.out
     have hbd6 : Below w6.heap.size w6 xd := bthen hv0 hb0d
     have hzd6 := hbd6.size
     have hze := htc.size
     replace p0 := (htc.cell (b := w.heap.size) (i := 0) (by omega) (by omega)).trans p0
     replace p1 := (htc.cell (b := w.heap.size) (i := 1) (by omega) (by omega)).trans p1
     replace g0 := (htc.cell (b := w5.heap.size) (i := 0) (by omega) (by omega)).trans ((cellB hbd6 hb5).trans g0)
     replace g1 := (htc.cell (b := w5.heap.size) (i := 1) (by omega) (by omega)).trans ((cellB hbd6 hb5).trans g1)
     replace gm0 := (htc.frozen (b := w5.heap.size) (i := 0) (by omega) (by omega)).trans ((frozenB hbd6 hb5).trans gm0)
     replace gm1 := (htc.frozen (b := w5.heap.size) (i := 1) (by omega) (by omega)).trans ((frozenB hbd6 hb5).trans gm1)
     replace c0 := (htc.cell (b := w1.heap.size) (i := 0) (by omega) (by omega)).trans ((cellB hbd6 (by omega)).trans c0)
     replace c1 := (htc.cell (b := w1.heap.size) (i := 1) (by omega) (by omega)).trans ((cellB hbd6 (by omega)).trans c1)
     replace m1 := (htc.frozen (b := w1.heap.size) (i := 1) (by omega) (by omega)).trans ((frozenB hbd6 (by omega)).trans m1)
     have hb6e : Below w6.heap.size w6 xe := hbd6.trans (htc.below (by omega) (fun k hk e => by omega))
     have HBE : Hid (Bl relT 32 (w1.heap.size + 1) wv.heap.size xe (.slice ta tn tc) T) := HB6.out.below hb6e (by omega)
     have HSE := Lib.hid (HS6.out.below hb6e)
     have hbrE : Below W.heap.size W xe := hbr6.trans (hb6e.mono (by omega))
     clear hfm hmok hmem htc HSET HOPD
     dsimp only
     refine hK.out _ _ ⟨p0, p1⟩ (fun hHeld => ?_)
     clear hK K
     refine wpAnyT_last (i := 6) rfl (by kernel_rfl) (by kernel_rfl) (fun K hK => ?_)
     go_simp
     refine hK.out _ _ ?_
     clear hK K
     refine wpAnyT_done (by kernel_rfl) ?_ _
     go_simp
     clear p0 p1 hHeld
     go_upto_region 9 with fail
     obtain ⟨y0, y1⟩ := set2_cells (x := .int .i64 (ar : Int)) (y := .slice xa M.length xc) g0 g1
     generalize hWx : World.setCell (World.setCell xe _ _) _ _ = wx at y0 y1 ⊢
     replace g0 := y0
     replace g1 := y1
     have hzx : wx.heap.size = xe.heap.size := by rw [← hWx]; simp only [size_set]
     replace c0 : wx.cell? ⟨w1.heap.size, 0, none⟩ = some (.int .i64 s) := by rw [← hWx]; exact (World.cell?_setCell_other _ _ _ _ (by first | (simp; done) | (simp; omega))).trans ((World.cell?_setCell_other _ _ _ _ (by first | (simp; done) | (simp; omega))).trans c0)
     replace c1 : wx.cell? ⟨w1.heap.size, 1, none⟩ = some (.slice ta tn tc) := by rw [← hWx]; exact (World.cell?_setCell_other _ _ _ _ (by first | (simp; done) | (simp; omega))).trans ((World.cell?_setCell_other _ _ _ _ (by first | (simp; done) | (simp; omega))).trans c1)
     replace m1 : wx.frozen? ⟨w1.heap.size, 1, none⟩ = false := by rw [← hWx]; exact (World.frozen?_setCell _ _ _ _).trans ((World.frozen?_setCell _ _ _ _).trans m1)
     have HBX : Hid (Bl relT 32 (w1.heap.size + 1) wv.heap.size wx (.slice ta tn tc) T) := by rw [← hWx]; exact HBE.out.sameB (fun q h1 h2 => (Below.heap_setCell _ _ _ _ (by simp; omega)).trans (Below.heap_setCell _ _ _ _ (by simp; omega)))
     obtain ⟨rr, hrr⟩ : ∃ rr : Int × List (List Int), rr = ((ar : Int), M) := ⟨_, rfl⟩
     have HFX : Hid (relT.Fr wv.heap.size wx [.int .i64 rr.1, .slice xa rr.2.length xc] rr) := by rw [← hWx, hrr]; exact (fr_set2 HFM.out (by omega)).mono (by omega)
     have HSX : Hid (SrcR W.heap.size W.heap.size (1 + 40 * (2 - (k : Int)) + 34) wx) := by rw [← hWx]; exact ((HSE.out.tch (TchP.set (O := fun q => q = w5.heap.size) rfl) (by omega) (by omega)).tch (TchP.set (O := fun q => q = w5.heap.size) rfl) (by omega) (by omega)).mono (by omega)
     have hbrX : Below W.heap.size W wx := by rw [← hWx]; exact (hbrE.setCell (by simp; omega) _).setCell (by simp; omega) _
     replace g0 : wx.cell? ⟨w5.heap.size, 0, none⟩ = some (.int .i64 rr.1) := by rw [hrr]; exact g0
     replace g1 : wx.cell? ⟨w5.heap.size, 1, none⟩ = some (.slice xa rr.2.length xc) := by rw [hrr]; exact g1
     rw [← hrr] at HRKX HKP
     clear hWx HBE HFM HSE hbrE hrr y0 y1
     have hzx' : w6.heap.size ≤ wx.heap.size := by have := hb6e.size; omega
     clear hzx
     go_wp2_with (refine wpList_push (E := relT) _ rfl _ _ 24 32 rfl elRelS rfl (HBX.out.below ((bA (w := wx)).mono (by omega)) (Nat.le_refl _)) rfl news2 ((HFX.out.below bA).mono (by omega)) (by omega) (by decide) (by omega) (by first | (simp; done) | (simp; omega)) ?_; intro v7 w7 hB7 hg7 hown; obtain ⟨a7, n7, c7, rfl⟩ := ex_slice (hB7.fr (by rw [List.length_append]; unfold capMax; simp only [List.length_singleton]; omega)); have hb7 : Below (w1.heap.size + 1) wx w7 := ((bA (w := wx)).mono (by omega)).grown hg7 (by first | (simp; done) | (simp; omega)) (fun q hq => HBX.out.own hq); have i0 := (cellB hb7 (by omega)).trans c0; have i1 := (cellB hb7 (by omega)).trans c1; have im := (frozenB hb7 (by omega)).trans m1)
     have hz7 := hb7.size
     have HB7 := Lib.hid hB7
     have HS7 := Lib.hid (srcB HSX.out (show W.heap.size < w1.heap.size + 1 by omega) hb7)
     clear hB7 hg7 hown
     go_wp2_with fail
     obtain ⟨k', rfl⟩ : ∃ k', k = k' + 1 := ⟨k - 1, by omega⟩
     go_roundg k'
     case measure => omega
     case rel => exact ⟨k', .slice a7 n7 c7, T ++ [rr], rfl, by omega, by go_num, by rw [List.length_append, List.length_singleton]; omega, by rw [size_set]; exact HB7.out.sameB (fun q h1 h2 => Below.heap_setCell _ _ _ _ (by simp; omega)), fun r' hr' => by
       rcases List.mem_append.1 hr' with hr' | hr'
       ·exact HOK.out r' hr'
       ·rw [List.mem_singleton.1 hr']; exact ⟨HRKX.out, HKP.out⟩, (World.cell?_setCell_other _ _ _ _ (by simp)).trans i0, World.cell?_setCell_same _ _ _ i1, (World.frozen?_setCell _ _ _ _).trans im, (HS7.out.tch (TchP.set (O := fun q => q = w1.heap.size) rfl) (by omega) (by omega)).mono (by omega), (hbrX.trans (hb7.mono (by omega))).setCell (by simp; omega) _, by rw [size_set]; omega⟩
    ·go_simp
     go_at_call 98
     refine (l01SetOf3_any x0 HPT0.out HRK.out ar N HRAR.out HN.out).mono ?_
     rintro e xb ⟨bx, g, rfl, hset, hgl, hbb⟩
     have HSET0 := Lib.hid hset
     have hgb := hset.1.2.2.2.2.lt
     have hzb := hbb.size
     replace p0 := (cellB hbb (by omega)).trans p0
     replace p1 := (cellB hbb (by omega)).trans p1
     clear hset
     dsimp only
     refine hK.out _ _ ⟨p0, p1⟩ (fun hHeld => ?_)
     clear hK K
     refine wpAnyT_one (i := 2) rfl (by kernel_rfl) (fun K hK => ?_)
     go_simp
     generalize hWb : World.alloc xb _ = xd
     have hbd : Below xb.heap.size xb xd := by rw [← hWb]; exact bA
     have hsd : xb.heap.size + 1 ≤ xd.heap.size := by rw [← hWb]; simp
     have HOPD : Hid (opsT.RdP (fun q => q ≠ g) xd [.slice (some ⟨xb.heap.size, 0, none⟩) 1 1] [f]) := by
      unfold Hid
      rw [← hWb]
      obtain ⟨u, hu, hI, hx⟩ := pair_ex HF0.out
      simp only [List.cons.injEq, true_and, and_true] at hu
      rw [← hu] at hx
      exact rdP_one (ok := fun q => q ≠ g) hI ((hx.P.mono (fun q hq1 hq2 => by omega)).below hbb) rfl (by omega)
     replace p0 := (cellB hbd (by omega)).trans p0
     replace p1 := (cellB hbd (by omega)).trans p1
     have HSET : Hid (Set3 xd x0.heap.size bx g s ar N r.2) := HSET0.out.below hbd (Nat.le_refl _)
     have hb0d : Below x0.heap.size x0 xd := bthen hbb hbd
     have hgx : x0.heap.size ≤ g := hgl
     have hzd : xb.heap.size ≤ xd.heap.size := by omega
     obtain ⟨ob, hob⟩ : ∃ ob, ob = xb.heap.size := ⟨_, rfl⟩
     rw [← hob] at HOPD ⊢
     clear hWb HSET0 hob hbd hsd
     refine hK.out _ _ ⟨p0, p1⟩ (fun hHeld => ?_)
     clear hK K
     refine wpAnyT_one (i := 5) rfl (by kernel_rfl) (fun K hK => ?_)
     go_simp
     go_at_call 97
     refine (l02Closure_any xd HSET.out HRK.out.1 (by omega) HN.out (rel_tup HRK.out HRAR.out) HOPD.out (fun f' hf' => by rw [List.mem_singleton.1 hf']; exact HO.out)).mono ?_
     rintro e xe ⟨cs, M, rfl, hfm, hmok, hmem, htc⟩
     obtain ⟨xa, xc, rfl⟩ := fr_pair hfm
     have HFM := Lib.hid hfm
     have HRKX := Lib.hid hmok
     have HKP : Hid (keepsP s f ((ar : Int), M)) := clo_keeps hmem (List.mem_singleton.2 rfl) HO.out
     have hbd6 : Below w6.heap.size w6 xd := bthen hv0 hb0d
     have hzd6 := hbd6.size
     have hze := htc.size
     replace p0 := (htc.cell (b := w.heap.size) (i := 0) (by omega) (by omega)).trans p0
     replace p1 := (htc.cell (b := w.heap.size) (i := 1) (by omega) (by omega)).trans p1
     replace g0 := (htc.cell (b := w5.heap.size) (i := 0) (by omega) (by omega)).trans ((cellB hbd6 hb5).trans g0)
     replace g1 := (htc.cell (b := w5.heap.size) (i := 1) (by omega) (by omega)).trans ((cellB hbd6 hb5).trans g1)
     replace gm0 := (htc.frozen (b := w5.heap.size) (i := 0) (by omega) (by omega)).trans ((frozenB hbd6 hb5).trans gm0)
     replace gm1 := (htc.frozen (b := w5.heap.size) (i := 1) (by omega) (by omega)).trans ((frozenB hbd6 hb5).trans gm1)
     replace c0 := (htc.cell (b := w1.heap.size) (i := 0) (by omega) (by omega)).trans ((cellB hbd6 (by omega)).trans c0)
     replace c1 := (htc.cell (b := w1.heap.size) (i := 1) (by omega) (by omega)).trans ((cellB hbd6 (by omega)).trans c1)
     replace m1 := (htc.frozen (b := w1.heap.size) (i := 1) (by omega) (by omega)).trans ((frozenB hbd6 (by omega)).trans m1)
     have hb6e : Below w6.heap.size w6 xe := hbd6.trans (htc.below (by omega) (fun k hk e => by omega))
     have HBE : Hid (Bl relT 32 (w1.heap.size + 1) wv.heap.size xe (.slice ta tn tc) T) := HB6.out.below hb6e (by omega)
     have HSE := Lib.hid (HS6.out.below hb6e)
     have hbrE : Below W.heap.size W xe := hbr6.trans (hb6e.mono (by omega))
     clear hfm hmok hmem htc HSET HOPD
     dsimp only
     refine hK.out _ _ ⟨p0, p1⟩ (fun hHeld => ?_)
     clear hK K
     refine wpAnyT_last (i := 6) rfl (by kernel_rfl) (by kernel_rfl) (fun K hK => ?_)
     go_simp
     refine hK.out _ _ ?_
     clear hK K
     refine wpAnyT_done (by kernel_rfl) ?_ _
     go_simp
     clear p0 p1 hHeld
     go_upto_region 9 with fail
     obtain ⟨y0, y1⟩ := set2_cells (x := .int .i64 (ar : Int)) (y := .slice xa M.length xc) g0 g1
     generalize hWx : World.setCell (World.setCell xe _ _) _ _ = wx at y0 y1 ⊢
     replace g0 := y0
     replace g1 := y1
     have hzx : wx.heap.size = xe.heap.size := by rw [← hWx]; simp only [size_set]
     replace c0 : wx.cell? ⟨w1.heap.size, 0, none⟩ = some (.int .i64 s) := by rw [← hWx]; exact (World.cell?_setCell_other _ _ _ _ (by first | (simp; done) | (simp; omega))).trans ((World.cell?_setCell_other _ _ _ _ (by first | (simp; done) | (simp; omega))).trans c0)
     replace c1 : wx.cell? ⟨w1.heap.size, 1, none⟩ = some (.slice ta tn tc) := by rw [← hWx]; exact (World.cell?_setCell_other _ _ _ _ (by first | (simp; done) | (simp; omega))).trans ((World.cell?_setCell_other _ _ _ _ (by first | (simp; done) | (simp; omega))).trans c1)
     replace m1 : wx.frozen? ⟨w1.heap.size, 1, none⟩ = false := by rw [← hWx]; exact (World.frozen?_setCell _ _ _ _).trans ((World.frozen?_setCell _ _ _ _).trans m1)
     have HBX : Hid (Bl relT 32 (w1.heap.size + 1) wv.heap.size wx (.slice ta tn tc) T) := by rw [← hWx]; exact HBE.out.sameB (fun q h1 h2 => (Below.heap_setCell _ _ _ _ (by simp; omega)).trans (Below.heap_setCell _ _ _ _ (by simp; omega)))
     obtain ⟨rr, hrr⟩ : ∃ rr : Int × List (List Int), rr = ((ar : Int), M) := ⟨_, rfl⟩
     have HFX : Hid (relT.Fr wv.heap.size wx [.int .i64 rr.1, .slice xa rr.2.length xc] rr) := by rw [← hWx, hrr]; exact (fr_set2 HFM.out (by omega)).mono (by omega)
     have HSX : Hid (SrcR W.heap.size W.heap.size (1 + 40 * (2 - (k : Int)) + 34) wx) := by rw [← hWx]; exact ((HSE.out.tch (TchP.set (O := fun q => q = w5.heap.size) rfl) (by omega) (by omega)).tch (TchP.set (O := fun q => q = w5.heap.size) rfl) (by omega) (by omega)).mono (by omega)
     have hbrX : Below W.heap.size W wx := by rw [← hWx]; exact (hbrE.setCell (by simp; omega) _).setCell (by simp; omega) _
     replace g0 : wx.cell? ⟨w5.heap.size, 0, none⟩ = some (.int .i64 rr.1) := by rw [hrr]; exact g0
     replace g1 : wx.cell? ⟨w5.heap.size, 1, none⟩ = some (.slice xa rr.2.length xc) := by rw [hrr]; exact g1
     rw [← hrr] at HRKX HKP
     clear hWx HBE HFM HSE hbrE hrr y0 y1
     have hzx' : w6.heap.size ≤ wx.heap.size := by have := hb6e.size; omega
     clear hzx
     go_wp2_with (refine wpList_push (E := relT) _ rfl _ _ 24 32 rfl elRelS rfl (HBX.out.below ((bA (w := wx)).mono (by omega)) (Nat.le_refl _)) rfl news2 ((HFX.out.below bA).mono (by omega)) (by omega) (by decide) (by omega) (by first | (simp; done) | (simp; omega)) ?_; intro v7 w7 hB7 hg7 hown; obtain ⟨a7, n7, c7, rfl⟩ := ex_slice (hB7.fr (by rw [List.length_append]; unfold capMax; simp only [List.length_singleton]; omega)); have hb7 : Below (w1.heap.size + 1) wx w7 := ((bA (w := wx)).mono (by omega)).grown hg7 (by first | (simp; done) | (simp; omega)) (fun q hq => HBX.out.own hq); have i0 := (cellB hb7 (by omega)).trans c0; have i1 := (cellB hb7 (by omega)).trans c1; have im := (frozenB hb7 (by omega)).trans m1)
     have hz7 := hb7.size
     have HB7 := Lib.hid hB7
     have HS7 := Lib.hid (srcB HSX.out (show W.heap.size < w1.heap.size + 1 by omega) hb7)
     clear hB7 hg7 hown
     go_wp2_with fail
     obtain ⟨k', rfl⟩ : ∃ k', k = k' + 1 := ⟨k - 1, by omega⟩
     go_roundg k'
     case measure => omega
     case rel => exact ⟨k', .slice a7 n7 c7, T ++ [rr], rfl, by omega, by go_num, by rw [List.length_append, List.length_singleton]; omega, by rw [size_set]; exact HB7.out.sameB (fun q h1 h2 => Below.heap_setCell _ _ _ _ (by simp; omega)), fun r' hr' => by
       rcases List.mem_append.1 hr' with hr' | hr'
       ·exact HOK.out r' hr'
       ·rw [List.mem_singleton.1 hr']; exact ⟨HRKX.out, HKP.out⟩, (World.cell?_setCell_other _ _ _ _ (by simp)).trans i0, World.cell?_setCell_same _ _ _ i1, (World.frozen?_setCell _ _ _ _).trans im, (HS7.out.tch (TchP.set (O := fun q => q = w1.heap.size) rfl) (by omega) (by omega)).mono (by omega), (hbrX.trans (hb7.mono (by omega))).setCell (by simp; omega) _, by rw [size_set]; omega⟩
  ·obtain rfl : k = 0 := by omega
   have HF := Lib.hid (HB.out.fr (by unfold capMax; omega))
   obtain ⟨x1, x2, hx⟩ := fr_slice HF.out
   simp only [Value.slice.injEq] at hx
   obtain ⟨rfl, rfl, rfl⟩ := hx
   obtain ⟨r0, r1, q0, q1⟩ := HRQ.out
   replace r0 := (hbr.cell (p := ⟨w.heap.size + 1, 0, none⟩) (by show w.heap.size + 1 < W.heap.size; omega)).trans r0
   replace r1 := (hbr.cell (p := ⟨w.heap.size + 1, 1, none⟩) (by show w.heap.size + 1 < W.heap.size; omega)).trans r1
   replace q0 := (hbr.frozen (p := ⟨w.heap.size + 1, 0, none⟩) (by show w.heap.size + 1 < W.heap.size; omega)).trans q0
   replace q1 := (hbr.frozen (p := ⟨w.heap.size + 1, 1, none⟩) (by show w.heap.size + 1 < W.heap.size; omega)).trans q1
   have hbrw : Below w.heap.size w wv := hbW.trans (hbr.mono (by omega))
   go_wp2_with fail
   obtain ⟨g0, g1⟩ := set2_cells (x := .int .i64 s) (y := .slice ta T.length tc) r0 r1
   refine bodyPost_ret (v := .agg #[.int .i64 s, .slice ta T.length tc]) (by simp [results, Tryz.results29, go_sem, g0, g1]) rfl ⟨[.int .i64 s, .slice ta T.length tc], (s, T), rfl, ?_, ⟨hs, by show T.length ≤ 6; omega, fun r hr => (HOK.out r hr).1⟩, rfl, by show T.length ≤ 2; omega, fun r hr => (HOK.out r hr).2, ?_⟩
   ·exact (fr_set2 (fr_cons (I64.small (by omega) (by omega)) HF.out : tplT.Fr (w1.heap.size + 1) wv [.int .i64 s, .slice ta T.length tc] (s, T)) (show w.heap.size + 1 < w1.heap.size + 1 by omega)).mono (by omega)
   ·exact (hbrw.setCell (by simp) _).setCell (by simp) _
end Go.Proofs.YtajmjfbejfiipaaGreat
namespace Go.Proofs.YtajmjfbejfiipaaGreat
open Go.RowKit Go.Sort
theorem arOf_at {t : Tpl} (hT : tplOk t) {rel : Int} (h : -1 ≤ rel ∧ rel < (t.2.length : Int)) : 1 ≤ arOf t rel ∧ arOf t rel ≤ 4 := by
 unfold arOf
 split
 ·omega
 ·rw [dif_pos ⟨by omega, by omega⟩]
  have := (hT.2.2 _ (List.getElem_mem (by omega : rel.toNat < t.2.length))).2.1
  exact this
/-- a drawn formula comes back -/
def FmR (sb B : Nat) (K : Int) (t : Tpl) (free : Nat) (w : World) (e : Ending) (w' : World) : Prop :=
 ∃ (cs : List Value) (f : Int × Int × List (Int × List Int)), e = .returned (.agg cs.toArray) ∧ frmT.Fr w.heap.size w' cs f ∧ frmOk t f ∧ f.1 = free ∧ f.2.1 ≤ free + 2 ∧ f.2.2.length ≤ 4 ∧ SrcR sb B K w' ∧ TchP (fun q => q = sb) w w'
set_option maxHeartbeats 12800000 in
set_option maxRecDepth 100000 in
theorem l03Drawn_any (w : World) {sb B : Nat} {K : Int} (h : SrcR sb B K w) (hK0 : 0 ≤ K) (hK : K ≤ 100000) {vt : Value} {t : Tpl} (ht : ∀ X, TchP (fun q => q = sb) w X → tplT.Pt X vt t) (hT : tplOk t) {free : Nat} (hfr : 1 ≤ free ∧ free ≤ 2) :
  Calls Tryz.prog 99 #[.pointer (some ⟨sb, 0, none⟩), vt, .int .i64 (free : Int)] w (FmR sb B (K + 100) t free w) := by
 have hsb := h.lt
 have hBs : B ≤ sb := let ⟨_, _, _, _, _, _, _, _, _, _, _, _, _, _, h⟩ := h; h
 obtain ⟨tq, tf, tad, tcap, rfl, htq, -, tc0, tc1, -⟩ := pt_pair (ht w (TchP.refl _ _))
 have HPT := Lib.hid ht
 have HT := Lib.hid hT
 have H := Lib.hid h
 have hTl := hT.2.1
 have HC1 : Hid (∀ X, TchP (fun q => q = sb) w X → ∃ cap : Option Addr × Nat, X.cell? ⟨tq, tf + 1, none⟩ = some (.slice cap.1 t.2.length cap.2)) := fun X hX => by
  obtain ⟨_, _, ad, cp, hpv, -, -, -, hp1, -⟩ := pt_pair (ht X hX)
  simp only [Value.pointer.injEq, Option.some.injEq, Addr.mk.injEq, and_true] at hpv
  obtain ⟨rfl, rfl⟩ := hpv
  exact ⟨(ad, cp), hp1⟩
 clear h ht hT tc0 tc1
 go_enter Tryz.func99, Tryz.ntmps99
 go_wp2_with fail
 generalize hW : World.alloc w _ = W
 have hbW : Below w.heap.size w W := hW ▸ bA
 have hsW : w.heap.size + 1 ≤ W.heap.size := by rw [← hW]; simp
 have r0 : W.cell? ⟨w.heap.size, 0, none⟩ = some (.int .i64 0) := by rw [← hW]; simp [go_sem]
 have r1 : W.cell? ⟨w.heap.size, 1, none⟩ = some (.int .i64 0) := by rw [← hW]; simp [go_sem]
 have r2 : W.cell? ⟨w.heap.size, 2, none⟩ = some (.slice none 0 0) := by rw [← hW]; simp [go_sem]
 have q0 : W.frozen? ⟨w.heap.size, 0, none⟩ = false := by rw [← hW]; simp [go_sem]
 have q1 : W.frozen? ⟨w.heap.size, 1, none⟩ = false := by rw [← hW]; simp [go_sem]
 have q2 : W.frozen? ⟨w.heap.size, 2, none⟩ = false := by rw [← hW]; simp [go_sem]
 have HRQ := Lib.hid (And.intro r0 (And.intro r1 (And.intro r2 (And.intro q0 (And.intro q1 q2)))))
 have HSW := Lib.hid (H.out.below hbW)
 have HTW : Hid (TchP (fun q => q = sb) w W) := TchP.of_below hbW _
 clear hW r0 r1 r2 q0 q1 q2 H
 refine (pick_any W HSW.out hK0 (by omega) (n := 3) (by omega)).mono ?_
 rintro e w1 ⟨x, rfl, hx0, hx1, hs1, ht1⟩
 have hz1 := ht1.size
 have HS1 := Lib.hid hs1
 have HT1 : Hid (TchP (fun q => q = sb) W w1) := ht1
 obtain ⟨nv, hnv⟩ : ∃ nv : Nat, (free : Int) + x = (nv : Int) := ⟨((free : Int) + x).toNat, by omega⟩
 have hwr : IntKind.i64.wrap ((free : Int) + x) = (nv : Int) := by rw [hnv]; exact wrap_small (by omega) (by omega)
 have hnv2 : free ≤ nv ∧ nv ≤ free + 2 := by omega
 clear hs1 ht1 HSW
 go_wp2_with fail
 clear hwr
 generalize hW2 : World.alloc w1 _ = w2
 have hb2 : Below w1.heap.size w1 w2 := hW2 ▸ bA
 have hsw2 : w1.heap.size + 1 ≤ w2.heap.size := by rw [← hW2]; simp
 have c0 : w2.cell? ⟨w1.heap.size, 0, none⟩ = some (.int .i64 (free : Int)) := by rw [← hW2]; simp [go_sem]
 have c1 : w2.cell? ⟨w1.heap.size, 1, none⟩ = some (.int .i64 (nv : Int)) := by rw [← hW2]; simp [go_sem]
 have c2 : w2.cell? ⟨w1.heap.size, 2, none⟩ = some (.slice none 0 0) := by rw [← hW2]; simp [go_sem]
 have m2 : w2.frozen? ⟨w1.heap.size, 2, none⟩ = false := by rw [← hW2]; simp [go_sem]
 have HS2 := Lib.hid (HS1.out.below hb2)
 have HT2 : Hid (TchP (fun q => q = sb) W w2) := HT1.out.then (TchP.of_below hb2 _) (fun _ _ h => h)
 clear hW2 HS1 HT1
 refine (pick_any w2 HS2.out (by omega) (by omega) (n := 5) (by omega)).mono ?_
 rintro e w3 ⟨y, rfl, hy0, hy1, hs3, ht3⟩
 have hz3 := ht3.size
 replace c0 := (ht3.cell (i := 0) (b := w1.heap.size) (by omega) (by omega)).trans c0
 replace c1 := (ht3.cell (i := 1) (b := w1.heap.size) (by omega) (by omega)).trans c1
 replace c2 := (ht3.cell (i := 2) (b := w1.heap.size) (by omega) (by omega)).trans c2
 replace m2 := (ht3.frozen (i := 2) (b := w1.heap.size) (by omega) (by omega)).trans m2
 have HS3 := Lib.hid hs3
 have HT3 : Hid (TchP (fun q => q = sb) W w3) := HT2.out.then ht3 (fun _ _ h => h)
 obtain ⟨n, hn⟩ : ∃ n : Nat, y = (n : Int) := ⟨y.toNat, by omega⟩
 subst hn
 have hlx : w1.heap.size < w3.heap.size := by omega
 clear hs3 ht3 HS2 HT2
 go_wp2_with fail
 go_loopg [8] n (fun g i wr => ∃ (k : Nat) (va : Value) (A : List (Int × List Int)), k = g ∧ k ≤ 4 ∧ i = .int .i64 k ∧ A.length + k ≤ 4 ∧ Bl opT 69 (w1.heap.size + 1) wr.heap.size wr va A ∧ (∀ a ∈ A, atomOk t nv a) ∧ wr.cell? ⟨w1.heap.size, 0, none⟩ = some (.int .i64 (free : Int)) ∧ wr.cell? ⟨w1.heap.size, 1, none⟩ = some (.int .i64 (nv : Int)) ∧ wr.cell? ⟨w1.heap.size, 2, none⟩ = some va ∧ wr.frozen? ⟨w1.heap.size, 2, none⟩ = false ∧ SrcR sb B (K + 2 + 20 * (4 - (k : Int))) wr ∧ TchP (fun q => q = sb) W wr ∧ w1.heap.size + 1 ≤ wr.heap.size)
 case atStart => exact ⟨n, _, [], rfl, by omega, rfl, by simp; omega, Bl.nil, by simp, c0, c1, c2, m2, HS3.out.mono (by omega), HT3.out, by omega⟩
 case round =>
  clear c0 c1 c2 m2
  obtain ⟨k, va, A, rfl, hk, rfl, hAl, hBa, hok, c0, c1, c2, m2, hsr, htc, hsz⟩ := hrel
  have HB := Lib.hid hBa
  have HOK := Lib.hid hok
  have HSR := Lib.hid hsr
  have HTC := Lib.hid htc
  have hzv := htc.size
  have hne1 : w1.heap.size ≠ sb := by omega
  obtain ⟨xa, xn, xc, rfl⟩ := ex_slice (hBa.fr (by unfold capMax; omega))
  obtain ⟨wv, rfl⟩ : ∃ wv : World, wv = wr := ⟨_, rfl⟩
  clear hBa hok hsr htc
  by_cases hkl : 0 < k
  ·have HTV : Hid (TchP (fun q => q = sb) w wv) := HTW.out.then HTC.out (fun _ _ h => h)
   obtain ⟨tcp, d1⟩ := HC1.out wv HTV.out
   go_wp2_with fail
   refine (pick_any wv HSR.out (by omega) (by omega) (n := (t.2.length : Int) + 1) (by omega)).mono ?_
   rintro e w4 ⟨z, rfl, hz0', hz1', hs4, ht4⟩
   have hz4 := ht4.size
   have HS4 := Lib.hid hs4
   replace c0 := (ht4.cell (i := 0) (b := w1.heap.size) (by omega) (by omega)).trans c0
   replace c1 := (ht4.cell (i := 1) (b := w1.heap.size) (by omega) (by omega)).trans c1
   replace c2 := (ht4.cell (i := 2) (b := w1.heap.size) (by omega) (by omega)).trans c2
   replace m2 := (ht4.frozen (i := 2) (b := w1.heap.size) (by omega) (by omega)).trans m2
   have HT4 : Hid (TchP (fun q => q = sb) W w4) := HTC.out.then ht4 (fun _ _ h => h)
   have HB4 : Hid (Bl opT 69 (w1.heap.size + 1) wv.heap.size w4 (.slice xa xn xc) A) := HB.out.sameB (fun q h1 h2 => ht4.block q h2 (by omega))
   obtain ⟨rel, hrel'⟩ : ∃ rel : Int, z - 1 = rel := ⟨_, rfl⟩
   have hrel2 : -1 ≤ rel ∧ rel < (t.2.length : Int) := by omega
   have hwr : IntKind.i64.wrap (z - 1) = rel := by rw [hrel']; exact wrap_small (by omega) (by omega)
   clear hs4 ht4 d1 HSR HTC HB hrel'
   go_wp2_with fail
   clear hwr
   generalize hW5 : World.alloc w4 _ = w5
   have hb5 : Below w4.heap.size w4 w5 := hW5 ▸ bA
   have hsw5 : w4.heap.size + 1 ≤ w5.heap.size := by rw [← hW5]; simp
   have g0 : w5.cell? ⟨w4.heap.size, 0, none⟩ = some (.int .i64 rel) := by rw [← hW5]; simp [go_sem]
   have g1 : w5.cell? ⟨w4.heap.size, 1, none⟩ = some (.slice none 0 0) := by rw [← hW5]; simp [go_sem]
   have gm : w5.frozen? ⟨w4.heap.size, 1, none⟩ = false := by rw [← hW5]; simp [go_sem]
   replace c0 := (cellB hb5 (by omega)).trans c0
   replace c1 := (cellB hb5 (by omega)).trans c1
   replace c2 := (cellB hb5 (by omega)).trans c2
   replace m2 := (frozenB hb5 (by omega)).trans m2
   have HS5 := Lib.hid (HS4.out.below hb5)
   have HT5 : Hid (TchP (fun q => q = sb) W w5) := HT4.out.then (TchP.of_below hb5 _) (fun _ _ h => h)
   have HB5 : Hid (Bl opT 69 (w1.heap.size + 1) wv.heap.size w5 (.slice xa xn xc) A) := HB4.out.below hb5 (by omega)
   have HPT5 := Lib.hid (HPT.out w5 (HTW.out.then HT5.out (fun _ _ h => h)))
   clear hW5 HS4 HT4 HB4
   refine (l03Arity_any w5 HPT5.out rel).mono ?_
   rintro e _ ⟨rfl, rfl⟩
   have hao := arOf_at HT.out hrel2
   obtain ⟨ar, har⟩ : ∃ ar : Nat, arOf t rel = (ar : Int) := ⟨(arOf t rel).toNat, by omega⟩
   rw [har]
   rw [har] at hao
   have HAR := Lib.hid har
   have hlw4 : w4.heap.size < w5.heap.size := by omega
   clear har HPT5
   go_wp2_with fail
   go_loopg [11] ar (fun g i wr => ∃ (j : Nat) (vb : Value) (L : List Int), j = g ∧ i = .int .i64 j ∧ L.length + j = ar ∧ (∀ a ∈ L, 0 ≤ a ∧ a ≤ (nv : Int) - 1) ∧ Bl Ty.int 2 w5.heap.size wr.heap.size wr vb L ∧ wr.cell? ⟨w4.heap.size, 0, none⟩ = some (.int .i64 rel) ∧ wr.cell? ⟨w4.heap.size, 1, none⟩ = some vb ∧ wr.frozen? ⟨w4.heap.size, 1, none⟩ = false ∧ SrcR sb B (K + 2 + 20 * (4 - (k : Int)) + 2 + ((ar : Int) - j)) wr ∧ TchP (fun q => q = sb ∨ q = w4.heap.size) w5 wr)
   case atStart => exact ⟨ar, _, [], rfl, rfl, by simp, by simp, Bl.nil, g0, g1, gm, HS5.out.mono (by omega), TchP.refl _ _⟩
   case round =>
    clear g0 g1 gm
    obtain ⟨j, vb, L, rfl, rfl, hLl, hLi, hBb, g0, g1, gm, hsr, htc⟩ := hrel
    have HBB := Lib.hid hBb
    have HLI := Lib.hid hLi
    have HSR := Lib.hid hsr
    have HTC := Lib.hid htc
    have hzq := htc.size
    obtain ⟨ya, yn, yc, rfl⟩ := ex_slice (hBb.fr (by unfold capMax; omega))
    obtain ⟨wq, rfl⟩ : ∃ wq : World, wq = wr := ⟨_, rfl⟩
    have e1 := (htc.cell (i := 1) (b := w1.heap.size) (by omega) (by omega)).trans c1
    clear hBb hLi hsr htc
    by_cases hjl : 0 < j
    ·go_wp2_with fail
     refine wp_region_T (fun w' => w'.cell? ⟨w4.heap.size, 1, none⟩ = some (.slice ya yn yc) ∧ w'.cell? ⟨w1.heap.size, 1, none⟩ = some (.int .i64 (nv : Int))) [7, 9] (by kernel_rfl) ⟨g1, e1⟩ (fun hHeld => ?_)
     refine wpAnyT_take (i := 0) (v := ?_) rfl (by kernel_rfl) (fun _ _ _ h => h) (Or.inl ⟨by rfl, ?_⟩) (by assumption) ?_
     rotate_left
     ·(intro w hSw; (try dsimp only at hSw); go_simp <;> with_reducible rfl)
     go_simp
     refine wpAnyT_take (i := 1) (v := ?_) rfl (by kernel_rfl) (fun _ _ _ h => h) (Or.inl ⟨by rfl, ?_⟩) (by assumption) ?_
     rotate_left
     ·(intro w hSw; (try dsimp only at hSw); go_simp <;> with_reducible rfl)
     go_simp
     refine wpAnyT_take (i := 2) (v := ?_) rfl (by kernel_rfl) (fun _ _ _ h => h) (Or.inl ⟨by rfl, ?_⟩) (by assumption) ?_
     rotate_left
     ·(intro w hSw; (try dsimp only at hSw); go_simp <;> with_reducible rfl)
     go_simp
     refine wpAnyT_take (i := 3) (v := ?_) rfl (by kernel_rfl) (fun _ _ _ h => h) (Or.inl ⟨by rfl, ?_⟩) (by assumption) ?_
     rotate_left
     ·(intro w hSw; (try dsimp only at hSw); go_simp <;> with_reducible rfl)
     go_simp
     refine wpAnyT_take (i := 4) (v := ?_) rfl (by kernel_rfl) (fun _ _ _ h => h) (Or.inl ⟨by rfl, ?_⟩) (by assumption) ?_
     rotate_left
     ·(intro w hSw; (try dsimp only at hSw); go_simp <;> with_reducible rfl)
     go_simp
     have hv0 : Below wq.heap.size wq wq.drew := bD
     have HS0 := Lib.hid (HSR.out.below hv0)
     have HB0 : Hid (Bl Ty.int 2 w5.heap.size wq.heap.size wq.drew (.slice ya yn yc) L) := HBB.out.below hv0 (Nat.le_refl _)
     have g0' := (cellB hv0 (show w4.heap.size < wq.heap.size by omega)).trans g0
     have gm' := (frozenB hv0 (show w4.heap.size < wq.heap.size by omega)).trans gm
     have HT0 : Hid (TchP (fun q => q = sb ∨ q = w4.heap.size) w5 wq.drew) := HTC.out.then (TchP.of_below hv0 _) (fun _ _ h => h)
     have hz0 := hv0.size
     clear g0 g1 gm e1 HSR HBB HTC
     obtain ⟨x0, hx0'⟩ : ∃ x0 : World, x0 = wq.drew := ⟨_, rfl⟩
     rw [← hx0'] at hHeld hv0 HS0 HB0 g0' gm' HT0 hz0 ⊢
     clear hx0'
     obtain ⟨g1, e1⟩ := hHeld
     refine wpAnyT_one (i := 5) rfl (by kernel_rfl) (fun K' hK' => ?_)
     go_simp
     go_at_call 47
     refine (pick_any x0 HS0.out (by omega) (by omega) (n := (nv : Int)) (by omega)).mono ?_
     rintro e x1 ⟨a, rfl, ha0, ha1, hs6, ht6⟩
     have hz6 := ht6.size
     have HS6 := Lib.hid hs6
     have HB6 : Hid (Bl Ty.int 2 w5.heap.size wq.heap.size x1 (.slice ya yn yc) L) := HB0.out.sameB (fun q h1 h2 => ht6.block q (by omega) (by omega))
     have HT6 : Hid (TchP (fun q => q = sb ∨ q = w4.heap.size) w5 x1) := HT0.out.then ht6 (fun _ _ h => .inl h)
     replace g0' := (ht6.cell (i := 0) (b := w4.heap.size) (by omega) (by omega)).trans g0'
     replace g1 := (ht6.cell (i := 1) (b := w4.heap.size) (by omega) (by omega)).trans g1
     replace gm' := (ht6.frozen (i := 1) (b := w4.heap.size) (by omega) (by omega)).trans gm'
     replace e1 := (ht6.cell (i := 1) (b := w1.heap.size) (by omega) hne1).trans e1
     have HI : Hid (I64 a) := I64.small (by omega) (by omega)
     clear hs6 ht6 HS0 HB0 HT0
     dsimp only
     refine hK'.out _ _ ⟨g1, e1⟩ (fun hHeld => ?_)
     clear hK' K'
     refine wpAnyT_one (i := 6) rfl (by kernel_rfl) (fun K' hK' => ?_)
     go_simp
     refine hK'.out _ _ ⟨by go_keep, by go_keep⟩ (fun hHeld => ?_)
     clear hK' K'
     refine wpAnyT_last (i := 7) rfl (by kernel_rfl) (by kernel_rfl) (fun K' hK' => ?_)
     refine step_push (E := Ty.int) _ rfl _ _ 38 2 rfl elInt rfl (HB6.out.below ((bA (w := x1)).mono (by omega)) (Nat.le_refl _)) rfl news1 (fr_int HI.out) (by omega) (by decide) (by omega) (by first | (simp; done) | (simp; omega)) ?_
     intro v7 w7 hB7 hg7 _
     obtain ⟨za, zn, zc, rfl⟩ := ex_slice (hB7.fr (by rw [List.length_append]; unfold capMax; simp only [List.length_singleton]; omega))
     have hb7 : Below w5.heap.size x1 w7 := ((bA (w := x1)).mono (by omega)).grown hg7 (by first | (simp; done) | (simp; omega)) (fun q hq => HB6.out.own hq)
     have i0 := (cellB hb7 (by omega)).trans g0'
     have i1 := (cellB hb7 (by omega)).trans g1
     have im := (frozenB hb7 (by omega)).trans gm'
     have hz7 := hb7.size
     have HB7 := Lib.hid hB7
     have HS7 := Lib.hid (srcB HS6.out (show sb < w5.heap.size by omega) hb7)
     have HT7 : Hid (TchP (fun q => q = sb ∨ q = w4.heap.size) w5 w7) := ⟨hb7.os.trans HT6.out.os, hb7.tape.trans HT6.out.tape, hb7.output.trans HT6.out.output, Nat.le_trans HT6.out.size hb7.size, fun q hq hn => (hb7.block q hq).trans (HT6.out.block q hq hn)⟩
     clear hB7 hg7 HB6 HS6 HT6
     refine hK'.out _ _ ?_
     clear hK' K'
     refine wpAnyT_any (i := 8) (v := ?_) rfl (by kernel_rfl) (fun _ _ _ h => h) (Or.inl ⟨by rfl, ?_⟩) (by first | exact fun _ => by assumption | (intro hp; exact absurd hp (by rw [show pastB _ _ = true by kernel_rfl]; simp))) ?_
     rotate_left
     ·(intro w hSw; (try dsimp only at hSw); go_simp <;> with_reducible rfl)
     try simp only [Act.put]
     refine wpAnyT_last (i := 9) rfl (by kernel_rfl) (by kernel_rfl) (fun K' hK' => ?_)
     go_simp
     refine hK'.out _ _ ?_
     clear hK' K'
     refine wpAnyT_done (by kernel_rfl) ?_ _
     go_simp
     go_wp2_with fail
     obtain ⟨j', rfl⟩ : ∃ j', j = j' + 1 := ⟨j - 1, by omega⟩
     go_roundg j'
     case measure => omega
     case rel => exact ⟨j', .slice za zn zc, L ++ [a], rfl, by go_num, by rw [List.length_append, List.length_singleton]; omega, fun b hb => by
      rcases List.mem_append.1 hb with hb | hb
      ·exact HLI.out b hb
      ·rw [List.mem_singleton.1 hb]; exact ⟨ha0, ha1⟩, by rw [size_set]; exact HB7.out.sameB (fun q h1 h2 => Below.heap_setCell _ _ _ _ (by simp; omega)), (World.cell?_setCell_other _ _ _ _ (by simp)).trans i0, World.cell?_setCell_same _ _ _ i1, (World.frozen?_setCell _ _ _ _).trans im, (HS7.out.tch (TchP.set (O := fun q => q = w4.heap.size) rfl) (by omega) (by omega)).mono (by omega), HT7.out.then (TchP.set (O := fun q => q = w4.heap.size) rfl) (fun q _ h => .inr h)⟩
    ·obtain rfl : j = 0 := by omega
     have hLar : L.length = ar := by omega
     have HF := Lib.hid (HBB.out.fr (by unfold capMax; omega))
     obtain ⟨y1, y2, hyx⟩ := fr_slice HF.out
     simp only [Value.slice.injEq] at hyx
     obtain ⟨rfl, rfl, rfl⟩ := hyx
     have HATM : Hid (atomOk t nv (rel, L)) := by
      refine ⟨?_, ?_, HLI.out⟩
      ·show arOf t rel ≠ 0
       rw [HAR.out]; omega
      ·show (L.length : Int) = arOf t rel
       rw [HAR.out, hLar]
     have HFA : Hid (opT.Fr w5.heap.size wq [.int .i64 rel, .slice ya L.length yc] (rel, L)) := fr_cons (I64.small (by omega) (by omega)) HF.out
     have HBQ : Hid (Bl opT 69 (w1.heap.size + 1) wv.heap.size wq (.slice xa xn xc) A) := HB5.out.sameB (fun q h1 h2 => HTC.out.block q (by omega) (by omega))
     have k0 := (HTC.out.cell (i := 0) (b := w1.heap.size) (by omega) (by omega)).trans c0
     have k2 := (HTC.out.cell (i := 2) (b := w1.heap.size) (by omega) (by omega)).trans c2
     have km := (HTC.out.frozen (i := 2) (b := w1.heap.size) (by omega) (by omega)).trans m2
     have HTQ : Hid (TchP (fun q => q = sb) W wq) := HT5.out.then HTC.out (fun q hq h => by rcases h with h | h <;> omega)
     clear HF HBB hLar c0 c1 c2 m2 HB5
     go_wp2_with (refine wpList_push (E := opT) _ rfl _ _ 45 69 rfl elAtomS rfl (HBQ.out.below ((bA (w := wq)).mono (by omega)) (Nat.le_refl _)) rfl news2 ((HFA.out.below bA).mono (by omega)) (by omega) (by decide) (by omega) (by first | (simp; done) | (simp; omega)) ?_; intro v7 w7 hB7 hg7 hown; obtain ⟨a7, n7, c7, rfl⟩ := ex_slice (hB7.fr (by rw [List.length_append]; unfold capMax; simp only [List.length_singleton]; omega)); have hb7 : Below (w1.heap.size + 1) wq w7 := ((bA (w := wq)).mono (by omega)).grown hg7 (by first | (simp; done) | (simp; omega)) (fun q hq => HBQ.out.own hq); have i0 := (cellB hb7 (by omega)).trans k0; have i1 := (cellB hb7 (by omega)).trans e1; have i2 := (cellB hb7 (by omega)).trans k2; have im := (frozenB hb7 (by omega)).trans km)
     have hz7 := hb7.size
     have HB7 := Lib.hid hB7
     have HS7 := Lib.hid (srcB HSR.out (show sb < w1.heap.size + 1 by omega) hb7)
     have HT7 : Hid (TchP (fun q => q = sb) W w7) := ⟨hb7.os.trans HTQ.out.os, hb7.tape.trans HTQ.out.tape, hb7.output.trans HTQ.out.output, Nat.le_trans HTQ.out.size hb7.size, fun q hq hn => (hb7.block q (by omega)).trans (HTQ.out.block q hq hn)⟩
     clear hB7 hg7 hown
     go_wp2_with fail
     obtain ⟨k', rfl⟩ : ∃ k', k = k' + 1 := ⟨k - 1, by omega⟩
     go_roundg k'
     case measure => omega
     case rel => exact ⟨k', .slice a7 n7 c7, A ++ [(rel, L)], rfl, by omega, by go_num, by rw [List.length_append, List.length_singleton]; omega, by rw [size_set]; exact HB7.out.sameB (fun q h1 h2 => Below.heap_setCell _ _ _ _ (by simp; omega)), fun b hb => by
      rcases List.mem_append.1 hb with hb | hb
      ·exact HOK.out b hb
      ·rw [List.mem_singleton.1 hb]; exact HATM.out, (World.cell?_setCell_other _ _ _ _ (by simp)).trans i0, (World.cell?_setCell_other _ _ _ _ (by simp)).trans i1, World.cell?_setCell_same _ _ _ i2, (World.frozen?_setCell _ _ _ _).trans im, (HS7.out.tch (TchP.set (O := fun q => q = w1.heap.size) rfl) (by omega) (by omega)).mono (by omega), HT7.out.then (TchP.set (O := fun q => q = w1.heap.size) rfl) (fun q hq h => by omega), by rw [size_set]; omega⟩
  ·obtain rfl : k = 0 := by omega
   have HF := Lib.hid (HB.out.fr (by unfold capMax; omega))
   obtain ⟨y1, y2, hyx⟩ := fr_slice HF.out
   simp only [Value.slice.injEq] at hyx
   obtain ⟨rfl, rfl, rfl⟩ := hyx
   obtain ⟨r0, r1, r2, q0, q1, q2⟩ := HRQ.out
   replace r0 := (HTC.out.cell (b := w.heap.size) (i := 0) (by omega) (by omega)).trans r0
   replace r1 := (HTC.out.cell (b := w.heap.size) (i := 1) (by omega) (by omega)).trans r1
   replace r2 := (HTC.out.cell (b := w.heap.size) (i := 2) (by omega) (by omega)).trans r2
   replace q0 := (HTC.out.frozen (b := w.heap.size) (i := 0) (by omega) (by omega)).trans q0
   replace q1 := (HTC.out.frozen (b := w.heap.size) (i := 1) (by omega) (by omega)).trans q1
   replace q2 := (HTC.out.frozen (b := w.heap.size) (i := 2) (by omega) (by omega)).trans q2
   have HTV : Hid (TchP (fun q => q = sb) w wv) := HTW.out.then HTC.out (fun _ _ h => h)
   have HFF : Hid (frmT.Fr (w1.heap.size + 1) wv [.int .i64 (free : Int), .int .i64 (nv : Int), .slice xa A.length xc] ((free : Int), (nv : Int), A)) := fr_cons (I64.small (by omega) (by omega)) (fr_cons (I64.small (by omega) (by omega)) HF.out)
   clear HF
   go_wp2_with fail
   obtain ⟨g0, g1, g2⟩ := set3_cells (x := .int .i64 (free : Int)) (y := .int .i64 (nv : Int)) (z := .slice xa A.length xc) r0 r1 r2
   refine bodyPost_ret (v := .agg #[.int .i64 (free : Int), .int .i64 (nv : Int), .slice xa A.length xc]) (by simp [results, Tryz.results99, go_sem, g0, g1, g2]) rfl ⟨[.int .i64 (free : Int), .int .i64 (nv : Int), .slice xa A.length xc], ((free : Int), (nv : Int), A), rfl, ?_, ⟨HT.out, ⟨⟨by show (1 : Int) ≤ (free : Int); omega, by show (free : Int) ≤ 4; omega⟩, ⟨by show (free : Int) ≤ (nv : Int); omega, by show (nv : Int) ≤ 8; omega⟩, by show A.length ≤ 16; omega⟩, HOK.out⟩, rfl, by show (nv : Int) ≤ (free : Int) + 2; omega, by show A.length ≤ 4; omega, ?_, ?_⟩
   ·exact ((((HFF.out.set (a := ⟨w.heap.size, 0, none⟩) (show w.heap.size < w1.heap.size + 1 by omega)).set (a := ⟨w.heap.size, 1, none⟩) (show w.heap.size < w1.heap.size + 1 by omega)).set (a := ⟨w.heap.size, 2, none⟩) (show w.heap.size < w1.heap.size + 1 by omega))).mono (by omega)
   ·exact (((HSR.out.tch (TchP.set (O := fun q => q = w.heap.size) rfl) (by omega) (by omega)).tch (TchP.set (O := fun q => q = w.heap.size) rfl) (by omega) (by omega)).tch (TchP.set (O := fun q => q = w.heap.size) rfl) (by omega) (by omega)).mono (by omega)
   ·exact ((HTV.out.then (TchP.set (O := fun q => q = w.heap.size) rfl) (fun q hq h => by omega)).then (TchP.set (O := fun q => q = w.heap.size) rfl) (fun q hq h => by omega)).then (TchP.set (O := fun q => q = w.heap.size) rfl) (fun q hq h => by omega)
set_option maxHeartbeats 1600000 in
set_option maxRecDepth 100000 in
theorem P6Formula_any (w : World) {v : Value} {code : List Int} (h : bytesT.Rd w [v] code) {cs : Array Value} {t : Tpl} (ht : tplT.Rd w cs.toList t) (hT : tplOk t) {free : Nat} (hfr : 1 ≤ free ∧ free ≤ 2) :
  Calls Tryz.prog 30 #[v, .agg cs, .int .i64 (free : Int)] w fun e w' => ∃ (cs : List Value) (f : Int × Int × List (Int × List Int)), e = .returned (.agg cs.toArray) ∧ frmT.Fr w.heap.size w' cs f ∧ frmOk t f ∧ f.1 = free ∧ f.2.1 ≤ free + 2 ∧ f.2.2.length ≤ 4 ∧ Below w.heap.size w w' := by
 obtain ⟨ad, cap, rfl⟩ := rd_slice h
 obtain ⟨tv, htv, htI, htx⟩ := pair_ex ht
 obtain rfl := agg_of htv
 have H := Lib.hid h
 have HT := Lib.hid ht
 have HOK := Lib.hid hT
 clear h ht hT htv htx
 go_enter Tryz.func30, Tryz.ntmps30
 go_wp2_with fail
 generalize hW : World.alloc (World.alloc w _) _ = W
 have hbW : Below w.heap.size w W := hW ▸ bAA
 have hsW : w.heap.size + 2 ≤ W.heap.size := by rw [← hW]; simp
 have t0 : W.cell? ⟨w.heap.size, 0, none⟩ = some (.int .i64 t.1) := by rw [← hW]; simp [go_sem]
 have t1 : W.cell? ⟨w.heap.size, 1, none⟩ = some tv := by rw [← hW]; simp [go_sem]
 have r0 : W.cell? ⟨w.heap.size + 1, 0, none⟩ = some (.int .i64 0) := by rw [← hW]; simp [go_sem]
 have r1 : W.cell? ⟨w.heap.size + 1, 1, none⟩ = some (.int .i64 0) := by rw [← hW]; simp [go_sem]
 have r2 : W.cell? ⟨w.heap.size + 1, 2, none⟩ = some (.slice none 0 0) := by rw [← hW]; simp [go_sem]
 have q0 : W.frozen? ⟨w.heap.size + 1, 0, none⟩ = false := by rw [← hW]; simp [go_sem]
 have q1 : W.frozen? ⟨w.heap.size + 1, 1, none⟩ = false := by rw [← hW]; simp [go_sem]
 have q2 : W.frozen? ⟨w.heap.size + 1, 2, none⟩ = false := by rw [← hW]; simp [go_sem]
 have HPT : Hid (tplT.Pt W (.pointer (some ⟨w.heap.size, 0, none⟩)) t) := ⟨w.heap.size, 0, _, rfl, by omega, HT.out.below hbW, fun j hj => by
  rcases (show j = 0 ∨ j = 1 by simp at hj; omega) with rfl | rfl
  ·exact t0
  ·exact t1⟩
 clear hW HT t0 t1
 refine (l00From_any W (H.out.below hbW)).mono ?_
 rintro e w1 ⟨rfl, hs1, hb1⟩
 have HS := Lib.hid hs1
 have hz1 := hs1.lt
 replace r0 := (cellB hb1 (by omega)).trans r0
 replace r1 := (cellB hb1 (by omega)).trans r1
 replace r2 := (cellB hb1 (by omega)).trans r2
 replace q0 := (frozenB hb1 (by omega)).trans q0
 replace q1 := (frozenB hb1 (by omega)).trans q1
 replace q2 := (frozenB hb1 (by omega)).trans q2
 have HPX : Hid (∀ X, TchP (fun q => q = W.heap.size) w1 X → tplT.Pt X (.pointer (some ⟨w.heap.size, 0, none⟩)) t) := fun X hX => by
  exact HPT.out.below (hb1.trans (hX.below hb1.size (fun k hk e => by omega)))
 clear hs1 HPT
 go_wp2_with fail
 refine (l03Drawn_any w1 HS.out (by omega) (by omega) HPX.out HOK.out hfr).mono ?_
 rintro e w2 ⟨cs, f, rfl, hf, hfo, hf1, hf2, hf3, hs2, ht2⟩
 obtain ⟨fa, fc, rfl⟩ := fr_trip hf
 have HF := Lib.hid hf
 have HFO := Lib.hid (And.intro hfo (And.intro hf1 (And.intro hf2 hf3)))
 have hb2 : Below W.heap.size w1 w2 := ht2.below (by omega) (fun k hk e => by omega)
 have hz2 := ht2.size
 replace r0 := (cellB hb2 (show w.heap.size + 1 < W.heap.size by omega)).trans r0
 replace r1 := (cellB hb2 (show w.heap.size + 1 < W.heap.size by omega)).trans r1
 replace r2 := (cellB hb2 (show w.heap.size + 1 < W.heap.size by omega)).trans r2
 replace q0 := (frozenB hb2 (show w.heap.size + 1 < W.heap.size by omega)).trans q0
 replace q1 := (frozenB hb2 (show w.heap.size + 1 < W.heap.size by omega)).trans q1
 replace q2 := (frozenB hb2 (show w.heap.size + 1 < W.heap.size by omega)).trans q2
 have hbw2 : Below w.heap.size w w2 := (bthen hbW hb1).trans (hb2.mono (by omega))
 clear hf hfo hf1 hf2 hf3 hs2 ht2
 go_wp2_with fail
 obtain ⟨g0, g1, g2⟩ := set3_cells (x := .int .i64 f.1) (y := .int .i64 f.2.1) (z := .slice fa f.2.2.length fc) r0 r1 r2
 obtain ⟨k1, k2, k3, k4⟩ := HFO.out
 refine bodyPost_ret (v := .agg #[.int .i64 f.1, .int .i64 f.2.1, .slice fa f.2.2.length fc]) (by simp [results, Tryz.results30, go_sem, g0, g1, g2]) rfl ⟨[.int .i64 f.1, .int .i64 f.2.1, .slice fa f.2.2.length fc], f, rfl, ?_, k1, k2, k3, k4, ?_⟩
 ·exact (((HF.out.set (a := ⟨w.heap.size + 1, 0, none⟩) (show w.heap.size + 1 < w1.heap.size by omega)).set (a := ⟨w.heap.size + 1, 1, none⟩) (show w.heap.size + 1 < w1.heap.size by omega)).set (a := ⟨w.heap.size + 1, 2, none⟩) (show w.heap.size + 1 < w1.heap.size by omega)).mono (by omega)
 ·exact ((hbw2.setCell (by simp) _).setCell (by simp) _).setCell (by simp) _
end Go.Proofs.YtajmjfbejfiipaaGreat
namespace Go.Proofs.YtajmjfbejfiipaaGreat
open Go.RowKit Go.Sort
theorem solsL_mem {s : Nat} {sure : List Int → Bool} : ∀ {m : Nat} {vals x : List Int}, x ∈ solsL s sure m vals ↔ ∃ y : List Int, x = vals ++ y ∧ y.length = m ∧ (∀ a ∈ y, 0 ≤ a ∧ a < s) ∧ ∀ k, k < m → sure (vals ++ y.take (k + 1)) = true
 | 0, vals, x => by
  simp only [solsL, List.mem_singleton]
  constructor
  ·rintro rfl
   exact ⟨[], by simp, rfl, fun a ha => (by cases ha), fun k hk => (by omega)⟩
  ·rintro ⟨y, rfl, hy, -, -⟩
   rw [List.length_eq_zero_iff.1 hy, List.append_nil]
 | m + 1, vals, x => by
  simp only [solsL, List.mem_flatMap, List.mem_range]
  constructor
  ·rintro ⟨a, ha, hx⟩
   cases h : sure (vals ++ [(a : Int)])
   ·rw [h] at hx; simp at hx
   ·rw [h] at hx
    obtain ⟨y, rfl, hy, hr, hk⟩ := solsL_mem.1 (by simpa using hx)
    refine ⟨(a : Int) :: y, by simp, by simp [hy], ?_, ?_⟩
    ·intro b hb
     rcases List.mem_cons.1 hb with rfl | hb
     ·omega
     ·exact hr b hb
    ·intro k hkm
     cases k with
     | zero => simpa using h
     | succ k =>
      have := hk k (by omega)
      simpa using this
  ·rintro ⟨y, rfl, hy, hr, hk⟩
   cases y with
   | nil => simp at hy
   | cons a y =>
    have h1 := hr a (List.mem_cons_self ..)
    have e : ((a.toNat : Nat) : Int) = a := by omega
    refine ⟨a.toNat, by omega, ?_⟩
    have h0 := hk 0 (by omega)
    rw [e]
    rw [List.take_succ_cons, List.take_zero] at h0
    rw [h0, if_pos rfl]
    refine solsL_mem.2 ⟨y, by simp, by simpa using hy, fun b hb => hr b (List.mem_cons_of_mem _ hb), fun k hkm => ?_⟩
    have := hk (k + 1) (by omega)
    simpa using this
theorem witL_mem {s n : Nat} {sure : List Int → Bool} {b x : List Int} (hb : b.length ≤ n) (hin : ∀ a ∈ b, 0 ≤ a ∧ a < s) : x ∈ witL s sure n b ↔ (x.length = n ∧ x.take b.length = b ∧ (∀ a ∈ x, 0 ≤ a ∧ a < s) ∧ ∀ k, k < n → sure (x.take (k + 1)) = true) := by
 constructor
 ·intro h
  by_cases hp : preTo sure b b.length
  ·rw [witL_yes hp] at h
   obtain ⟨y, rfl, hy, hr, hk⟩ := solsL_mem.1 h
   refine ⟨by simp; omega, by simp, fun a ha => (List.mem_append.1 ha).elim (hin a) (hr a), fun k hkn => ?_⟩
   rcases Nat.lt_or_ge k b.length with h1 | h1
   ·rw [List.take_append_of_le_length (by omega)]
    exact hp k h1
   ·have := hk (k - b.length) (by omega)
    rw [List.take_append, List.take_of_length_le (by omega : b.length ≤ k + 1), show k + 1 - b.length = k - b.length + 1 by omega]
    exact this
  ·unfold witL at h
   rw [tb_false hp] at h
   cases h
 ·rintro ⟨hx, ht, hr, hk⟩
  have hp : preTo sure b b.length := fun j hj => by
   have := hk j (by omega)
   rw [← ht, List.take_take, Nat.min_eq_left (by omega)]
   exact this
  have hx0 : x = b ++ x.drop b.length := by
   have := (List.take_append_drop b.length x).symm
   rwa [ht] at this
  rw [witL_yes hp]
  refine solsL_mem.2 ⟨x.drop b.length, hx0, by simp; omega, fun a ha => hr a (List.mem_of_mem_drop ha), fun k hkn => ?_⟩
  have := hk (b.length + k) (by omega)
  have e : b ++ (x.drop b.length).take (k + 1) = x.take (b.length + k + 1) := by
   rw [Nat.add_assoc, List.take_add (i := b.length), ht]
  rw [e]
  exact this
theorem goes_iff {t : Int × List (Int × List (List Int))} {ats : List (Int × List Int)} {n : Nat} (h0 : 0 < n) (hats : ∀ a ∈ ats, ∀ p ∈ a.2, 0 ≤ p ∧ p ≤ (n : Int) - 1) {x : List Int} (hx : x.length = n) :
  (∀ k, k < n → goesB t (duesL ats n) (x.take (k + 1)) = true) ↔ ∀ a ∈ ats, holdsA t x a = true := by
 have hpre : ∀ a ∈ ats, ∀ v : Nat, topI a.2 = v → holdsA t (x.take (v + 1)) a = holdsA t x a := fun a ha v hv => by
  have e : atL (x.take (v + 1)) a.2 = atL x a.2 := atL_pre (k := v + 1) (fun p hp' => by have h1 : p ≤ topI a.2 := topI_ge hp'; have h2 := hats a ha p hp'; omega)
  unfold holdsA holdsC
  rw [e]
 constructor
 ·intro h a ha
  have ht0 := topI_nn (xs := a.2)
  have ht1 : topI a.2 ≤ (n : Int) - 1 := topI_le (by omega) fun p hp' => (hats a ha p hp').2
  obtain ⟨v, hv⟩ : ∃ v : Nat, topI a.2 = v := ⟨(topI a.2).toNat, by omega⟩
  have hvN : v < n := by omega
  have hg := h v hvN
  rw [goesB_at (k := v) (by rw [List.length_take]; omega) (by rw [duesL_len]; exact hvN), duesL_get] at hg
  have hd : a ∈ dueL ats v := List.mem_filter.2 ⟨ha, by simpa using hv⟩
  have hn := (List.any_eq_false.1 (by simpa [anyB] using hg : (dueL ats v).any (fun a => !holdsA t (x.take (v + 1)) a) = false)) _ hd
  rw [← hpre a ha v hv]
  simpa using hn
 ·intro h k hk
  rw [goesB_at (k := k) (by rw [List.length_take]; omega) (by rw [duesL_len]; exact hk), duesL_get]
  have hnone : anyB (fun a => !holdsA t (x.take (k + 1)) a) (dueL ats k) = false := by
   refine List.any_eq_false.2 fun a ha => ?_
   obtain ⟨ha, htop⟩ := List.mem_filter.1 ha
   rw [hpre a ha k (by simpa using htop), h a ha]
   decide
  rw [hnone]
  rfl
theorem va_iff {t : Int × List (Int × List (List Int))} {f : Int × Int × List (Int × List Int)} (hok : frmOk t f) {tu : List Int} (hl : (tu.length : Int) = f.1) (hin : ∀ a ∈ tu, 0 ≤ a ∧ a ≤ t.1 - 1) :
  vaP t f tu = true ↔ ∃ x : List Int, (x.length : Int) = f.2.1 ∧ (∀ a ∈ x, 0 ≤ a ∧ a ≤ t.1 - 1) ∧ x.take tu.length = tu ∧ ∀ a ∈ f.2.2, holdsA t x a = true := by
 have hs := hok.1.1
 unfold sizeOk at hs
 have hfr := hok.2.1
 unfold frameOk at hfr
 have hats : ∀ a ∈ f.2.2, ∀ p ∈ a.2, 0 ≤ p ∧ p ≤ (f.2.1.toNat : Int) - 1 := fun a ha p hp => by
  have := (hok.2.2 a ha).2.2 p hp
  omega
 have hh : vaP t f tu = true ↔ ∃ x, x ∈ witX t f tu := by
  unfold vaP
  cases h : witX t f tu with
  | nil => simp [headB]
  | cons y r => simp only [headB, true_iff]; exact ⟨y, List.mem_cons_self ..⟩
 rw [hh]
 refine exists_congr fun x => ?_
 unfold witX
 rw [witL_mem (by omega) (fun a ha => by have := hin a ha; omega)]
 constructor
 ·rintro ⟨g1, g2, g3, g4⟩
  exact ⟨by omega, fun a ha => by have := g3 a ha; omega, g2, (goes_iff (by omega) hats g1).1 g4⟩
 ·rintro ⟨g1, g2, g3, g4⟩
  exact ⟨by omega, g3, fun a ha => by have := g2 a ha; omega, (goes_iff (by omega) hats (by omega)).2 g4⟩
end Go.Proofs.YtajmjfbejfiipaaGreat
namespace Go.Proofs.YtajmjfbejfiipaaGreat
open Go.RowKit Go.Sort
abbrev Frm := Int × Int × List (Int × List Int)
/-- a tuple fulfils a formula -/
def ValP (t : Tpl) (f : Frm) (tu : List Int) : Prop := ∃ x : List Int, (x.length : Int) = f.2.1 ∧ (∀ a ∈ x, 0 ≤ a ∧ a ≤ t.1 - 1) ∧ x.take tu.length = tu ∧ ∀ a ∈ f.2.2, holdsA t x a = true
theorem pow_cast {s : Int} (hs : 0 ≤ s) (n : Nat) : s ^ n = (((s ^ n).toNat : Nat) : Int) := by have := pow_nn hs n; omega
theorem va_mem {t : Tpl} {f : Frm} (hok : frmOk t f) {n : Nat} (hn : f.1 = (n : Int)) {l : List Int} : l ∈ (vaR t f).2 ↔ (tupP t.1 n l ∧ ValP t f l) := by
 have hs := hok.1.1.1
 unfold vaR
 rw [hn, Int.toNat_natCast]
 constructor
 ·intro h
  have h1 := relL_tup hs h
  exact ⟨h1, (va_iff hok (by rw [h1.1, hn]) h1.2).1 ((relL_iff hs (pow_cast (by omega) n) h1).1 h)⟩
 ·rintro ⟨h1, h2⟩
  exact (relL_iff hs (pow_cast (by omega) n) h1).2 ((va_iff hok (by rw [h1.1, hn]) h1.2).2 h2)
theorem va_ok {t : Tpl} {f : Frm} (hok : frmOk t f) : relOk t.1 (vaR t f) := by
 have hf := hok.2.1.1
 obtain ⟨n, hn⟩ : ∃ n : Nat, f.1 = (n : Int) := ⟨f.1.toNat, by omega⟩
 unfold vaR
 rw [hn, Int.toNat_natCast]
 exact relL_ok hok.1.1 (by omega) (pow_cast (by have := hok.1.1.1; omega) n)
theorem va_ar {t : Tpl} {f : Frm} : (vaR t f).1 = f.1 := rfl
theorem keepsP_pair {s : Int} {f : Int × List Int} {r : Int × List (List Int)} {ar : Nat} (h : r.1 = (ar : Int)) : keepsP s f r ↔ keepsP s f ((ar : Int), r.2) := by rw [show r = ((ar : Int), r.2) from Prod.ext h rfl]
theorem getD_map0 {x args : List Int} {p : Nat} (hp : p < args.length) : (atL x args).getD p 0 = x.getD (args[p]).toNat 0 := by
 unfold atL
 rw [List.getD_eq_getElem?_getD, List.getElem?_map, List.getElem?_eq_getElem hp]
 rfl
/-- what an operation makes of tuples, read at places -/
theorem atL_made {s : Int} {tab : List Int} {XS : List (List Int)} {n : Nat} {args : List Int} (hp : ∀ p ∈ args, 0 ≤ p ∧ p ≤ (n : Int) - 1) : atL (madeL s tab XS n) args = madeL s tab (XS.map fun x => atL x args) args.length := by
 refine (madeL_ext (by simp [atL]) fun p hp' => ?_).symm
 rw [getD_map0 hp']
 have hq := hp _ (List.getElem_mem hp')
 have hql : (args[p]).toNat < n := by omega
 have e : (madeL s tab XS n).getD (args[p]).toNat 0 = madeV s tab XS (args[p]).toNat := by
  unfold madeL
  rw [List.getD_eq_getElem?_getD, List.getElem?_map, List.getElem?_range hql]
  rfl
 rw [e, madeV_op, madeV_op]
 congr 1
 unfold colL
 rw [List.map_map]
 refine List.map_congr_left fun x _ => ?_
 exact getD_map0 hp'
theorem take_made {s : Int} {tab : List Int} {XS : List (List Int)} {n k : Nat} (hk : k ≤ n) : (madeL s tab XS n).take k = madeL s tab (XS.map fun x => x.take k) k := by
 refine (madeL_ext (by rw [List.length_take, madeL_len]; omega) fun p hp => ?_).symm
 have e : ((madeL s tab XS n).take k).getD p 0 = madeV s tab XS p := by
  unfold madeL
  rw [List.getD_eq_getElem?_getD, List.getElem?_take_of_lt hp, List.getElem?_map, List.getElem?_range (by omega)]
  rfl
 rw [e, madeV_op, madeV_op]
 congr 1
 unfold colL
 rw [List.map_map]
 refine List.map_congr_left fun x _ => ?_
 show (x.take k).getD p 0 = x.getD p 0
 rw [List.getD_eq_getElem?_getD, List.getElem?_take_of_lt hp, List.getD_eq_getElem?_getD]
/-- atoms that hold at all of some values hold at what an operation makes of them -/
theorem keeps_atom {t : Tpl} {op : Int × List Int} {vars : Int} {n : Nat} {a : Int × List Int} {XS : List (List Int)} (hT : tplOk t) (ho : opOk t.1 op) (hk : ∀ r ∈ t.2, keepsP t.1 op r) (hv : vars = (n : Int)) (ha : atomOk t vars a) (hl : (XS.length : Int) = op.1) (hX : ∀ x ∈ XS, holdsA t x a = true) : holdsA t (madeL t.1 op.2 XS n) a = true := by
 have hp : ∀ p ∈ a.2, 0 ≤ p ∧ p ≤ (n : Int) - 1 := fun p hp => by have := ha.2.2 p hp; omega
 obtain ⟨l1, l2, l3, l4⟩ := atom_len hT ha
 have e := atL_made (s := t.1) (tab := op.2) (XS := XS) hp
 cases h1 : (a.1 == -1)
 ·rw [holdsA_rel h1]
  have hne : a.1 ≠ -1 := by simpa using h1
  obtain ⟨g1, g2⟩ := l4 hne
  have hr : relAt t a.1 = t.2[a.1.toNat] := by
   unfold relAt
   rw [List.getD_eq_getElem?_getD, List.getElem?_eq_getElem g2]
   rfl
  have har : (t.2[a.1.toNat]).1 = (a.2.length : Int) := by
   have := ha.2.1
   rw [this]
   unfold arOf
   rw [if_neg hne, dif_pos ⟨g1, g2⟩]
  refine tb_true ?_
  show atL (madeL t.1 op.2 XS n) a.2 ∈ (relAt t a.1).2
  rw [e, hr]
  refine (keeps_iff ho.2.1.1).1 ((keepsP_pair har).1 (hk _ (List.getElem_mem g2))) _ (by rw [List.length_map]; exact hl) fun l hl => ?_
  obtain ⟨x, hx, rfl⟩ := List.mem_map.1 hl
  have := hX x hx
  rw [holdsA_rel h1] at this
  have h2 : atL x a.2 ∈ (relAt t a.1).2 := tb_iff.1 this
  rwa [hr] at h2
 ·rw [holdsA_eq h1, e]
  have h2 : a.2.length = 2 := l3 (by simpa using h1)
  have hg : ∀ q, q < 2 → (madeL t.1 op.2 (XS.map fun x => atL x a.2) a.2.length).getD q 0 = opV t.1 op.2 (XS.map fun x => (atL x a.2).getD q 0) := fun q hq => by
   unfold madeL
   rw [List.getD_eq_getElem?_getD, List.getElem?_map, List.getElem?_range (by omega)]
   show madeV t.1 op.2 (XS.map fun x => atL x a.2) q = _
   rw [madeV_op]
   congr 1
   unfold colL
   rw [List.map_map]
   rfl
  rw [hg 0 (by omega), hg 1 (by omega)]
  have : (XS.map fun x => (atL x a.2).getD 0 0) = (XS.map fun x => (atL x a.2).getD 1 0) := List.map_congr_left fun x hx => by
   have := hX x hx
   rw [holdsA_eq h1] at this
   exact eq_of_beq this
  rw [this]
  exact beq_self_eq_true _
theorem pick_list {α β : Type} {P : α → β → Prop} {L : List α} (h : ∀ a ∈ L, ∃ x, P a x) : ∃ X : List β, X.length = L.length ∧ ∀ i (h : i < L.length) (h' : i < X.length), P L[i] X[i] := by
 induction L with
 | nil => exact ⟨[], rfl, fun i h => by simp at h⟩
 | cons a L ih =>
  obtain ⟨x, hx⟩ := h a (List.mem_cons_self ..)
  obtain ⟨X, hX, hp⟩ := ih fun b hb => h b (List.mem_cons_of_mem _ hb)
  refine ⟨x :: X, by simp [hX], fun i h1 h2 => ?_⟩
  cases i with
  | zero => exact hx
  | succ i => exact hp i (by simpa using h1) (by simpa using h2)
/-- an operation that keeps a template keeps the values of its formulas -/
theorem keep_value {t : Tpl} {f : Frm} {op : Int × List Int} (hok : frmOk t f) (ho : opOk t.1 op) (hk : ∀ r ∈ t.2, keepsP t.1 op r) : keepsP t.1 op (vaR t f) := by
 have hf := hok.2.1
 unfold frameOk at hf
 obtain ⟨n, hn⟩ : ∃ n : Nat, f.1 = (n : Int) := ⟨f.1.toNat, by omega⟩
 obtain ⟨m, hm⟩ : ∃ m : Nat, f.2.1 = (m : Int) := ⟨f.2.1.toNat, by omega⟩
 have hs := hok.1.1
 rw [keepsP_pair (r := vaR t f) (ar := n) (by rw [va_ar, hn])]
 refine (keeps_iff ho.2.1.1).2 fun ts hl hts => ?_
 have hts' : ∀ l ∈ ts, tupP t.1 n l ∧ ValP t f l := fun l h => (va_mem hok hn).1 (hts l h)
 obtain ⟨XS, hXl, hX⟩ := pick_list (P := fun (l x : List Int) => (x.length : Int) = f.2.1 ∧ (∀ a ∈ x, 0 ≤ a ∧ a ≤ t.1 - 1) ∧ x.take l.length = l ∧ ∀ a ∈ f.2.2, holdsA t x a = true) (fun l h => (hts' l h).2)
 have htup : tupsOk t.1 op.1 n ts := ⟨hl, fun l h => (hts' l h).1⟩
 have hXS : ∀ x ∈ XS, x.length = m ∧ (∀ a ∈ x, 0 ≤ a ∧ a ≤ t.1 - 1) ∧ ∀ a ∈ f.2.2, holdsA t x a = true := fun x hx => by
  obtain ⟨i, hi, rfl⟩ := List.mem_iff_getElem.1 hx
  obtain ⟨g1, g2, -, g4⟩ := hX i (by omega) hi
  exact ⟨by omega, g2, g4⟩
 have hxt : tupsOk t.1 op.1 m XS := ⟨by rw [hXl]; exact hl, fun x hx => ⟨(hXS x hx).1, (hXS x hx).2.1⟩⟩
 refine (va_mem hok hn).2 ⟨madeL_in ho htup, madeL t.1 op.2 XS m, by rw [madeL_len, hm], (madeL_in ho hxt).2, ?_, fun a ha => ?_⟩
 ·rw [madeL_len, take_made (by omega)]
  congr 1
  refine List.ext_getElem (by simp [hXl]) fun i h h' => ?_
  rw [List.getElem_map]
  have hi : i < ts.length := h'
  obtain ⟨-, -, g3, -⟩ := hX i hi (by simpa using h)
  rw [(hts' _ (List.getElem_mem hi)).1.1] at g3
  exact g3
 ·exact keeps_atom hok.1 ho hk hm (hok.2.2 a ha) (by rw [hXl]; exact hl) fun x hx => (hXS x hx).2.2 a ha
end Go.Proofs.YtajmjfbejfiipaaGreat
namespace Go.Proofs.YtajmjfbejfiipaaGreat
open Go.RowKit Go.Sort
/-- the template with the value of a formula behind it -/
noncomputable def xtT (t : Tpl) (g : Frm) : Tpl := (t.1, t.2 ++ [vaR t g])
theorem xtT_arL {t : Tpl} {g : Frm} {k : Int} (hk : k ≠ (t.2.length : Int)) (h : arOf (xtT t g) k ≠ 0 ∨ arOf t k ≠ 0) : arOf (xtT t g) k = arOf t k := by
 unfold arOf xtT at *
 dsimp only at *
 by_cases h1 : k = -1
 ·simp [h1]
 ·rw [if_neg h1, if_neg h1]
  by_cases h2 : 0 ≤ k ∧ k.toNat < t.2.length
  ·rw [dif_pos (by rw [List.length_append]; omega), dif_pos h2, List.getElem_append_left h2.2]
  ·rw [dif_neg (by rw [List.length_append, List.length_singleton]; omega), dif_neg h2]
theorem xtT_ar {t : Tpl} {g : Frm} : arOf (xtT t g) (t.2.length : Int) = g.1 := by
 rw [arOf_nat (t := xtT t g) (k := t.2.length) (by simp [xtT])]
 simp [xtT, va_ar]
theorem xtT_ok {t : Tpl} {g : Frm} (hg : frmOk t g) (hl : t.2.length ≤ 5) : tplOk (xtT t g) :=
 ⟨hg.1.1, by simp [xtT]; omega, fun r hr => (List.mem_append.1 hr).elim (hg.1.2.2 r) fun h => by rw [List.mem_singleton.1 h]; exact va_ok hg⟩
theorem atomOk_ne {t : Tpl} {vars : Int} {a : Int × List Int} (h : atomOk t vars a) : a.1 ≠ (t.2.length : Int) := fun e => h.1 (by
 unfold arOf
 rw [if_neg (by omega), dif_neg (by omega)])
theorem atomOk_up {t : Tpl} {g : Frm} {vars : Int} {a : Int × List Int} (h : atomOk t vars a) : atomOk (xtT t g) vars a := by
 have e := xtT_arL (g := g) (atomOk_ne h) (.inr h.1)
 unfold atomOk
 rw [e]
 exact h
theorem atomOk_down {t : Tpl} {g : Frm} {vars : Int} {a : Int × List Int} (hne : a.1 ≠ (t.2.length : Int)) (h : atomOk (xtT t g) vars a) : atomOk t vars a := by
 have e := xtT_arL (g := g) hne (.inl h.1)
 unfold atomOk at *
 rw [e] at h
 exact h
theorem frmOk_up {t : Tpl} {g f : Frm} (hg : frmOk t g) (hl : t.2.length ≤ 5) (hf : frmOk t f) : frmOk (xtT t g) f := ⟨xtT_ok hg hl, hf.2.1, fun a ha => atomOk_up (hf.2.2 a ha)⟩
/-- an atom is told by the values at its places -/
theorem holds_cong {t u : Tpl} {x y : List Int} {rel : Int} {us bs : List Int} (hr : rel = -1 ∨ (relAt t rel).2 = (relAt u rel).2) (h : atL x us = atL y bs) : holdsA t x (rel, us) = holdsA u y (rel, bs) := by
 cases h1 : (rel == -1)
 ·rw [holdsA_rel (a := (rel, us)) h1, holdsA_rel (a := (rel, bs)) h1]
  unfold holdsC
  dsimp only
  rcases hr with h2 | h2
  ·rw [h2] at h1; cases h1
  ·rw [h2, h]
 ·rw [holdsA_eq (a := (rel, us)) h1, holdsA_eq (a := (rel, bs)) h1]
  dsimp only
  rw [h]
theorem relAt_up {t : Tpl} {g : Frm} {vars : Int} {a : Int × List Int} (hT : tplOk t) (h : atomOk t vars a) : a.1 = -1 ∨ (relAt t a.1).2 = (relAt (xtT t g) a.1).2 := by
 by_cases h1 : a.1 = -1
 ·exact .inl h1
 ·obtain ⟨-, -, -, l4⟩ := atom_len hT h
  obtain ⟨g1, g2⟩ := l4 h1
  refine .inr ?_
  unfold relAt xtT
  dsimp only
  rw [List.getD_eq_getElem?_getD, List.getD_eq_getElem?_getD, List.getElem?_append_left g2]
theorem relAt_new {t : Tpl} {g : Frm} : relAt (xtT t g) (t.2.length : Int) = vaR t g := by
 unfold relAt xtT
 simp
theorem atL_app {x y places : List Int} (h : ∀ p ∈ places, 0 ≤ p ∧ p ≤ (x.length : Int) - 1) : atL (x ++ y) places = atL x places := by
 unfold atL
 refine List.map_congr_left fun p hp => ?_
 have := h p hp
 rw [List.getD_eq_getElem?_getD, List.getD_eq_getElem?_getD, List.getElem?_append_left (by omega)]
/-- the places behind an atom's replacement -/
theorem atL_put {y z v args ps : List Int} {gf : Nat} {behind : Int} (hv : atL y args = v.take gf) (ha : args.length = gf) (hya : ∀ p ∈ args, 0 ≤ p ∧ p ≤ (y.length : Int) - 1) (hb : behind + gf = ((y ++ z).length : Int)) (hp : ∀ p ∈ ps, 0 ≤ p ∧ p ≤ (v.length : Int) - 1) :
  atL (y ++ z ++ v.drop gf) (ps.map (putTo args gf behind)) = atL v ps := by
 unfold atL
 rw [List.map_map]
 refine List.map_congr_left fun p hpm => ?_
 obtain ⟨p0, p1⟩ := hp p hpm
 show (y ++ z ++ v.drop gf).getD (putTo args gf behind p).toNat 0 = v.getD p.toNat 0
 rcases Int.lt_or_le p gf with hlt | hge
 ·rw [put_lt hlt]
  have hpl : p.toNat < args.length := by omega
  have e1 : args.getD p.toNat 0 = args[p.toNat] := by rw [List.getD_eq_getElem?_getD, List.getElem?_eq_getElem hpl]; rfl
  have hm := hya _ (List.getElem_mem hpl)
  rw [e1]
  have e2 : (atL y args).getD p.toNat 0 = y.getD (args[p.toNat]).toNat 0 := getD_map0 hpl
  rw [hv] at e2
  have e3 : (v.take gf).getD p.toNat 0 = v.getD p.toNat 0 := by rw [List.getD_eq_getElem?_getD, List.getElem?_take_of_lt (by omega), List.getD_eq_getElem?_getD]
  rw [← e3, e2, List.getD_eq_getElem?_getD, List.getD_eq_getElem?_getD, List.append_assoc, List.getElem?_append_left (by omega)]
 ·rw [put_ge hge]
  have e : (p + behind).toNat = (y ++ z).length + (p.toNat - gf) := by omega
  rw [e, List.getD_eq_getElem?_getD, List.getElem?_append_right (by omega), Nat.add_sub_cancel_left, List.getElem?_drop, List.getD_eq_getElem?_getD]
  congr 2
  omega
section
variable {t : Tpl} {g h : Frm}
/-- all atoms of the first k, replaced, hold at some further values just where the first k hold -/
theorem rep_holds (hg : frmOk t g) (hh : frmOk (xtT t g) h) {y : List Int} (hy : (y.length : Int) = h.2.1) (hyi : ∀ a ∈ y, 0 ≤ a ∧ a ≤ t.1 - 1) : ∀ k, k ≤ h.2.2.length →
  (h.2.1 ≤ (repAll h t.2.length g k).1 ∧ (∀ a ∈ (repAll h t.2.length g k).2, atomOk t (repAll h t.2.length g k).1 a)) ∧
  ((∃ z : List Int, ((y ++ z).length : Int) = (repAll h t.2.length g k).1 ∧ (∀ a ∈ z, 0 ≤ a ∧ a ≤ t.1 - 1) ∧ ∀ a ∈ (repAll h t.2.length g k).2, holdsA t (y ++ z) a = true) ↔ ∀ a ∈ h.2.2.take k, holdsA (xtT t g) y a = true)
 | 0, _ => by
  rw [rep_zero]
  refine ⟨⟨Int.le_refl _, fun a ha => by cases ha⟩, ?_⟩
  simp only [List.take_zero]
  exact ⟨fun _ a ha => (by cases ha), fun _ => ⟨[], by simpa using hy, (fun a ha => by cases ha), fun a ha => by cases ha⟩⟩
 | k + 1, hk => by
  obtain ⟨⟨n1, n2⟩, ih⟩ := rep_holds hg hh hy hyi k (by omega)
  have hkl : k < h.2.2.length := by omega
  have hgf := hg.2.1
  unfold frameOk at hgf
  obtain ⟨gf, hgf'⟩ : ∃ gf : Nat, g.1 = (gf : Int) := ⟨g.1.toNat, by omega⟩
  have hao := hh.2.2 _ (List.getElem_mem hkl)
  have htk : ∀ P : (Int × List Int) → Prop, (∀ a ∈ h.2.2.take (k + 1), P a) ↔ ((∀ a ∈ h.2.2.take k, P a) ∧ P h.2.2[k]) := fun P => by
   rw [List.take_succ_eq_append_getElem hkl]
   simp only [List.mem_append, List.mem_singleton]
   exact ⟨fun hP => ⟨fun a ha => hP a (.inl ha), hP _ (.inr rfl)⟩, fun hP a ha => ha.elim (hP.1 a) fun e => e ▸ hP.2⟩
  rw [htk, rep_succ hkl, ← ih]
  generalize h.2.2[k] = a at hao
  generalize repAll h t.2.length g k = s at n1 n2 ih
  by_cases hr : a.1 = (t.2.length : Int)
  ·rw [rep_yes hr]
   dsimp only
   have hlen : (a.2.length : Int) = g.1 := by
    have := hao.2.1
    rw [hr, xtT_ar] at this
    exact this
   have hain : ∀ p ∈ a.2, 0 ≤ p ∧ p ≤ (y.length : Int) - 1 := fun p hp => by have := hao.2.2 p hp; omega
   have hsn : (h.2.1 : Int) ≤ s.1 := n1
   refine ⟨⟨by omega, fun b hb => ?_⟩, ?_⟩
   ·rcases List.mem_append.1 hb with hb | hb
    ·have := n2 b hb
     exact ⟨this.1, this.2.1, fun p hp => by have := this.2.2 p hp; omega⟩
    ·obtain ⟨c, hc, rfl⟩ := List.mem_map.1 hb
     have hc2 := hg.2.2 c hc
     refine ⟨hc2.1, by show ((c.2.map _).length : Int) = _; rw [List.length_map]; exact hc2.2.1, fun p hp => ?_⟩
     obtain ⟨q, hq, rfl⟩ := List.mem_map.1 hp
     have hq2 := hc2.2.2 q hq
     rcases Int.lt_or_le q g.1 with hlt | hge
     ·rw [put_lt hlt]
      have hql : q.toNat < a.2.length := by omega
      rw [List.getD_eq_getElem?_getD, List.getElem?_eq_getElem hql]
      have := hao.2.2 _ (List.getElem_mem hql)
      show 0 ≤ a.2[q.toNat] ∧ a.2[q.toNat] ≤ s.1 + (g.2.1 - g.1) - 1
      omega
     ·rw [put_ge hge]
      omega
   ·have hHA : holdsA (xtT t g) y a = true ↔ ValP t g (atL y a.2) := by
     have h1 : (a.1 == -1) = false := by simp; omega
     rw [holdsA_rel h1, tb_iff]
     unfold holdsC
     rw [hr, relAt_new, va_mem hg hgf']
     refine ⟨fun h => h.2, fun h2 => ⟨⟨by simp [atL]; omega, fun b hb => ?_⟩, h2⟩⟩
     obtain ⟨p, hp, rfl⟩ := List.mem_map.1 hb
     have := hain p hp
     have hpl : p.toNat < y.length := by omega
     rw [List.getD_eq_getElem?_getD, List.getElem?_eq_getElem hpl]
     exact hyi _ (List.getElem_mem hpl)
    rw [hHA]
    have hatl : (atL y a.2).length = gf := by simp [atL]; omega
    have hmv : ∀ (z v : List Int), ((y ++ z).length : Int) = s.1 → (v.length : Int) = g.2.1 → atL y a.2 = v.take gf → ∀ c ∈ g.2.2, holdsA t (y ++ z ++ v.drop gf) (c.1, c.2.map (putTo a.2 g.1 (s.1 - g.1))) = holdsA t v c := fun z v hz hv htv c hc => by
     have hc2 := hg.2.2 c hc
     refine holds_cong (.inr rfl) ?_
     rw [hgf']
     exact atL_put htv (by omega) hain (by omega) (fun p hp => by have := hc2.2.2 p hp; omega)
    constructor
    ·rintro ⟨z', hz1, hz2, hz3⟩
     obtain ⟨m, hm⟩ : ∃ m : Nat, (y.length : Int) + m = s.1 := ⟨(s.1 - y.length).toNat, by omega⟩
     have hl' : z'.length = m + (g.2.1 - g.1).toNat := by rw [List.length_append] at hz1; omega
     have hzs : y ++ z' = y ++ z'.take m ++ z'.drop m := by rw [List.append_assoc, List.take_append_drop]
     have hzt : ((y ++ z'.take m).length : Int) = s.1 := by rw [List.length_append, List.length_take]; omega
     refine ⟨⟨z'.take m, hzt, fun b hb => hz2 b (List.mem_of_mem_take hb), fun b hb => ?_⟩, ?_⟩
     ·rw [← hz3 b (List.mem_append_left _ hb), hzs]
      have hb2 := n2 b hb
      exact (holds_cong (.inr rfl) (atL_app (fun p hp => by have := hb2.2.2 p hp; omega))).symm
     ·have hvl : ((atL y a.2 ++ z'.drop m).length : Int) = g.2.1 := by rw [List.length_append, hatl, List.length_drop]; omega
      have hvt : (atL y a.2 ++ z'.drop m).take gf = atL y a.2 := by rw [← hatl, List.take_left]
      refine ⟨atL y a.2 ++ z'.drop m, hvl, fun b hb => ?_, by rw [hatl, hvt], fun c hc => ?_⟩
      ·rcases List.mem_append.1 hb with hb | hb
       ·obtain ⟨p, hp, rfl⟩ := List.mem_map.1 hb
        have := hain p hp
        have hpl : p.toNat < y.length := by omega
        rw [List.getD_eq_getElem?_getD, List.getElem?_eq_getElem hpl]
        exact hyi _ (List.getElem_mem hpl)
       ·exact hz2 b (List.mem_of_mem_drop hb)
      ·rw [← hmv (z'.take m) (atL y a.2 ++ z'.drop m) hzt hvl hvt.symm c hc]
       have e : (atL y a.2 ++ z'.drop m).drop gf = z'.drop m := by rw [← hatl, List.drop_left]
       rw [e, ← hzs]
       exact hz3 _ (List.mem_append_right _ (List.mem_map.2 ⟨c, hc, rfl⟩))
    ·rintro ⟨⟨z, hz1, hz2, hz3⟩, v, hv1, hv2, hv3, hv4⟩
     rw [hatl] at hv3
     refine ⟨z ++ v.drop gf, ?_, fun b hb => ?_, fun b hb => ?_⟩
     ·rw [← List.append_assoc, List.length_append, List.length_drop]
      omega
     ·rcases List.mem_append.1 hb with hb | hb
      ·exact hz2 b hb
      ·exact hv2 b (List.mem_of_mem_drop hb)
     ·rw [← List.append_assoc]
      rcases List.mem_append.1 hb with hb | hb
      ·have hb2 := n2 b hb
       rw [← hz3 b hb]
       exact holds_cong (.inr rfl) (atL_app (fun p hp => by have := hb2.2.2 p hp; omega))
      ·obtain ⟨c, hc, rfl⟩ := List.mem_map.1 hb
       show holdsA t _ (c.1, c.2.map (putTo a.2 g.1 (s.1 - g.1))) = true
       rw [hmv z v hz1 hv1 hv3.symm c hc]
       exact hv4 c hc
  ·rw [rep_no hr]
   dsimp only
   have had := atomOk_down hr hao
   have hain : ∀ p ∈ a.2, 0 ≤ p ∧ p ≤ (y.length : Int) - 1 := fun p hp => by have := hao.2.2 p hp; omega
   have heq : ∀ z : List Int, holdsA t (y ++ z) a = holdsA (xtT t g) y a := fun z => holds_cong (relAt_up hg.1 had) (atL_app hain)
   refine ⟨⟨n1, fun b hb => ?_⟩, ?_⟩
   ·rcases List.mem_append.1 hb with hb | hb
    ·exact n2 b hb
    ·rw [List.mem_singleton.1 hb]
     exact ⟨had.1, had.2.1, fun p hp => by have := had.2.2 p hp; omega⟩
   ·constructor
    ·rintro ⟨z, hz1, hz2, hz3⟩
     exact ⟨⟨z, hz1, hz2, fun b hb => hz3 b (List.mem_append_left _ hb)⟩, by rw [← heq z]; exact hz3 a (List.mem_append_right _ (List.mem_singleton.2 rfl))⟩
    ·rintro ⟨⟨z, hz1, hz2, hz3⟩, ha⟩
     refine ⟨z, hz1, hz2, fun b hb => ?_⟩
     rcases List.mem_append.1 hb with hb | hb
     ·exact hz3 b hb
     ·rw [List.mem_singleton.1 hb, heq z]; exact ha
end
end Go.Proofs.YtajmjfbejfiipaaGreat
