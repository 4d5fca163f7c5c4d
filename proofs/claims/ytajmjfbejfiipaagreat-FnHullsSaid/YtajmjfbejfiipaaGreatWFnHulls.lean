/-
 The law FnHulls, walked: its contract.
-/
import Derived.Test.YtajmjfbejfiipaaGreatQAJ
import Derived.Test.YtajmjfbejfiipaaGreatQBB
import Derived.Test.YtajmjfbejfiipaaGreatQBE
import Derived.Test.YtajmjfbejfiipaaGreatQBF
import Derived.Test.YtajmjfbejfiipaaGreatQBH
import Derived.Test.YtajmjfbejfiipaaGreatQAI
namespace Go.Proofs.YtajmjfbejfiipaaGreat
open Go.RowKit Go.Sort
set_option maxHeartbeats 12800000 in
set_option maxRecDepth 100000 in
theorem fnHulls_any (w : World) {v0 v1 : Value} {x0 x1 : List Int} (h0 : bytesT.Rd w [v0] x0) (h1 : bytesT.Rd w [v1] x1) :
  Calls Tryz.prog 3 #[v0, v1] w fun e w' => e = .returned (.bool true) ∧ Below w.heap.size w w' := by
 obtain ⟨a0, k0, rfl⟩ := rd_slice h0
 obtain ⟨a1, k1, rfl⟩ := rd_slice h1
 have H0 := Lib.hid h0
 have H1 := Lib.hid h1
 clear h0 h1
 go_enter Tryz.func3, Tryz.ntmps3
 go_wp2_with fail
 refine (a2Long_any w H0.out H1.out).mono ?_
 rintro e _ ⟨b, rfl, rfl⟩
 cases b
 rotate_left
 ·go_wp2_with fail
  go_ret
  exact ⟨rfl, (by repeat (first | exact Below.refl _ _ | exact bA | assumption | refine Below.setCell ?_ (by first | omega | (simp; try omega)) _ | refine Below.alloc ?_ (by first | omega | (simp; try omega)) _ | refine Below.drew ?_ | refine bDN ?_ | refine bthen ?_ (by assumption)))⟩
 go_wp2_with fail
 refine (A2Template_any w H0.out).mono ?_
 rintro e w1 ⟨cs, t, rfl, hf, hok, h3, hb1⟩
 obtain ⟨ta, tc, rfl⟩ := fr_pair hf
 have HF1 := Lib.hid hf.rd
 have HOK := Lib.hid hok
 have hs := hok.1
 unfold sizeOk at hs
 have hz1 := hb1.size
 clear hf hok
 go_wp2_with fail
 generalize hW2 : World.alloc w1 _ = w2
 have hb2 : Below w1.heap.size w1 w2 := hW2 ▸ bA
 have hz2 : w1.heap.size + 1 ≤ w2.heap.size := by rw [← hW2]; simp
 have t0 : w2.cell? ⟨w1.heap.size, 0, none⟩ = some (.int .i64 t.1) := by rw [← hW2]; simp [go_sem]
 have t1 : w2.cell? ⟨w1.heap.size, 1, none⟩ = some (.slice ta t.2.length tc) := by rw [← hW2]; simp [go_sem]
 have hbw2 := bthen hb1 hb2
 have HT2 : Hid (tplT.Rd w2 [.int .i64 t.1, .slice ta t.2.length tc] t) := HF1.out.below hb2
 clear hW2 HF1
 refine (a2At_any w2 (k := 0) (n := 2) (H1.out.below hbw2) (by omega)).mono ?_
 rintro e _ ⟨x, rfl, hx, rfl⟩
 obtain ⟨cnt, hcnt⟩ : ∃ cnt : Nat, (1 : Int) + (x : Int) = (cnt : Int) := ⟨1 + x, by omega⟩
 have hwr : IntKind.i64.wrap ((1 : Int) + (x : Int)) = (cnt : Int) := by rw [hcnt]; exact wrap_small (by omega) (by omega)
 have hcn2 : 1 ≤ cnt ∧ cnt ≤ 2 := by omega
 have H1w := Lib.hid (H1.out.below hbw2)
 clear hcnt
 go_wp2_with fail
 clear hwr
 refine wp_region_T (fun w' => w'.cell? ⟨w1.heap.size, 0, none⟩ = some (.int .i64 t.1)) [] (by kernel_rfl) t0 (fun hHeld => ?_)
 refine wpAnyT_take (i := 0) (v := ?_) rfl (by kernel_rfl) (fun _ _ _ h => h) (Or.inl ⟨by rfl, ?_⟩) (by assumption) ?_
 rotate_left
 ·(intro w hSw; (try dsimp only at hSw); go_simp <;> with_reducible rfl)
 go_simp
 refine wpAnyT_take (i := 1) (v := ?_) rfl (by kernel_rfl) (fun _ _ _ h => h) (Or.inl ⟨by rfl, ?_⟩) (by assumption) ?_
 rotate_left
 ·(intro w hSw; (try dsimp only at hSw); go_simp <;> with_reducible rfl)
 go_simp
 refine wpAnyT_take (i := 2) (v := ?_) rfl (by kernel_rfl) (fun _ _ _ h => h) (Or.inl ⟨by rfl, ?_⟩) (by assumption) ?_
 rotate_left
 ·(intro w hSw; (try dsimp only at hSw); go_simp <;> with_reducible rfl)
 go_simp
 refine wpAnyT_take (i := 3) (v := ?_) rfl (by kernel_rfl) (fun _ _ _ h => h) (Or.inl ⟨by rfl, ?_⟩) (by assumption) ?_
 rotate_left
 ·(intro w hSw; (try dsimp only at hSw); go_simp <;> with_reducible rfl)
 go_simp
 refine wpAnyT_take (i := 6) (v := ?_) rfl (by kernel_rfl) (fun _ _ _ h => h) (Or.inl ⟨by rfl, ?_⟩) (by assumption) ?_
 rotate_left
 ·(intro w hSw; (try dsimp only at hSw); go_simp <;> with_reducible rfl)
 go_simp
 have hvd : Below w2.heap.size w2 w2.drew := bD
 have H1d := Lib.hid (H1w.out.below hvd)
 have HTd := Lib.hid (HT2.out.below hvd)
 have hbwd := bthen hbw2 hvd
 have hzd := hvd.size
 replace t1 := (cellB hvd (by omega)).trans t1
 clear t0 H1w HT2
 generalize w2.drew = wd at hHeld hvd H1d HTd hbwd hzd t1 ⊢
 have t0 := hHeld
 refine wpAnyT_one (i := 4) rfl (by kernel_rfl) (fun K hK => ?_)
 go_simp
 go_at_call 8
 refine (a2At_any wd (k := 1) (n := 2) H1d.out (by omega)).mono ?_
 rintro e _ ⟨y, rfl, hy, rfl⟩
 obtain ⟨ar, har⟩ : ∃ ar : Nat, (1 : Int) + (y : Int) = (ar : Int) := ⟨1 + y, by omega⟩
 have hwk : IntKind.i64.wrap ((1 : Int) + (y : Int)) = (ar : Int) := by rw [har]; exact wrap_small (by omega) (by omega)
 have har2 : 1 ≤ ar ∧ ar ≤ 2 := by omega
 clear har
 dsimp only
 refine hK.out _ _ t0 (fun hHeld => ?_)
 clear hK K
 refine wpAnyT_take (i := 5) (v := ?_) rfl (by kernel_rfl) (fun _ _ _ h => h) (Or.inl ⟨by rfl, ?_⟩) (by assumption) ?_
 rotate_left
 ·(intro w hSw; (try dsimp only at hSw); go_simp <;> with_reducible rfl)
 go_simp
 refine wpAnyT_one (i := 7) rfl (by kernel_rfl) (fun K hK => ?_)
 go_simp
 go_at_call 9
 refine (A2Tuples_any wd H1d.out (s := t.1) (ar := ar) (cnt := cnt) (by omega) (by omega) (by omega)).mono ?_
 rintro e w3 ⟨u3, ts, rfl, hts, htl, hall, hb3⟩
 obtain ⟨ra, rc, hu, -, -, hrc⟩ := slices_ex hts.rd
 obtain rfl : u3 = _ := by simpa using hu
 obtain ⟨rb, ro, rfl, hrb, hrc⟩ := hrc (by omega)
 have HTS3 := Lib.hid hts.rd
 have HRC := Lib.hid hrc
 have HALL := Lib.hid hall
 subst htl
 have hz3 := hb3.size
 replace t0 := (cellB hb3 (by omega)).trans t0
 replace t1 := (cellB hb3 (by omega)).trans t1
 have HT3 := Lib.hid (HTd.out.below hb3)
 have hbw3 := bthen hbwd hb3
 clear hts hu hrc hall hHeld HTd H1d
 dsimp only
 refine hK.out _ _ t0 (fun hHeld => ?_)
 clear hK K hHeld
 refine wpAnyT_take (i := 8) (v := ?_) rfl (by kernel_rfl) (fun _ _ _ h => h) (Or.inl ⟨by rfl, ?_⟩) (by assumption) ?_
 rotate_left
 ·(intro w hSw; (try dsimp only at hSw); go_simp <;> with_reducible rfl)
 go_simp
 refine wpAnyT_done (by kernel_rfl) ?_ _
 go_simp
 clear hwk
 have HU0 := Lib.hid (hu_zero' HOK.out (u := ts) (ar := ar) (by omega) (by omega) HALL.out)
 go_wp2_with fail
 refine (HullOf_any w3 HT3.out HTS3.out).mono ?_
 rintro e w4 ⟨cs, rfl, hf4, hb4⟩
 obtain ⟨a4, c4, rfl⟩ := fr_pair hf4
 have HH4 := Lib.hid hf4.rd
 have hz4 := hb4.size
 replace t0 := (cellB hb4 (by omega)).trans t0
 replace t1 := (cellB hb4 (by omega)).trans t1
 have HT4 := Lib.hid (HT3.out.below hb4)
 have HTS4 := Lib.hid (HTS3.out.below hb4)
 have hbw4 := bthen hbw3 hb4
 clear hf4 HT3
 have ta0 : ∀ o : Obj, (World.alloc w4 o).cell? ⟨w1.heap.size, 0, none⟩ = some (.int .i64 t.1) := fun o => (cellB bA (by omega)).trans t0
 have ta1 : ∀ o : Obj, (World.alloc w4 o).cell? ⟨w1.heap.size, 1, none⟩ = some (.slice ta t.2.length tc) := fun o => (cellB bA (by omega)).trans t1
 go_wp2_with fail
 clear ta0 ta1
 generalize hW5 : World.alloc w4 _ = w5
 have hb5 : Below w4.heap.size w4 w5 := hW5 ▸ bA
 have hz5 : w4.heap.size + 1 ≤ w5.heap.size := by rw [← hW5]; simp
 have h0 : w5.cell? ⟨w4.heap.size, 0, none⟩ = some (.int .i64 (hofV t ts).1) := by rw [← hW5]; simp [go_sem]
 have h1 : w5.cell? ⟨w4.heap.size, 1, none⟩ = some (.slice a4 (hofV t ts).2.length c4) := by rw [← hW5]; simp [go_sem]
 replace t0 := (cellB hb5 (by omega)).trans t0
 replace t1 := (cellB hb5 (by omega)).trans t1
 have HT5 := Lib.hid (HT4.out.below hb5)
 have HTS5 := Lib.hid (HTS4.out.below hb5)
 have HH5 := Lib.hid (HH4.out.below hb5)
 have hbw5 := bthen hbw4 hb5
 clear hW5 HT4 HH4 HTS4
 refine (specHullOf_any w5 HT5.out HTS5.out).mono ?_
 rintro e w6 ⟨cs, rfl, hf6, hb6⟩
 obtain ⟨a6, c6, rfl⟩ := fr_pair hf6
 have HD6 := Lib.hid hf6.rd
 have hz6 := hb6.size
 replace t0 := (cellB hb6 (by omega)).trans t0
 replace t1 := (cellB hb6 (by omega)).trans t1
 replace h0 := (cellB hb6 (by omega)).trans h0
 replace h1 := (cellB hb6 (by omega)).trans h1
 have HT6 := Lib.hid (HT5.out.below hb6)
 have HTS6 := Lib.hid (HTS5.out.below hb6)
 have HH6 := Lib.hid (HH5.out.below hb6)
 have hbw6 := bthen hbw5 hb6
 clear hf6 HT5 HTS5 HH5
 have ta0 : ∀ o : Obj, (World.alloc w6 o).cell? ⟨w4.heap.size, 0, none⟩ = some (.int .i64 (hofV t ts).1) := fun o => (cellB bA (by omega)).trans h0
 have ta1 : ∀ o : Obj, (World.alloc w6 o).cell? ⟨w4.heap.size, 1, none⟩ = some (.slice a4 (hofV t ts).2.length c4) := fun o => (cellB bA (by omega)).trans h1
 have hnn : (hofC t ts != hofC t ts) = false := by simp
 go_wp2_with fail
 clear ta0 ta1 hnn
 generalize hW7 : World.alloc w6 _ = w7
 have hb7 : Below w6.heap.size w6 w7 := hW7 ▸ bA
 have hz7 : w6.heap.size + 1 ≤ w7.heap.size := by rw [← hW7]; simp
 have d0 : w7.cell? ⟨w6.heap.size, 0, none⟩ = some (.int .i64 (hofV t ts).1) := by rw [← hW7]; simp [go_sem]
 have d1 : w7.cell? ⟨w6.heap.size, 1, none⟩ = some (.slice a6 (hofV t ts).2.length c6) := by rw [← hW7]; simp [go_sem]
 replace t0 := (cellB hb7 (by omega)).trans t0
 replace t1 := (cellB hb7 (by omega)).trans t1
 have HT7 := Lib.hid (HT6.out.below hb7)
 have HTS7 := Lib.hid (HTS6.out.below hb7)
 have HH7 := Lib.hid (HH6.out.below hb7)
 have HD7 := Lib.hid (HD6.out.below hb7)
 have hbw7 := bthen hbw6 hb7
 clear hW7 HT6 HTS6 HH6 HD6 h0 h1
 refine (specSameRel_any w7 (x := hofV t ts) (y := hofV t ts) HH7.out HD7.out).mono ?_
 rintro e w8 ⟨rfl, hb8⟩
 rw [show eqB (hofV t ts) (hofV t ts) = true from eqB_true rfl]
 have hz8 := hb8.size
 replace t0 := (cellB hb8 (by omega)).trans t0
 replace t1 := (cellB hb8 (by omega)).trans t1
 replace d0 := (cellB hb8 (by omega)).trans d0
 replace d1 := (cellB hb8 (by omega)).trans d1
 have HT8 := Lib.hid (HT7.out.below hb8)
 have HTS8 := Lib.hid (HTS7.out.below hb8)
 have HD8 := Lib.hid (HD7.out.below hb8)
 have hbw8 := bthen hbw7 hb8
 clear HT7 HTS7 HH7 HD7
 have F1 : Hid (hofC t ts = 0 → relOk t.1 (hofV t ts)) := fun h => hof_ok h
 have F2 : Hid (hofC t ts = 0 → ∀ a ∈ ts, a ∈ (hofV t ts).2) := fun h a ha => hof_own h ha
 have F3 : Hid (hofC t ts = 0 → poC t 2 = 0 → ∀ f ∈ poV t 2, opOk t.1 f ∧ f.1 = 2 ∧ keepsP t.1 f (hofV t ts)) := fun h h2 f hf => by
  obtain ⟨g1, g2, g3, -⟩ := po_all (ar := 2) HOK.out (by omega) h2 hf
  exact ⟨g2, g1, hof_keeps h g2 (poly_true.1 g3).2.2⟩
 have F4 : Hid (hofC t ts = 0 → inC t ts = 0 → voV t (inV t ts) = hofV t ts ∧ voC t (inV t ts) = 0) := fun h h2 => in_value h2 h
 have hcode := hof_code HU0.out.1
 generalize hofC t ts = c at *
 generalize hofV t ts = hv at *
 rcases hcode with rfl | rfl | rfl
 rotate_left
 ·go_wp2_with fail
  go_ret
  exact ⟨rfl, hbw8⟩
 ·go_wp2_with fail
  go_ret
  exact ⟨rfl, hbw8⟩
 replace F1 := Lib.hid (F1.out rfl)
 replace F2 := Lib.hid (F2.out rfl)
 replace F3 := Lib.hid (F3.out rfl)
 replace F4 := Lib.hid (F4.out rfl)
 have hlt1 : w1.heap.size < w8.heap.size := by omega
 have hlt6 : w6.heap.size < w8.heap.size := by omega
 have hrb8 : rb < w8.heap.size := by omega
 have hb38 : Below w3.heap.size w3 w8 := bthen hb4 (bthen hb5 (bthen hb6 (bthen hb7 hb8)))
 have HRC8 : Hid (∀ i (h : i < ts.length), ∃ a n, w8.cell? ⟨rb, ro + i, none⟩ = some (.slice a (ts[i]).length n) ∧ intsT.Rd w8 [.slice a (ts[i]).length n] ts[i]) := fun i hi => by
  obtain ⟨v, g1, g2⟩ := HRC.out i hi
  obtain ⟨a, n, rfl⟩ := rd_slice g1
  exact ⟨a, n, (cellB hb38 hrb).trans g2, g1.below hb38⟩
 clear HRC
 go_wp2_with fail
 go_loopw [12] (fun i wr => ∃ (k : Nat), k ≤ ts.length ∧ i = .int .i64 k ∧ Below w8.heap.size w8 wr) (fun i _ => ts.length - (intOf i).toNat)
 case atStart => exact ⟨0, Nat.zero_le _, rfl, Below.refl _ _⟩
 case round =>
  obtain ⟨k, hk, rfl, hbr⟩ := hrel
  obtain ⟨wv, rfl⟩ : ∃ wv : World, wv = wr := ⟨_, rfl⟩
  have hzv := hbr.size
  by_cases hkl : k < ts.length
  ·have u0 := (cellB hbr hlt1).trans t0
   have q0 := (cellB hbr hlt6).trans d0
   have q1 := (cellB hbr hlt6).trans d1
   obtain ⟨la, lc, e0, hrow⟩ := HRC8.out k hkl
   replace e0 := (cellB hbr hrb8).trans e0
   have HRW := Lib.hid (hrow.below hbr)
   have HDV := Lib.hid (HD8.out.below hbr)
   have HIN := Lib.hid (tb_true (F2.out _ (List.getElem_mem hkl)))
   generalize ts[k] = row at e0 HRW HIN
   clear hrow
   go_wp2_with fail
   refine wp_region_T (fun w' => w'.cell? ⟨w1.heap.size, 0, none⟩ = some (.int .i64 t.1) ∧ (w'.cell? ⟨w6.heap.size, 0, none⟩ = some (.int .i64 hv.1) ∧ w'.cell? ⟨w6.heap.size, 1, none⟩ = some (.slice a6 hv.2.length c6)) ∧ w'.cell? ⟨rb, ro + k, none⟩ = some (.slice la row.length lc)) [] (by kernel_rfl) ⟨u0, ⟨q0, q1⟩, e0⟩ (fun hHeld => ?_)
   refine wpAnyT_take (i := 0) (v := ?_) rfl (by kernel_rfl) (fun _ _ _ h => h) (Or.inl ⟨by rfl, ?_⟩) (by assumption) ?_
   rotate_left
   ·(intro w hSw; (try dsimp only at hSw); go_simp <;> with_reducible rfl)
   go_simp
   refine wpAnyT_take (i := 1) (v := ?_) rfl (by kernel_rfl) (fun _ _ _ h => h) (Or.inl ⟨by rfl, ?_⟩) (by assumption) ?_
   rotate_left
   ·(intro w hSw; (try dsimp only at hSw); go_simp <;> with_reducible rfl)
   go_simp
   refine wpAnyT_take (i := 2) (v := ?_) rfl (by kernel_rfl) (fun _ _ _ h => h) (Or.inl ⟨by rfl, ?_⟩) (by assumption) ?_
   rotate_left
   ·(intro w hSw; (try dsimp only at hSw); go_simp <;> with_reducible rfl)
   go_simp
   refine wpAnyT_take (i := 3) (v := ?_) rfl (by kernel_rfl) (fun _ _ _ h => h) (Or.inl ⟨by rfl, ?_⟩) (by assumption) ?_
   rotate_left
   ·(intro w hSw; (try dsimp only at hSw); go_simp <;> with_reducible rfl)
   go_simp
   refine wpAnyT_take (i := 4) (v := ?_) rfl (by kernel_rfl) (fun _ _ _ h => h) (Or.inl ⟨by rfl, ?_⟩) (by assumption) ?_
   rotate_left
   ·(intro w hSw; (try dsimp only at hSw); go_simp <;> with_reducible rfl)
   go_simp
   refine wpAnyT_take (i := 5) (v := ?_) rfl (by kernel_rfl) (fun _ _ _ h => h) (Or.inl ⟨by rfl, ?_⟩) (by assumption) ?_
   rotate_left
   ·(intro w hSw; (try dsimp only at hSw); go_simp <;> with_reducible rfl)
   go_simp
   refine wpAnyT_take (i := 6) (v := ?_) rfl (by kernel_rfl) (fun _ _ _ h => h) (Or.inl ⟨by rfl, ?_⟩) (by assumption) ?_
   rotate_left
   ·(intro w hSw; (try dsimp only at hSw); go_simp <;> with_reducible rfl)
   go_simp
   have hv0 : Below wv.heap.size wv wv.drew := bD
   have HRd := Lib.hid (HRW.out.below hv0)
   have HDd := Lib.hid (HDV.out.below hv0)
   have hbd := bthen hbr hv0
   have hzd := hbd.size
   clear u0 q0 q1 e0 HRW HDV
   generalize wv.drew = y0 at hHeld hv0 HRd HDd hbd hzd ⊢
   obtain ⟨u0, ⟨q0, q1⟩, e0⟩ := hHeld
   refine wpAnyT_one (i := 7) rfl (by kernel_rfl) (fun K hK => ?_)
   go_simp
   go_at_call 13
   refine (HasTuple_any y0 (r := hv) HDd.out HRd.out (s := t.1) F1.out).mono ?_
   rintro e y1 ⟨rfl, hbx⟩
   rw [HIN.out]
   have hzx := hbx.size
   replace u0 := (cellB hbx (by omega)).trans u0
   replace q0 := (cellB hbx (by omega)).trans q0
   replace q1 := (cellB hbx (by omega)).trans q1
   replace e0 := (cellB hbx (show rb < y0.heap.size by omega)).trans e0
   have hb1w := bthen hbd hbx
   dsimp only
   refine hK.out _ _ ⟨u0, ⟨q0, q1⟩, e0⟩ (fun hHeld => ?_)
   clear hK K
   refine wpAnyT_take (i := 8) (v := ?_) rfl (by kernel_rfl) (fun _ _ _ h => h) (Or.inl ⟨by rfl, ?_⟩) (by assumption) ?_
   rotate_left
   ·(intro w hSw; (try dsimp only at hSw); go_simp <;> with_reducible rfl)
   go_simp
   refine wpAnyT_take (i := 9) (v := ?_) rfl (by kernel_rfl) (fun _ _ _ h => h) (Or.inl ⟨by rfl, ?_⟩) (by assumption) ?_
   rotate_left
   ·(intro w hSw; (try dsimp only at hSw); go_simp <;> with_reducible rfl)
   go_simp
   refine wpAnyT_take (i := 10) (v := ?_) rfl (by kernel_rfl) (fun _ _ _ h => h) (Or.inl ⟨by rfl, ?_⟩) (by assumption) ?_
   rotate_left
   ·(intro w hSw; (try dsimp only at hSw); go_simp <;> with_reducible rfl)
   go_simp
   refine wpAnyT_take (i := 11) (v := ?_) rfl (by kernel_rfl) (fun _ _ _ h => h) (Or.inl ⟨by rfl, ?_⟩) (by assumption) ?_
   rotate_left
   ·(intro w hSw; (try dsimp only at hSw); go_simp <;> with_reducible rfl)
   go_simp
   refine wpAnyT_take (i := 12) (v := ?_) rfl (by kernel_rfl) (fun _ _ _ h => h) (Or.inl ⟨by rfl, ?_⟩) (by assumption) ?_
   rotate_left
   ·(intro w hSw; (try dsimp only at hSw); go_simp <;> with_reducible rfl)
   go_simp
   refine wpAnyT_done (by kernel_rfl) ?_ _
   go_simp
   clear HRd HDd u0 q0 q1 e0 hHeld
   go_wp2_with fail
   go_roundw
   case rel => exact ⟨k + 1, by omega, by go_num, hb1w⟩
   case measure => simp [intOf]; omega
  ·obtain rfl : k = ts.length := by omega
   have u0 := (cellB hbr hlt1).trans t0
   have u1 := (cellB hbr hlt1).trans t1
   have HTV := Lib.hid (HT8.out.below hbr)
   go_wp2_with fail
   refine (PolymorphismsOf_any wv HTV.out (ar := 2)).mono ?_
   rintro e w9 ⟨u9, rfl, hf9, hb9⟩
   obtain ⟨a9, n9, c9, rfl⟩ := ex_slice hf9
   have hz9 := hb9.size
   have HL9 := Lib.hid hf9.rd
   have hb89 := bthen hbr hb9
   have hz89 := hb89.size
   clear hf9 HTV u0 u1 hzv hbr
   have HNIL : Hid (poC t 2 ≠ 0 → poV t 2 = []) := po_nil
   have hm64 : (poV t 2).length ≤ 64 := by have := po_many (t := t) (ar := 2); simpa using this
   have F3' := F3
   clear F3
   generalize poV t 2 = P at *
   generalize poC t 2 = pc at *
   obtain ⟨VS, hVl, hVr, ad, cap, hu, hVc⟩ := rd_vals HL9.out
   simp only [Value.slice.injEq] at hu
   obtain ⟨rfl, rfl, rfl⟩ := hu
   have HVR := Lib.hid hVr
   have HVC := Lib.hid hVc
   have HVL := Lib.hid hVl
   clear hVr hVc hVl
   have d0' := d0
   have d1' := d1
   clear d0 d1
   go_wp2_with fail
   go_loopw [17] (fun i wr => ∃ (k : Nat), k ≤ P.length ∧ i = .int .i64 k ∧ Below w9.heap.size w9 wr) (fun i _ => P.length - (intOf i).toNat)
   case atStart => exact ⟨0, Nat.zero_le _, rfl, Below.refl _ _⟩
   case round =>
    obtain ⟨k, hk, rfl, hbr⟩ := hrel
    obtain ⟨wv, rfl⟩ : ∃ wv : World, wv = wr := ⟨_, rfl⟩
    have hbr8 : Below w8.heap.size w8 wv := bthen hb89 hbr
    have hzv := hbr8.size
    by_cases hkl : k < P.length
    ·obtain rfl : pc = 0 := by
      rcases Int.decEq pc 0 with h | h
      ·have := HNIL.out h
       rw [this] at hkl
       simp at hkl
      ·exact h
     obtain ⟨hok, hf2, hkp⟩ := F3'.out rfl _ (List.getElem_mem hkl)
     obtain ⟨b, o, rfl, hbl, hVc⟩ := HVC.out (by omega)
     have hkV : k < VS.length := by rw [HVL.out]; exact hkl
     obtain ⟨g1, g2, g3⟩ := HVR.out k hkV hkl
     obtain ⟨ka, kc, hva⟩ := rd_slice g3
     obtain ⟨e0, e1⟩ := hVc k hkV
     rw [g1] at e0
     rw [hva] at e1 g3
     replace e0 := (cellB hbr hbl).trans e0
     replace e1 := (cellB hbr hbl).trans e1
     have HOP : Hid (opT.Rd wv [.int .i64 (P[k]).1, .slice ka (P[k]).2.length kc] P[k]) := (pair_mk2' rfl (g1 ▸ g2) g3).below hbr
     have HOPK := Lib.hid hok
     have HKP := Lib.hid (tb_true hkp)
     have u0 := (cellB hbr8 hlt1).trans t0
     have q0 := (cellB hbr8 hlt6).trans d0'
     have q1 := (cellB hbr8 hlt6).trans d1'
     have HDV := Lib.hid (HD8.out.below hbr8)
     have hbv : b < wv.heap.size := by have := hbr.size; omega
     clear hva g1 g2 g3 hok hf2 hkp hVc
     generalize P[k] = op at e0 e1 HOP HOPK HKP
     go_wp2_with fail
     refine wp_region_T (fun w' => w'.cell? ⟨w1.heap.size, 0, none⟩ = some (.int .i64 t.1) ∧ (w'.cell? ⟨w6.heap.size, 0, none⟩ = some (.int .i64 hv.1) ∧ w'.cell? ⟨w6.heap.size, 1, none⟩ = some (.slice a6 hv.2.length c6)) ∧ w'.cell? ⟨b, o + k * 2, none⟩ = some (.int .i64 op.1) ∧ w'.cell? ⟨b, o + k * 2 + 1, none⟩ = some (.slice ka op.2.length kc)) [] (by kernel_rfl) ⟨u0, ⟨q0, q1⟩, e0, e1⟩ (fun hHeld => ?_)
     refine wpAnyT_take (i := 0) (v := ?_) rfl (by kernel_rfl) (fun _ _ _ h => h) (Or.inl ⟨by rfl, ?_⟩) (by assumption) ?_
     rotate_left
     ·(intro w hSw; (try dsimp only at hSw); go_simp <;> with_reducible rfl)
     go_simp
     refine wpAnyT_take (i := 1) (v := ?_) rfl (by kernel_rfl) (fun _ _ _ h => h) (Or.inl ⟨by rfl, ?_⟩) (by assumption) ?_
     rotate_left
     ·(intro w hSw; (try dsimp only at hSw); go_simp <;> with_reducible rfl)
     go_simp
     refine wpAnyT_take (i := 2) (v := ?_) rfl (by kernel_rfl) (fun _ _ _ h => h) (Or.inl ⟨by rfl, ?_⟩) (by assumption) ?_
     rotate_left
     ·(intro w hSw; (try dsimp only at hSw); go_simp <;> with_reducible rfl)
     go_simp
     refine wpAnyT_take (i := 3) (v := ?_) rfl (by kernel_rfl) (fun _ _ _ h => h) (Or.inl ⟨by rfl, ?_⟩) (by assumption) ?_
     rotate_left
     ·(intro w hSw; (try dsimp only at hSw); go_simp <;> with_reducible rfl)
     go_simp
     refine wpAnyT_take (i := 4) (v := ?_) rfl (by kernel_rfl) (fun _ _ _ h => h) (Or.inl ⟨by rfl, ?_⟩) (by assumption) ?_
     rotate_left
     ·(intro w hSw; (try dsimp only at hSw); go_simp <;> with_reducible rfl)
     go_simp
     refine wpAnyT_take (i := 5) (v := ?_) rfl (by kernel_rfl) (fun _ _ _ h => h) (Or.inl ⟨by rfl, ?_⟩) (by assumption) ?_
     rotate_left
     ·(intro w hSw; (try dsimp only at hSw); go_simp <;> with_reducible rfl)
     go_simp
     refine wpAnyT_take (i := 6) (v := ?_) rfl (by kernel_rfl) (fun _ _ _ h => h) (Or.inl ⟨by rfl, ?_⟩) (by assumption) ?_
     rotate_left
     ·(intro w hSw; (try dsimp only at hSw); go_simp <;> with_reducible rfl)
     go_simp
     have hv0 : Below wv.heap.size wv wv.drew := bD
     have HOd := Lib.hid (HOP.out.below hv0)
     have HDd := Lib.hid (HDV.out.below hv0)
     have hbd := bthen hbr hv0
     have hzd := hv0.size
     have hbd8 := bthen hbr8 hv0
     have hzd8 := hbd8.size
     clear u0 q0 q1 e0 e1 HOP HDV
     generalize wv.drew = y0 at hHeld hv0 HOd HDd hbd hzd hbd8 hzd8 ⊢
     obtain ⟨u0, ⟨q0, q1⟩, e0, e1⟩ := hHeld
     refine wpAnyT_one (i := 7) rfl (by kernel_rfl) (fun K hK => ?_)
     go_simp
     go_at_call 15
     refine (Keeps_any y0 (f := op) (r := hv) HOd.out HDd.out (s := t.1) F1.out HOPK.out).mono ?_
     rintro e y1 ⟨rfl, hbx⟩
     rw [HKP.out]
     replace u0 := (cellB hbx (by omega)).trans u0
     replace q0 := (cellB hbx (by omega)).trans q0
     replace q1 := (cellB hbx (by omega)).trans q1
     replace e0 := (cellB hbx (by omega)).trans e0
     replace e1 := (cellB hbx (by omega)).trans e1
     have hb1w := bthen hbd hbx
     dsimp only
     refine hK.out _ _ ⟨u0, ⟨q0, q1⟩, e0, e1⟩ (fun hHeld => ?_)
     clear hK K
     refine wpAnyT_take (i := 8) (v := ?_) rfl (by kernel_rfl) (fun _ _ _ h => h) (Or.inl ⟨by rfl, ?_⟩) (by assumption) ?_
     rotate_left
     ·(intro w hSw; (try dsimp only at hSw); go_simp <;> with_reducible rfl)
     go_simp
     refine wpAnyT_take (i := 9) (v := ?_) rfl (by kernel_rfl) (fun _ _ _ h => h) (Or.inl ⟨by rfl, ?_⟩) (by assumption) ?_
     rotate_left
     ·(intro w hSw; (try dsimp only at hSw); go_simp <;> with_reducible rfl)
     go_simp
     refine wpAnyT_take (i := 10) (v := ?_) rfl (by kernel_rfl) (fun _ _ _ h => h) (Or.inl ⟨by rfl, ?_⟩) (by assumption) ?_
     rotate_left
     ·(intro w hSw; (try dsimp only at hSw); go_simp <;> with_reducible rfl)
     go_simp
     refine wpAnyT_take (i := 11) (v := ?_) rfl (by kernel_rfl) (fun _ _ _ h => h) (Or.inl ⟨by rfl, ?_⟩) (by assumption) ?_
     rotate_left
     ·(intro w hSw; (try dsimp only at hSw); go_simp <;> with_reducible rfl)
     go_simp
     refine wpAnyT_take (i := 12) (v := ?_) rfl (by kernel_rfl) (fun _ _ _ h => h) (Or.inl ⟨by rfl, ?_⟩) (by assumption) ?_
     rotate_left
     ·(intro w hSw; (try dsimp only at hSw); go_simp <;> with_reducible rfl)
     go_simp
     refine wpAnyT_done (by kernel_rfl) ?_ _
     go_simp
     clear HOd HDd u0 q0 q1 e0 e1 hHeld
     go_wp2_with fail
     go_roundw
     case rel => exact ⟨k + 1, by omega, by go_num, hb1w⟩
     case measure => simp [intOf]; omega
    ·obtain rfl : k = P.length := by omega
     have u0 := (cellB hbr8 hlt1).trans t0
     have u1 := (cellB hbr8 hlt1).trans t1
     have q0 := (cellB hbr8 hlt6).trans d0'
     have q1 := (cellB hbr8 hlt6).trans d1'
     have HTV := Lib.hid (HT8.out.below hbr8)
     have HTSV := Lib.hid (HTS8.out.below hbr8)
     have HDV := Lib.hid (HD8.out.below hbr8)
     have hbV := bthen hbw8 hbr8
     clear hbr hk hm64 HVC HVR HVL HL9 F3' HNIL
     go_wp2_with fail
     refine (IndicatorFormula_any wv HTV.out HTSV.out).mono ?_
     rintro e wa ⟨cs, rfl, hfa, hba⟩
     obtain ⟨aa, ca, rfl⟩ := fr_trip hfa
     have HIA := Lib.hid hfa.rd
     have hza := hba.size
     replace u0 := (cellB hba (by omega)).trans u0
     replace u1 := (cellB hba (by omega)).trans u1
     replace q0 := (cellB hba (by omega)).trans q0
     replace q1 := (cellB hba (by omega)).trans q1
     have HTA := Lib.hid (HTV.out.below hba)
     have HTSA := Lib.hid (HTSV.out.below hba)
     have HDA := Lib.hid (HDV.out.below hba)
     have hbA := bthen hbV hba
     clear hfa HTV HTSV HDV
     have ta0 : ∀ o : Obj, (World.alloc wa o).cell? ⟨w1.heap.size, 0, none⟩ = some (.int .i64 t.1) := fun o => (cellB bA (by omega)).trans u0
     have ta1 : ∀ o : Obj, (World.alloc wa o).cell? ⟨w1.heap.size, 1, none⟩ = some (.slice ta t.2.length tc) := fun o => (cellB bA (by omega)).trans u1
     go_wp2_with fail
     clear ta0 ta1
     generalize hWb : World.alloc wa _ = wb
     have hbb : Below wa.heap.size wa wb := hWb ▸ bA
     have hzb : wa.heap.size + 1 ≤ wb.heap.size := by rw [← hWb]; simp
     have i0 : wb.cell? ⟨wa.heap.size, 0, none⟩ = some (.int .i64 (inV t ts).1) := by rw [← hWb]; simp [go_sem]
     have i1 : wb.cell? ⟨wa.heap.size, 1, none⟩ = some (.int .i64 (inV t ts).2.1) := by rw [← hWb]; simp [go_sem]
     have i2 : wb.cell? ⟨wa.heap.size, 2, none⟩ = some (.slice aa (inV t ts).2.2.length ca) := by rw [← hWb]; simp [go_sem]
     replace u0 := (cellB hbb (by omega)).trans u0
     replace u1 := (cellB hbb (by omega)).trans u1
     replace q0 := (cellB hbb (by omega)).trans q0
     replace q1 := (cellB hbb (by omega)).trans q1
     have HTB := Lib.hid (HTA.out.below hbb)
     have HTSB := Lib.hid (HTSA.out.below hbb)
     have HDB := Lib.hid (HDA.out.below hbb)
     have HIB := Lib.hid (HIA.out.below hbb)
     have hbB := bthen hbA hbb
     clear hWb HTA HTSA HDA HIA
     refine (specIndicatorFormula_any wb HTB.out HTSB.out).mono ?_
     rintro e wc ⟨cs, rfl, hfc, hbc⟩
     obtain ⟨ac, cc, rfl⟩ := fr_trip hfc
     have HMC := Lib.hid hfc.rd
     have hzc := hbc.size
     replace u0 := (cellB hbc (by omega)).trans u0
     replace u1 := (cellB hbc (by omega)).trans u1
     replace q0 := (cellB hbc (by omega)).trans q0
     replace q1 := (cellB hbc (by omega)).trans q1
     replace i0 := (cellB hbc (by omega)).trans i0
     replace i1 := (cellB hbc (by omega)).trans i1
     replace i2 := (cellB hbc (by omega)).trans i2
     have HTC := Lib.hid (HTB.out.below hbc)
     have HTSC := Lib.hid (HTSB.out.below hbc)
     have HDC := Lib.hid (HDB.out.below hbc)
     have HIC := Lib.hid (HIB.out.below hbc)
     have hbC := bthen hbB hbc
     clear hfc HTB HTSB HDB HIB
     have hnn : (inC t ts != inC t ts) = false := by simp
     generalize inC t ts = ic at *
     generalize inV t ts = iv at *
     have ta0 : ∀ o : Obj, (World.alloc wc o).cell? ⟨wa.heap.size, 0, none⟩ = some (.int .i64 iv.1) := fun o => (cellB bA (by omega)).trans i0
     have ta1 : ∀ o : Obj, (World.alloc wc o).cell? ⟨wa.heap.size, 1, none⟩ = some (.int .i64 iv.2.1) := fun o => (cellB bA (by omega)).trans i1
     have ta2 : ∀ o : Obj, (World.alloc wc o).cell? ⟨wa.heap.size, 2, none⟩ = some (.slice aa iv.2.2.length ca) := fun o => (cellB bA (by omega)).trans i2
     cases hic : (ic == 0)
     go_wp2_with fail
     clear ta0 ta1 ta2
     generalize hWx : World.alloc wc _ = wx
     have hbx : Below wc.heap.size wc wx := hWx ▸ bA
     replace u0 := (cellB hbx (by omega)).trans u0
     replace u1 := (cellB hbx (by omega)).trans u1
     have hbX := bthen hbC hbx
     have HTX := Lib.hid (HTC.out.below hbx)
     have HTSX := Lib.hid (HTSC.out.below hbx)
     have hb8X : Below w8.heap.size w8 wx := bthen hbr8 (bthen hba (bthen hbb (bthen hbc hbx)))
     clear hWx hbx
     rotate_left
     obtain rfl : ic = 0 := by simpa using hic
     have hF4 := F4.out rfl
     have HF4 := Lib.hid hF4
     clear hF4 F4 ta0 ta1 ta2
     generalize hWd : World.alloc wc _ = we
     have hbe : Below wc.heap.size wc we := hWd ▸ bA
     have hze : wc.heap.size + 1 ≤ we.heap.size := by rw [← hWd]; simp
     have m0 : we.cell? ⟨wc.heap.size, 0, none⟩ = some (.int .i64 iv.1) := by rw [← hWd]; simp [go_sem]
     have m1 : we.cell? ⟨wc.heap.size, 1, none⟩ = some (.int .i64 iv.2.1) := by rw [← hWd]; simp [go_sem]
     have m2 : we.cell? ⟨wc.heap.size, 2, none⟩ = some (.slice ac iv.2.2.length cc) := by rw [← hWd]; simp [go_sem]
     replace u0 := (cellB hbe (by omega)).trans u0
     replace u1 := (cellB hbe (by omega)).trans u1
     replace q0 := (cellB hbe (by omega)).trans q0
     replace q1 := (cellB hbe (by omega)).trans q1
     clear hWd i0 i1 i2
     refine (specSameFormula_any we (x := iv) (y := iv) (HIC.out.below hbe) (HMC.out.below hbe)).mono ?_
     rintro e wf ⟨rfl, hbf⟩
     rw [show eqB iv iv = true from eqB_true rfl]
     have hzf := hbf.size
     replace u0 := (cellB hbf (by omega)).trans u0
     replace u1 := (cellB hbf (by omega)).trans u1
     replace q0 := (cellB hbf (by omega)).trans q0
     replace q1 := (cellB hbf (by omega)).trans q1
     replace m0 := (cellB hbf (by omega)).trans m0
     replace m1 := (cellB hbf (by omega)).trans m1
     replace m2 := (cellB hbf (by omega)).trans m2
     have hbCF := bthen hbe hbf
     have HTF := Lib.hid (HTC.out.below hbCF)
     have HTSF := Lib.hid (HTSC.out.below hbCF)
     have HDF := Lib.hid (HDC.out.below hbCF)
     have HMF := Lib.hid (HMC.out.below hbCF)
     go_wp2_with fail
     have hvo := ValueOf_any wf HTF.out HMF.out
     rw [HF4.out.1, HF4.out.2] at hvo
     refine hvo.mono ?_
     clear hvo m0 m1 m2
     rintro e wg ⟨cs, rfl, hfg, hbg⟩
     obtain ⟨ag, cg, rfl⟩ := fr_pair hfg
     have HVG := Lib.hid hfg.rd
     have hzg := hbg.size
     replace u0 := (cellB hbg (by omega)).trans u0
     replace u1 := (cellB hbg (by omega)).trans u1
     replace q0 := (cellB hbg (by omega)).trans q0
     replace q1 := (cellB hbg (by omega)).trans q1
     clear hfg
     have ta0 : ∀ o : Obj, (World.alloc wg o).cell? ⟨w6.heap.size, 0, none⟩ = some (.int .i64 hv.1) := fun o => (cellB bA (by omega)).trans q0
     have ta1 : ∀ o : Obj, (World.alloc wg o).cell? ⟨w6.heap.size, 1, none⟩ = some (.slice a6 hv.2.length c6) := fun o => (cellB bA (by omega)).trans q1
     go_wp2_with fail
     clear ta0 ta1
     generalize hWh : World.alloc wg _ = wh
     have hbh : Below wg.heap.size wg wh := hWh ▸ bA
     replace u0 := (cellB hbh (by omega)).trans u0
     replace u1 := (cellB hbh (by omega)).trans u1
     clear hWh q0 q1
     refine (specSameRel_any wh (x := hv) (y := hv) (HVG.out.below hbh) (HDF.out.below (bthen hbg hbh))).mono ?_
     rintro e wx ⟨rfl, hbi⟩
     rw [show eqB hv hv = true from eqB_true rfl]
     have hzh := hbh.size
     replace u0 := (cellB hbi (by omega)).trans u0
     replace u1 := (cellB hbi (by omega)).trans u1
     have hbFX := bthen hbg (bthen hbh hbi)
     have HTX := Lib.hid (HTF.out.below hbFX)
     have HTSX := Lib.hid (HTSF.out.below hbFX)
     have hbX := bthen hbC (bthen hbCF hbFX)
     have hb8X : Below w8.heap.size w8 wx := bthen hbr8 (bthen hba (bthen hbb (bthen hbc (bthen hbCF hbFX))))
     clear hbe hbf hbCF HTF HTSF HDF HMF HVG hbg hbh hbi hbFX
     go_wp2_with fail
     all_goals
      clear hic HIC HMC HTC HTSC HDC
      try clear F4
      try clear HF4
      obtain ⟨M, hM, hP, hMl⟩ := set_ex (ts := ts) (by omega)
      have HM := Lib.hid hM
      have HP := Lib.hid hP
      have hrel := rel_mk (s := t.1) HOK.out.1 (ar := ar) (by omega) HALL.out hM hP
      have hM0 : 0 < M.length := by
       rcases Nat.eq_zero_or_pos M.length with h | h
       ·obtain rfl : M = [] := List.eq_nil_of_length_eq_zero h
        have := (hM ts[0]).2 (List.getElem_mem (by omega))
        simp at this
       ·exact h
      have HFBR := Lib.hid (break_facts (r := ((ar : Int), M)) HOK.out hrel (by show 0 < M.length; exact hM0) (by show M.length ≤ 3; omega))
      have HREL := Lib.hid hrel
      have hzX := hb8X.size
      obtain ⟨la, lc, e0, hrow⟩ := HRC8.out 0 (by omega)
      replace e0 := (cellB hb8X hrb8).trans e0
      have HL0 : Hid ((ts[0]'(by omega)).length = ar) := (HALL.out _ (List.getElem_mem _)).1
      rw [HL0.out] at e0
      clear hM hP hrel hrow
      have e0' : wx.cell? ⟨rb, ro, none⟩ = some (.slice la ar lc) := e0
      clear e0
      have har4 : 1 ≤ ar ∧ ar ≤ 4 := by omega
      refine wp_region_box [(.plain, exO (.pointer (some ⟨w1.heap.size, 0, none⟩))), (.plain, exO (.int .i64 t.1)), (.plain, exO (.slice (some ⟨rb, ro, none⟩) ts.length rc)), (.plain, exO (.pointer (some ⟨rb, ro, none⟩))), (.plain, exO (.slice la ar lc)), (.plain, exO (.int .i64 (ar : Int))), (.plain, exO (.slice (some ⟨rb, ro, none⟩) ts.length rc)), (.plain, frTO relT wx.heap.size ((ar : Int), M) (.int .i64 0)), (.plain, frTO relT wx.heap.size ((ar : Int), M) (.int .i64 0)), (.plain, frAO relT wx.heap.size ((ar : Int), M)), (.plain, exO (.int .i64 0)), (.alloc, boxO 2), (.store, heldO relT wx.heap.size ((ar : Int), M)), (.plain, exO (.int .i64 0))] (by kernel_rfl) (by kernel_rfl) ⟨st_exO, st_exO, st_exO, st_exO, st_exO, st_exO, st_exO, st_frTO, st_frTO, st_frAO, st_exO, st_boxO, st_heldO, st_exO, trivial⟩ ⟨?_, ?_, ?_, ?_, ?_, ?_, ?_, ?_, ?_, ?_, ?_, ?_, ?_, ?_, trivial⟩ ?_
      ·intro a' w' ob hb hbo hal hd
       have e0 : a'.tmps[5]?.getD undef = .pointer (some ⟨w1.heap.size, 0, none⟩) := ev (slot_o2 hd 5 rfl rfl)
       go_simp
       exact ⟨_, ⟨rfl, Below.refl _ _⟩, rfl⟩
      ·intro a' w' ob hb hbo hal hd
       have e0 := ev (slot_w2 hd 181 (exO (.pointer (some ⟨w1.heap.size, 0, none⟩))) rfl rfl)
       have q := (cellB hb (show w1.heap.size < wx.heap.size by omega)).trans u0
       go_simp
       exact ⟨_, ⟨rfl, Below.refl _ _⟩, rfl⟩
      ·intro a' w' ob hb hbo hal hd
       have e0 : a'.tmps[7]?.getD undef = .slice (some ⟨rb, ro, none⟩) ts.length rc := ev (slot_o2 hd 7 rfl rfl)
       go_simp
       exact ⟨_, ⟨rfl, Below.refl _ _⟩, rfl⟩
      ·intro a' w' ob hb hbo hal hd
       have e0 := ev (slot_w2 hd 183 (exO (.slice (some ⟨rb, ro, none⟩) ts.length rc)) rfl rfl)
       have hts0 : 0 < ts.length := by omega
       go_simp
       exact ⟨_, ⟨rfl, Below.refl _ _⟩, rfl⟩
      ·intro a' w' ob hb hbo hal hd
       have e0 := ev (slot_w2 hd 184 (exO (.pointer (some ⟨rb, ro, none⟩))) rfl rfl)
       have q := (cellB hb (show rb < wx.heap.size by omega)).trans e0'
       go_simp
       exact ⟨_, ⟨rfl, Below.refl _ _⟩, rfl⟩
      ·intro a' w' ob hb hbo hal hd
       have e0 := ev (slot_w2 hd 185 (exO (.slice la ar lc)) rfl rfl)
       go_simp
       exact ⟨_, ⟨rfl, Below.refl _ _⟩, rfl⟩
      ·intro a' w' ob hb hbo hal hd
       have e0 : a'.tmps[7]?.getD undef = .slice (some ⟨rb, ro, none⟩) ts.length rc := ev (slot_o2 hd 7 rfl rfl)
       go_simp
       exact ⟨_, ⟨rfl, Below.refl _ _⟩, rfl⟩
      ·intro a' w' ob hb hbo hal hd
       have e0 := ev (slot_w2 hd 182 (exO (.int .i64 t.1)) rfl rfl)
       have e1 := ev (slot_w2 hd 186 (exO (.int .i64 (ar : Int))) rfl rfl)
       have e2 := ev (slot_w2 hd 187 (exO (.slice (some ⟨rb, ro, none⟩) ts.length rc)) rfl rfl)
       go_simp
       exact ⟨rfl, Below.refl _ _, (MakeRel_any w' (HTSX.out.below hb) (by omega) hs har4 HALL.out HM.out HP.out).mono fun e w'' ⟨cs, he, hf, hb2⟩ => ⟨_, he, hb2, frTO_mk hb.size hf hbo⟩⟩
      ·intro a' w' ob hb hbo hal hd
       have d46 := slot_w2 hd 188 (frTO relT wx.heap.size ((ar : Int), M) (.int .i64 0)) rfl rfl
       obtain ⟨cs46, e46, hf46⟩ := d46
       have e46' := ev e46
       go_simp
       exact ⟨_, ⟨rfl, Below.refl _ _⟩, cs46, rfl, hf46⟩
      ·intro a' w' ob hb hbo hal hd
       have d34 := slot_w2 hd 180 (frTO relT wx.heap.size ((ar : Int), M) (.int .i64 0)) rfl rfl
       obtain ⟨cs34, e34, hf34⟩ := d34
       have e34' := ev e34
       go_simp
       exact ⟨_, ⟨rfl, Below.refl _ _⟩, hf34⟩
      ·intro a' w' ob hb hbo hal hd
       have d34 := slot_w2 hd 180 (frTO relT wx.heap.size ((ar : Int), M) (.int .i64 0)) rfl rfl
       obtain ⟨cs34, e34, hf34⟩ := d34
       have e34' := ev e34
       go_simp
       exact ⟨_, ⟨rfl, Below.refl _ _⟩, rfl⟩
      ·intro a' w' ob hb hbo hal hd
       obtain rfl := hal rfl
       go_simp
       exact ⟨_, ⟨rfl, by simp, bA⟩, _, rfl, rfl, by simp, box2n⟩
      ·intro a' w' ob hb hbo hal hd
       obtain ⟨bb, rfl, e10, hbb', hcl⟩ := slot_w2 hd 26 (boxO 2) rfl rfl
       have e10' := ev e10
       have d47 := slot_w2 hd 189 (frAO relT wx.heap.size ((ar : Int), M)) rfl rfl
       obtain ⟨cs47, fp47, e47, hr47, hn47, hg47, hu47, ho47⟩ := d47
       obtain ⟨u47, rfl, hr47', -⟩ := rd_pair hr47
       obtain ⟨ad47', cap47', rfl⟩ := rd_slice ⟨_, hr47'⟩
       have e47' := ev e47
       obtain ⟨⟨y0, c0⟩, f0⟩ := hcl 0 (by decide)
       obtain ⟨⟨y1, c1⟩, f1⟩ := hcl 1 (by decide)
       go_simp
       exact held2 c0 c1 hr47 hn47 hg47 hu47 ho47 _
      ·intro a' w' ob hb hbo hal hd
       have e0 := ev (slot_w2 hd 190 (exO (.int .i64 0)) rfl rfl)
       go_simp
       exact ⟨_, ⟨rfl, Below.refl _ _⟩, rfl⟩
      intro vs8 wy ob8 hby hbo8 J0
      obtain ⟨v8_0, _, rfl, p0, J1⟩ := HAll2_cons J0
      obtain ⟨v8_1, _, rfl, p1, J2⟩ := HAll2_cons J1
      obtain ⟨v8_2, _, rfl, p2, J3⟩ := HAll2_cons J2
      obtain ⟨v8_3, _, rfl, p3, J4⟩ := HAll2_cons J3
      obtain ⟨v8_4, _, rfl, p4, J5⟩ := HAll2_cons J4
      obtain ⟨v8_5, _, rfl, p5, J6⟩ := HAll2_cons J5
      obtain ⟨v8_6, _, rfl, p6, J7⟩ := HAll2_cons J6
      obtain ⟨v8_7, _, rfl, p7, J8⟩ := HAll2_cons J7
      obtain ⟨v8_8, _, rfl, p8, J9⟩ := HAll2_cons J8
      obtain ⟨v8_9, _, rfl, p9, J10⟩ := HAll2_cons J9
      obtain ⟨v8_10, _, rfl, p10, J11⟩ := HAll2_cons J10
      obtain ⟨v8_11, _, rfl, p11, J12⟩ := HAll2_cons J11
      obtain ⟨v8_12, _, rfl, p12, J13⟩ := HAll2_cons J12
      obtain ⟨v8_13, _, rfl, p13, J14⟩ := HAll2_cons J13
      obtain rfl := HAll2_nil J14
      obtain rfl := id p0
      obtain rfl := id p1
      obtain rfl := id p2
      obtain rfl := id p3
      obtain rfl := id p4
      obtain rfl := id p5
      obtain rfl := id p6
      obtain rfl := id p10
      obtain rfl := id p13
      obtain ⟨bb, rfl, rfl, hltbb, -⟩ := id p11
      obtain ⟨_, cs, fpx, hob, hr1, hr2, hr3, hr4, -, kk⟩ := id p12
      simp only [Option.some.injEq] at hob
      subst hob
      have hcf : relT.Fr wx.heap.size wy cs ((ar : Int), M) := ⟨fpx, hr1, hr2, hr3, hr4⟩
      obtain ⟨am, cm, rfl⟩ := fr_pair hcf
      have z0 : wy.cell? ⟨bb, 0, none⟩ = some (.int .i64 (ar : Int)) := kk 0 (by simp)
      have z1 : wy.cell? ⟨bb, 1, none⟩ = some (.slice am M.length cm) := kk 1 (by simp)
      have HRY : Hid (relT.Rd wy [.int .i64 (ar : Int), .slice am M.length cm] ((ar : Int), M)) := hcf.rd
      have hzy := hby.size
      replace u0 := (cellB hby (by omega)).trans u0
      replace u1 := (cellB hby (by omega)).trans u1
      have HTY := Lib.hid (HTX.out.below hby)
      have hbY := bthen hbX hby
      clear kk hr1 hr2 hr3 hr4 hcf p7 p8 p9 p11 p12 HTX HTSX e0'
      simp only [putAll, Act.put]
      go_simp
      go_wp2_with fail
      refine (IsDefinable_any wy HTY.out HRY.out).mono ?_
      rintro e wz ⟨rfl, hbz⟩
      have hzz := hbz.size
      replace u0 := (cellB hbz (by omega)).trans u0
      replace u1 := (cellB hbz (by omega)).trans u1
      replace z0 := (cellB hbz (by omega)).trans z0
      replace z1 := (cellB hbz (by omega)).trans z1
      have HTZ := Lib.hid (HTY.out.below hbz)
      have HRZ := Lib.hid (HRY.out.below hbz)
      have hbZ := bthen hbY hbz
      clear HTY HRY
      go_wp2_with fail
      refine (BreakingOp_any wz HTZ.out HRZ.out).mono ?_
      rintro e wq ⟨cs, uo, mid, rfl, hm1, hm2, hfx, hfr, hbq⟩
      obtain ⟨va, rfl, hI, hxx⟩ := pair_ex hfx.rd
      obtain ⟨oa, oc, rfl⟩ := rd_slice hxx
      obtain ⟨ma, mc, rfl⟩ := rd_slice hfr.rd
      have HG := Lib.hid hfx.rd
      have HMD := Lib.hid hfr.rd
      have hzq := hbq.size
      replace u0 := (cellB hbq (by omega)).trans u0
      replace u1 := (cellB hbq (by omega)).trans u1
      replace z0 := (cellB hbq (by omega)).trans z0
      replace z1 := (cellB hbq (by omega)).trans z1
      have HTQ := Lib.hid (HTZ.out.below hbq)
      have HRQ := Lib.hid (HRZ.out.below hbq)
      have hbQ := bthen hbZ hbq
      clear hm1 hm2 hfx hfr hI hxx HTZ HRZ
      have fbr := HFBR.out
      have HMM : Hid (huM M = ar) := by unfold Hid; rw [huM_at hM0]; exact (HALL.out _ ((HM.out _).1 (List.getElem_mem _))).1
      have HTUP : Hid (tupsOk t.1 (M.length : Int) ar M) := ⟨rfl, fun l hl => HALL.out l ((HM.out l).1 hl)⟩
      clear HFBR
      generalize roC t ((ar : Int), M) = c1 at *
      generalize idB t ((ar : Int), M) = b1 at *
      generalize boC t ((ar : Int), M) = c2 at *
      generalize boO t ((ar : Int), M) = O1 at *
      generalize boT t ((ar : Int), M) = T1 at *
      rcases fbr with (rfl | rfl) | ⟨rfl, ⟨rfl, rfl⟩ | ⟨rfl, rfl, x, rfl, hpx, hmk, hnot⟩⟩
      ·go_wp2_with fail
       go_ret
       exact ⟨rfl, hbQ.trans (bA.mono hbQ.size)⟩
      ·go_wp2_with fail
       go_ret
       exact ⟨rfl, hbQ.trans (bA.mono hbQ.size)⟩
      ·go_wp2_with fail
       go_ret
       exact ⟨rfl, hbQ.trans (bA.mono hbQ.size)⟩
      ·obtain ⟨gp1, gp2, gp3⟩ := polyT_poly HOK.out (n := M.length) (by omega) hpx
       have HP1 := Lib.hid gp1
       have HP2 := Lib.hid gp2
       have HP3 := Lib.hid gp3
       have HMK := Lib.hid hmk
       have HNT := Lib.hid (tb_false hnot)
       have ta0 : ∀ o : Obj, (World.alloc wq o).cell? ⟨w1.heap.size, 0, none⟩ = some (.int .i64 t.1) := fun o => (cellB bA (by omega)).trans u0
       have ta1 : ∀ o : Obj, (World.alloc wq o).cell? ⟨bb, 1, none⟩ = some (.slice am M.length cm) := fun o => (cellB bA (by omega)).trans z1
       dsimp only at HG HMD
       clear gp1 gp2 gp3 hmk hnot hpx
       go_wp2_with fail
       clear ta0 ta1
       generalize hWr : World.alloc wq _ = wr
       have hbr' : Below wq.heap.size wq wr := hWr ▸ bA
       have hzr : wq.heap.size + 1 ≤ wr.heap.size := by rw [← hWr]; simp
       have g0 : wr.cell? ⟨wq.heap.size, 0, none⟩ = some (.int .i64 (M.length : Int)) := by rw [← hWr]; simp [go_sem]
       have g1 : wr.cell? ⟨wq.heap.size, 1, none⟩ = some (.slice oa x.length oc) := by rw [← hWr]; simp [go_sem]
       replace u0 := (cellB hbr' (by omega)).trans u0
       replace u1 := (cellB hbr' (by omega)).trans u1
       replace z0 := (cellB hbr' (by omega)).trans z0
       replace z1 := (cellB hbr' (by omega)).trans z1
       have HTR := Lib.hid (HTQ.out.below hbr')
       have HRR := Lib.hid (HRQ.out.below hbr')
       have HGR := Lib.hid (HG.out.below hbr')
       have HMR := Lib.hid (HMD.out.below hbr')
       have hbR := bthen hbQ hbr'
       have HROWS : Hid (rowsT.Rd wr [.slice am M.length cm] M) := by
        obtain ⟨v, hv1, -, hv2⟩ := pair_ex HRR.out
        simp only [List.cons.injEq, true_and, and_true] at hv1
        rw [hv1]
        exact hv2
       clear hWr HTQ HRQ HG HMD
       refine (ApplyToTuples_any wr (f := ((M.length : Int), x)) (HGR.out) HROWS.out (s := t.1) (m := ar) HP3.out HTUP.out (by omega)).mono ?_
       rintro e ws ⟨ux, rfl, hfx, hbs⟩
       obtain ⟨sa, sn, sc, rfl⟩ := ex_slice hfx
       have HX := Lib.hid hfx.rd
       have hzs := hbs.size
       replace u0 := (cellB hbs (by omega)).trans u0
       replace u1 := (cellB hbs (by omega)).trans u1
       replace z0 := (cellB hbs (by omega)).trans z0
       replace z1 := (cellB hbs (by omega)).trans z1
       replace g0 := (cellB hbs (by omega)).trans g0
       replace g1 := (cellB hbs (by omega)).trans g1
       have HTS := Lib.hid (HTR.out.below hbs)
       have HRS := Lib.hid (HRR.out.below hbs)
       have HGS := Lib.hid (HGR.out.below hbs)
       have HMS := Lib.hid (HMR.out.below hbs)
       have hbS := bthen hbR hbs
       clear hfx HTR HRR HGR HMR HROWS
       go_wp2_with fail
       refine (HasTuple_any ws (r := ((ar : Int), M)) HRS.out HMS.out (s := t.1) HREL.out).mono ?_
       rintro e wt ⟨rfl, hbt⟩
       rw [HNT.out]
       have hzt := hbt.size
       replace u0 := (cellB hbt (by omega)).trans u0
       replace u1 := (cellB hbt (by omega)).trans u1
       replace g0 := (cellB hbt (by omega)).trans g0
       replace g1 := (cellB hbt (by omega)).trans g1
       have HTT := Lib.hid (HTS.out.below hbt)
       have HGT := Lib.hid (HGS.out.below hbt)
       have HMT := Lib.hid (HMS.out.below hbt)
       have HXT := Lib.hid (HX.out.below hbt)
       have hbT := bthen hbS hbt
       clear HTS HRS HGS HMS HX
       go_wp2_with fail
       refine (IsPolymorphism_any wt (f := ((M.length : Int), x)) HTT.out HGT.out).mono ?_
       rintro e wu ⟨rfl, hbu⟩
       rw [HP1.out, HP2.out]
       have HMU := Lib.hid (HMT.out.below hbu)
       have HXU := Lib.hid (HXT.out.below hbu)
       have hbU := bthen hbT hbu
       go_wp2_with fail
       refine (A2Same_any wu HXU.out HMU.out).mono ?_
       rintro e wv' ⟨rfl, hbv⟩
       rw [show eqB (madeL t.1 x M ar) T1 = true from eqB_true (by rw [← HMM.out]; exact HMK.out)]
       go_wp2_with fail
       go_ret
       exact ⟨rfl, bthen hbU hbv⟩
end Go.Proofs.YtajmjfbejfiipaaGreat
