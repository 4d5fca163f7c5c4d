/-
  Contracts: full domains.
-/
import Derived.Test.YtadncmlfkoolkaaK11
namespace Go.Proofs.Ytadncmlfkoolkaa
open Go.RowKit Go.Sort
def fullL (n size : Nat) : List (List Int) := List.replicate n (upL 0 size)
theorem fullL_succ (n size : Nat) : fullL n size ++ [upL 0 size] = fullL (n + 1) size := (List.replicate_succ' ..).symm
theorem fullL_len {n size : Nat} : (fullL n size).length = n := by simp [fullL]
noncomputable def fullV (t : Int × List (Int × List (List Int))) (x : Int × List (Int × List Int)) : List (List Int) :=
  match tb (instOk t x) with
  | true => fullL x.1.toNat t.1.toNat
  | false => []
noncomputable def fullC (t : Int × List (Int × List (List Int))) (x : Int × List (Int × List Int)) : Int :=
  match tb (instOk t x) with
  | true => 0
  | false => 1
section
variable {t : Int × List (Int × List (List Int))} {x : Int × List (Int × List Int)}
theorem full_1 (h : tb (instOk t x) = false) : fullV t x = [] ∧ fullC t x = 1 := by simp [fullV, fullC, h]
theorem full_0 (h : tb (instOk t x) = true) : fullV t x = fullL x.1.toNat t.1.toNat ∧ fullC t x = 0 := by simp [fullV, fullC, h]
theorem inst_bd (h : tb (instOk t x) = true) : 1 ≤ t.1 ∧ t.1 ≤ 4 ∧ 1 ≤ x.1 ∧ x.1 ≤ 10 := by
  have h := tb_iff.1 h
  have h1 := h.1.1
  have h2 := h.2.1
  unfold sizeOk at h1
  omega
theorem full_cnt : cntRows (fullV t x) ≤ 1000000 := by
  cases h : tb (instOk t x)
  · rw [(full_1 h).1]; simp [cntRows, sumL]
  · rw [(full_0 h).1]
    obtain ⟨h1, h2, h3, h4⟩ := inst_bd h
    have hk : ∀ n : Nat, cntRows (fullL n t.1.toNat) = (n : Int) * t.1 := by
      intro n
      induction n with
      | zero => simp [fullL, cntRows, sumL]
      | succ n ih =>
        have : cntRows (fullL (n + 1) t.1.toNat) = cntI (upL 0 t.1.toNat) + cntRows (fullL n t.1.toNat) := by simp [fullL, List.replicate_succ, cntRows, sumL]
        rw [this, ih, cntI, upL_len, show ((n + 1 : Nat) : Int) = (n : Int) + 1 by omega, Int.add_mul]
        omega
    rw [hk]
    have : (x.1.toNat : Int) * t.1 ≤ 10 * 4 := Int.mul_le_mul (by omega) h2 (by omega) (by omega)
    omega
end
set_option maxHeartbeats 1600000 in
set_option maxRecDepth 100000 in
theorem fullDomains_any (w : World) {cs cs' : Array Value} {t : Int × List (Int × List (List Int))} {x : Int × List (Int × List Int)} (h : tplT.Rd w cs.toList t) (h' : instT.Rd w cs'.toList x) (ht : t.1 ≤ 1000000) (hx : x.1 ≤ 1000000) :
    Calls Try.prog 81 #[.agg cs, .agg cs'] w (RetS rowsT w (fullL x.1.toNat t.1.toNat)) := by
  obtain ⟨v, hv, hI, -⟩ := pair_ex h
  obtain rfl := agg_of hv
  obtain ⟨v', hv', hI', -⟩ := pair_ex h'
  obtain rfl := agg_of hv'
  clear h hv h' hv'
  go_enter Try.func81, Try.ntmps81
  go_wp2_with fail
  generalize hW : (w.alloc _).alloc _ = W
  have hB0 : Below w.heap.size w W := hW ▸ bAA
  have hs0 : W.heap.size = w.heap.size + 2 := by rw [← hW]; simp
  have c0 : W.cell? ⟨w.heap.size, 0, none⟩ = some (.int .i64 t.1) := by rw [← hW]; simp
  clear hW
  go_loopw [9, 5] (fun i o wr => ∃ k : Nat, k ≤ x.1.toNat ∧ i = .int .i64 k ∧ Bl intsT 40 W.heap.size wr.heap.size wr o (fullL k t.1.toNat) ∧ Below W.heap.size W wr) (fun i _ _ => x.1.toNat - (intOf i).toNat)
  case atStart => exact ⟨0, Nat.zero_le _, rfl, by simpa [fullL, hs0] using Bl.lit0 (E := intsT) (e := 40) (w := W) (Nat.le_refl _), bA⟩
  case round =>
    obtain ⟨k, hk, rfl, hBl, hbel⟩ := hrel
    have HB := Lib.hid hBl
    clear hBl
    have hsz := hbel.size
    have d0 : wr.cell? ⟨w.heap.size, 0, none⟩ = some (.int .i64 t.1) := (hbel.cell (by simp; omega)).trans c0
    by_cases hkl : (k : Int) < x.1
    · go_wp2_with fail
      refine (upTo_any _ _ _ (by omega) (by omega) (by omega)).mono ?_
      rintro e w1 ⟨u, rfl, hf, hb1⟩
      obtain ⟨ad, cap, rfl⟩ := fr_slice hf
      have hz1 := hb1.size
      have HF := Lib.hid hf
      clear hf d0 c0
      go_wp2_with (refine wpList_push (E := intsT) _ rfl _ _ 64 40 rfl elInt64SS rfl (HB.out.below (hb1.alloc hb1.size _) (Nat.le_refl _)) rfl news1 (HF.out.below bA) (by rw [fullL_len]; omega) (by decide) hbel.size (by simp; omega) ?_; intro v1 w2 hB1 hg1 _)
      have hbel1 : Below W.heap.size W w2 := ((hbel.trans (hb1.mono hbel.size)).alloc (by omega) _).grown hg1 (by simp; omega) (fun k hk => HB.out.own hk)
      rw [fullL_succ] at hB1
      have HB1 := Lib.hid hB1
      clear hB1
      go_wp2_with fail
      go_roundw
      case rel => exact ⟨k + 1, by omega, by go_num, HB1.out, hbel1⟩
      case measure => simp [intOf]; omega
    · obtain rfl : k = x.1.toNat := by omega
      go_wp2_with fail
      go_ret
      exact ⟨_, rfl, (HB.out.fr (by rw [fullL_len]; unfold capMax; omega)).mono (by omega), bthen hB0 hbel⟩
set_option maxHeartbeats 1600000 in
theorem FullDomains_any (w : World) {cs cs' : Array Value} {t : Int × List (Int × List (List Int))} {x : Int × List (Int × List Int)} (h : tplT.Rd w cs.toList t) (h' : instT.Rd w cs'.toList x) :
    Calls Try.prog 34 #[.agg cs, .agg cs'] w (RetSC rowsT w (fullV t x) (fullC t x)) := by
  have ht := h
  have hxx := h'
  obtain ⟨v, hv, hI, -⟩ := pair_ex h
  obtain rfl := agg_of hv
  obtain ⟨v', hv', hI', -⟩ := pair_ex h'
  obtain rfl := agg_of hv'
  clear h hv h' hv'
  cases hT : tb (instOk t x)
  · have HR := Lib.hid (full_1 hT)
    go_enter Try.func34, Try.ntmps34
    go_wp2_with fail
    refine (ValidInstance_any _ (ht.below (by repeat (first | exact Below.refl _ _ | exact bA | assumption | refine Below.setCell ?_ (by first | omega | (simp; try omega)) _ | refine Below.alloc ?_ (by first | omega | (simp; try omega)) _ | refine Below.drew ?_ | refine bDN ?_ | refine bthen ?_ (by assumption)))) (hxx.below (by repeat (first | exact Below.refl _ _ | exact bA | assumption | refine Below.setCell ?_ (by first | omega | (simp; try omega)) _ | refine Below.alloc ?_ (by first | omega | (simp; try omega)) _ | refine Below.drew ?_ | refine bDN ?_ | refine bthen ?_ (by assumption))))).mono ?_
    rintro e w1 ⟨rfl, hb1⟩
    rw [hT]
    have hB1 : Below w.heap.size w w1 := bthen (by repeat (first | exact Below.refl _ _ | exact bA | assumption | refine Below.setCell ?_ (by first | omega | (simp; try omega)) _ | refine Below.alloc ?_ (by first | omega | (simp; try omega)) _ | refine Below.drew ?_ | refine bDN ?_ | refine bthen ?_ (by assumption))) hb1
    go_wp2_with fail
    go_ret2
    exact ⟨.slice none 0 0, by rw [HR.out.2]; rfl, by rw [HR.out.1]; exact fr_nil, hB1⟩
  · have HR := Lib.hid (full_0 hT)
    obtain ⟨g1, g2, g3, g4⟩ := inst_bd hT
    go_enter Try.func34, Try.ntmps34
    go_wp2_with fail
    refine (ValidInstance_any _ (ht.below (by repeat (first | exact Below.refl _ _ | exact bA | assumption | refine Below.setCell ?_ (by first | omega | (simp; try omega)) _ | refine Below.alloc ?_ (by first | omega | (simp; try omega)) _ | refine Below.drew ?_ | refine bDN ?_ | refine bthen ?_ (by assumption)))) (hxx.below (by repeat (first | exact Below.refl _ _ | exact bA | assumption | refine Below.setCell ?_ (by first | omega | (simp; try omega)) _ | refine Below.alloc ?_ (by first | omega | (simp; try omega)) _ | refine Below.drew ?_ | refine bDN ?_ | refine bthen ?_ (by assumption))))).mono ?_
    rintro e w1 ⟨rfl, hb1⟩
    rw [hT]
    have hB1 : Below w.heap.size w w1 := bthen (by repeat (first | exact Below.refl _ _ | exact bA | assumption | refine Below.setCell ?_ (by first | omega | (simp; try omega)) _ | refine Below.alloc ?_ (by first | omega | (simp; try omega)) _ | refine Below.drew ?_ | refine bDN ?_ | refine bthen ?_ (by assumption))) hb1
    obtain ⟨q1, q2⟩ := bcell hb1
    have hz1 : w.heap.size + 2 ≤ w1.heap.size := by have := hb1.size; simp at this; omega
    go_wp2_with fail
    refine (fullDomains_any _ (ht.below (by repeat (first | exact Below.refl _ _ | exact bA | assumption | refine Below.setCell ?_ (by first | omega | (simp; try omega)) _ | refine Below.alloc ?_ (by first | omega | (simp; try omega)) _ | refine Below.drew ?_ | refine bDN ?_ | refine bthen ?_ (by assumption)))) (hxx.below (by repeat (first | exact Below.refl _ _ | exact bA | assumption | refine Below.setCell ?_ (by first | omega | (simp; try omega)) _ | refine Below.alloc ?_ (by first | omega | (simp; try omega)) _ | refine Below.drew ?_ | refine bDN ?_ | refine bthen ?_ (by assumption)))) (by omega) (by omega)).mono ?_
    rintro e w2 ⟨u, rfl, hf, hb2⟩
    obtain ⟨ad, cap, rfl⟩ := fr_slice hf
    have HF := Lib.hid hf
    clear hf
    go_wp2_with fail
    go_ret2
    exact ⟨.slice ad _ cap, by rw [HR.out.2]; rfl, by rw [HR.out.1]; exact HF.out.mono (by omega), bthen hB1 hb2⟩
set_option maxHeartbeats 1600000 in
set_option maxRecDepth 100000 in
theorem l05Full_any (w : World) {vt vx : Value} {t : Int × List (Int × List (List Int))} {x : Int × List (Int × List Int)} (hp : tplT.Pt w vt t) (hp' : instT.Pt w vx x) (ht : t.1 ≤ 1000000) (hx : x.1 ≤ 1000000) :
    Calls Try.prog 80 #[vt, vx] w (RetS rowsT w (fullL x.1.toNat t.1.toNat)) := by
  obtain ⟨b, o, ad, cap, rfl, hb, -, c0, -, -⟩ := pt_pair hp
  obtain ⟨b', o', ad', cap', rfl, hb', -, c0', -, -⟩ := pt_pair hp'
  clear hp hp'
  go_enter Try.func80, Try.ntmps80
  go_wp2_with fail
  go_loopw [6, 5] (fun i o wr => ∃ k : Nat, k ≤ x.1.toNat ∧ i = .int .i64 k ∧ Bl intsT 40 w.heap.size wr.heap.size wr o (fullL k t.1.toNat) ∧ Below w.heap.size w wr) (fun i _ _ => x.1.toNat - (intOf i).toNat)
  case atStart => exact ⟨0, Nat.zero_le _, rfl, by simpa [fullL] using Bl.lit0 (E := intsT) (e := 40) (w := w) (Nat.le_refl _), bA⟩
  case round =>
    obtain ⟨k, hk, rfl, hBl, hbel⟩ := hrel
    have HB := Lib.hid hBl
    clear hBl
    have hsz := hbel.size
    have d0 := (hbel.cell hb).trans c0
    have d0' := (hbel.cell hb').trans c0'
    by_cases hkl : (k : Int) < x.1
    · go_wp2_with fail
      refine (l03Count_any _ _ (by omega)).mono ?_
      rintro e w1 ⟨u, rfl, hf, hb1⟩
      obtain ⟨ad, cap, rfl⟩ := fr_slice hf
      have hz1 := hb1.size
      have HF := Lib.hid hf
      clear hf d0 d0' c0 c0'
      go_wp2_with (refine wpList_push (E := intsT) _ rfl _ _ 64 40 rfl elInt64SS rfl (HB.out.below (hb1.alloc hb1.size _) (Nat.le_refl _)) rfl news1 (HF.out.below bA) (by rw [fullL_len]; omega) (by decide) hbel.size (by simp; omega) ?_; intro v1 w2 hB1 hg1 _)
      have hbel1 : Below w.heap.size w w2 := ((hbel.trans (hb1.mono hbel.size)).alloc (by omega) _).grown hg1 (by simp; omega) (fun k hk => HB.out.own hk)
      rw [fullL_succ] at hB1
      have HB1 := Lib.hid hB1
      clear hB1
      go_wp2_with fail
      go_roundw
      case rel => exact ⟨k + 1, by omega, by go_num, HB1.out, hbel1⟩
      case measure => simp [intOf]; omega
    · obtain rfl : k = x.1.toNat := by omega
      go_wp2_with fail
      go_ret
      exact ⟨_, rfl, HB.out.fr (by rw [fullL_len]; unfold capMax; omega), hbel⟩
set_option maxHeartbeats 1600000 in
theorem specFullDomains_any (w : World) {cs cs' : Array Value} {t : Int × List (Int × List (List Int))} {x : Int × List (Int × List Int)} (h : tplT.Rd w cs.toList t) (h' : instT.Rd w cs'.toList x) :
    Calls Try.prog 33 #[.agg cs, .agg cs'] w (RetSC rowsT w (fullV t x) (fullC t x)) := by
  have p0 : tplT.Pt ((w.alloc (.cells cs 33)).alloc (.cells cs' 58)) (.pointer (some ⟨w.heap.size, 0, none⟩)) t := (pt_box h).below bA
  have p1 : instT.Pt ((w.alloc (.cells cs 33)).alloc (.cells cs' 58)) (.pointer (some ⟨w.heap.size + 1, 0, none⟩)) x := by
    simpa using pt_box (T := 58) (h'.below (bA (o := .cells cs 33)))
  obtain ⟨v, hv, hI, -⟩ := pair_ex h
  obtain rfl := agg_of hv
  obtain ⟨v', hv', hI', -⟩ := pair_ex h'
  obtain rfl := agg_of hv'
  clear h hv h' hv'
  cases hT : tb (instOk t x)
  · have HR := Lib.hid (full_1 hT)
    go_enter Try.func33, Try.ntmps33
    go_wp2_with fail
    refine (l05Ok_quiet _ p0 p1).mono ?_
    rintro e w1 ⟨rfl, hq1⟩
    rw [hT]
    have hB1 : Below w.heap.size w w1 := bthen (by repeat (first | exact Below.refl _ _ | exact bA | assumption | refine Below.setCell ?_ (by first | omega | (simp; try omega)) _ | refine Below.alloc ?_ (by first | omega | (simp; try omega)) _ | refine Below.drew ?_ | refine bDN ?_ | refine bthen ?_ (by assumption))) hq1.below
    go_wp2_with fail
    go_ret2
    exact ⟨.slice (some ⟨w1.heap.size, 0, none⟩) 0 0, by rw [HR.out.2]; rfl, by rw [HR.out.1]; exact fr_nil, hB1.alloc hB1.size _⟩
  · have HR := Lib.hid (full_0 hT)
    obtain ⟨g1, g2, g3, g4⟩ := inst_bd hT
    go_enter Try.func33, Try.ntmps33
    go_wp2_with fail
    refine (l05Ok_quiet _ p0 p1).mono ?_
    rintro e w1 ⟨rfl, hq1⟩
    rw [hT]
    have hb1 := hq1.below
    have hB1 : Below w.heap.size w w1 := bthen (by repeat (first | exact Below.refl _ _ | exact bA | assumption | refine Below.setCell ?_ (by first | omega | (simp; try omega)) _ | refine Below.alloc ?_ (by first | omega | (simp; try omega)) _ | refine Below.drew ?_ | refine bDN ?_ | refine bthen ?_ (by assumption))) hb1
    go_wp2_with fail
    refine (l05Full_any _ (p0.below hb1) (p1.below hb1) (by omega) (by omega)).mono ?_
    rintro e w2 ⟨u, rfl, hf, hb2⟩
    obtain ⟨ad, cap, rfl⟩ := fr_slice hf
    have hz1 := hB1.size
    have HF := Lib.hid hf
    clear hf
    go_wp2_with fail
    go_ret2
    exact ⟨.slice ad _ cap, by rw [HR.out.2]; rfl, by rw [HR.out.1]; exact HF.out.mono (by omega), bthen hB1 hb2⟩
end Go.Proofs.Ytadncmlfkoolkaa
