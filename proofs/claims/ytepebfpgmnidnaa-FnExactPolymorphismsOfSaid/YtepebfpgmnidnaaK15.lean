/-
  Contracts: hiding a variable of a formula: the program's.
-/
import Derived.Test.YtepebfpgmnidnaaK14
import Derived.Deep.RegionLaw
namespace Go.Proofs.Ytepebfpgmnidnaa
open Go.RowKit Go.Sort
theorem rnL_take {g : Int → Int} {xs : List (Int × List Int)} {k : Nat} (h : k < xs.length) : rnL g (xs.take k) ++ [((xs[k]).1, (xs[k]).2.map g)] = rnL g (xs.take (k + 1)) := by
  simp only [rnL]
  rw [List.take_succ_eq_append_getElem h, List.map_append]
  rfl
theorem rnL_len {g : Int → Int} {xs : List (Int × List Int)} : (rnL g xs).length = xs.length := by simp [rnL]
theorem map_take {g : Int → Int} {xs : List Int} {k : Nat} (h : k < xs.length) : (xs.take k).map g ++ [g xs[k]] = (xs.take (k + 1)).map g := by
  rw [List.take_succ_eq_append_getElem h, List.map_append]
  rfl
theorem size_set {w : World} {a : Addr} {u : Value} : (w.setCell a u).heap.size = w.heap.size := by simp [World.setCell]
theorem ex_slice {α : Type} {E : Ty α} {base : Nat} {w : World} {u : Value} {x : List α} (h : (Ty.slice E).Fr base w [u] x) : ∃ ad n cap, u = .slice ad n cap := let ⟨a, c, h⟩ := fr_slice h; ⟨a, _, c, h⟩
theorem rd_sl {α : Type} {E : Ty α} {w : World} {u : Value} {x : List α} (h : (Ty.slice E).Rd w [u] x) : ∃ ad n cap, u = .slice ad n cap := let ⟨a, c, h⟩ := rd_slice h; ⟨a, _, c, h⟩
set_option maxHeartbeats 3200000 in
set_option maxRecDepth 100000 in
theorem renamed_bl (w : World) {v : Value} {xs : List (Int × List Int)} (h : opsT.Rd w [v] xs) (g : Nat) (caps : Array Value) (eg : ∀ args w, (callFunc g args).run Try.prog w = .ok (.enter g args) w) (G : Int → Int)
    (hto : Hid (∀ W a, Below w.heap.size w W → (∃ c ∈ xs, a ∈ c.2) → Calls Try.prog g (#[.int .i64 a] ++ caps) W fun e w' => e = .returned (.int .i64 (G a)) ∧ W = w'))
    (hG : ∀ c ∈ xs, (∀ a ∈ c.2, I64 (G a)) ∧ c.2.length ≤ 1000000) (hlen : xs.length ≤ 1000000) :
    Calls Try.prog 138 #[v, .func (.func g) #[] caps] w fun e w' => ∃ u, e = .returned u ∧ Bl opT 105 w.heap.size w'.heap.size w' u (rnL G xs) ∧ Below w.heap.size w w' := by
  obtain ⟨ad, cap, hv, hl, hc, hcell⟩ := pairs_ex h
  obtain rfl : v = _ := by simpa using hv
  have HG := Lib.hid hG
  clear h hv hG
  go_enter Try.func138, Try.ntmps138
  go_wp2_with fail
  go_loopw [14, 5] (fun i o wr => ∃ k : Nat, k ≤ xs.length ∧ i = .int .i64 k ∧ Bl opT 105 w.heap.size wr.heap.size wr o (rnL G (xs.take k)) ∧ Below w.heap.size w wr) (fun i _ _ => xs.length - (intOf i).toNat)
  case atStart => exact ⟨0, Nat.zero_le _, rfl, by simpa [rnL] using Bl.lit0 (E := opT) (e := 105) (w := w) (Nat.le_refl _), bA⟩
  case round =>
    obtain ⟨k, hk, rfl, hBl, hbel⟩ := hrel
    have HB := Lib.hid hBl
    clear hBl
    by_cases hkl : k < xs.length
    · obtain ⟨b, o, rfl, hb, hce⟩ := hcell (by omega)
      obtain ⟨uk, huk, hIk, g0, g1⟩ := hce k hkl
      obtain ⟨ak, ck, huv, hkl2, hkl3, hkc⟩ := ints_ex huk
      obtain rfl : uk = _ := by simpa using huv
      have d0 := (hbel.cell hb).trans g0
      have d1 := (hbel.cell hb).trans g1
      have hgk := HG.out xs[k] (List.getElem_mem hkl)
      have hsz := hbel.size
      have HR := Lib.hid (rnL_take (g := G) hkl)
      clear hcell hce huk huv g0 g1
      obtain ⟨wo, rfl⟩ : ∃ wo : World, wo = wr := ⟨_, rfl⟩
      go_wp2_with fail
      generalize hW2 : (wo.alloc _).alloc _ = W2
      have hbW : Below wo.heap.size wo W2 := hW2 ▸ bAA
      have hs2 : W2.heap.size = wo.heap.size + 2 := by rw [← hW2]; simp
      have x0 : W2.cell? ⟨wo.heap.size + 1, 0, none⟩ = some (.int .i64 (xs[k]).1) := by rw [← hW2]; simp
      have x1 : W2.cell? ⟨wo.heap.size + 1, 1, none⟩ = some (.slice none 0 0) := by rw [← hW2]; simp
      have x2 : W2.frozen? ⟨wo.heap.size + 1, 1, none⟩ = false := by rw [← hW2]; simp
      clear hW2
      go_loopw [24] (fun i wr => ∃ (j : Nat) (v : Value), j ≤ (xs[k]).2.length ∧ i = .int .i64 j ∧ Bl Ty.int 2 (wo.heap.size + 2) wr.heap.size wr v (((xs[k]).2.take j).map G) ∧ wr.cell? ⟨wo.heap.size + 1, 1, none⟩ = some v ∧ wr.cell? ⟨wo.heap.size + 1, 0, none⟩ = some (.int .i64 (xs[k]).1) ∧ wr.frozen? ⟨wo.heap.size + 1, 1, none⟩ = false ∧ Below (wo.heap.size + 1) W2 wr ∧ wo.heap.size + 2 ≤ wr.heap.size) (fun i _ => (xs[k]).2.length - (intOf i).toNat)
      case atStart => exact ⟨0, _, Nat.zero_le _, rfl, by simpa using Bl.nil, x1, x0, x2, Below.refl _ _, by omega⟩
      case round =>
        obtain ⟨j, v, hj, rfl, hBv, y1, y0, y2, hbe, hse⟩ := hrel
        have hbo : Below wo.heap.size wo wr := hbW.trans (hbe.mono (by omega))
        have hbw : Below w.heap.size w wr := bthen hbel hbo
        by_cases hjl : j < (xs[k]).2.length
        · obtain ⟨bk, ok, rfl, hbk, hck⟩ := hkc (by omega)
          have e0 := (hbw.cell hbk).trans (hck j hjl).2
          have hGI := hgk.1 _ (List.getElem_mem hjl)
          obtain ⟨av0, nv0, cv0, rfl⟩ := ex_slice (hBv.fr (by rw [List.length_map, take_len hj]; unfold capMax; omega))
          have HBv := Lib.hid hBv
          have HMT := Lib.hid (map_take (g := G) hjl)
          have hin : ∃ c ∈ xs, (xs[k]).2[j] ∈ c.2 := ⟨_, List.getElem_mem hkl, List.getElem_mem hjl⟩
          have HIN := Lib.hid hin
          have HGI := Lib.hid hGI
          have hgl := hgk.2
          clear hkc hck hBv hin hGI hgk
          go_wp2_with fail
          have z1 : wr.drew.cell? ⟨wo.heap.size + 1, 1, none⟩ = some (.slice av0 nv0 cv0) := y1
          have z2 : wr.drew.frozen? ⟨wo.heap.size + 1, 1, none⟩ = false := y2
          have z9 : wo.heap.size + 1 < wr.heap.size := by omega
          go_region_law
            (first
              | (refine step_push (E := Ty.int) _ rfl _ _ 62 2 rfl elInt rfl (HBv.out.below (bD.alloc (by simp) _) (Nat.le_refl _)) rfl news1 (fr_int HGI.out) (by rw [List.length_map, take_len hj]; omega) (by decide) hse (by simp) ?_; intro v1 wz hB1 hg1 _; obtain ⟨a1, n1, c1, rfl⟩ := ex_slice (hB1.fr (by rw [List.length_append, List.length_map, take_len hj]; unfold capMax; simp; omega)); have hbz : Below (wo.heap.size + 2) wr wz := (((bD (w := wr)).alloc (by simp) _).mono hse).grown hg1 (by simp; omega) (fun q hq => HBv.out.own hq); have z3 := (hbz.cell (show wo.heap.size + 1 < wo.heap.size + 2 by omega)).trans y1; have z4 := (hbz.frozen (show wo.heap.size + 1 < wo.heap.size + 2 by omega)).trans y2; have z5 := (hbz.cell (show wo.heap.size + 1 < wo.heap.size + 2 by omega)).trans y0; have HB1 := Lib.hid hB1; clear hB1)
              | (go_simp; refine (hto.out _ _ (hbw.trans (bD.mono hbw.size)) HIN.out).mono ?_; rintro e w' ⟨rfl, rfl⟩; dsimp only))
          all_goals
            have hbl := HB1.out
            rw [HMT.out] at hbl
            have HBL := Lib.hid hbl
            have hz5 := hbz.size
            clear hbl HB1
            go_simp
            go_wp2_with fail
            go_roundw
            case rel => exact ⟨j + 1, _, by omega, by go_num, by rw [size_set]; exact HBL.out.sameB (fun q hq1 hq2 => Below.heap_setCell _ _ _ _ (by simp; omega)), World.cell?_setCell_same _ _ _ z3, (World.cell?_setCell_other _ _ _ _ (by simp)).trans z5, (World.frozen?_setCell _ _ _ _).trans z4, (hbe.trans (hbz.mono (by omega))).setCell (by simp) _, by rw [size_set]; omega⟩
            case measure => simp [intOf]; omega
        · obtain rfl : j = (xs[k]).2.length := by omega
          rw [List.take_length] at hBv
          have hgl := hgk.2
          have hfv := hBv.fr (by rw [List.length_map]; unfold capMax; omega)
          obtain ⟨av, nv, cv, rfl⟩ := ex_slice hfv
          have HF := Lib.hid hfv
          have hzo := hbo.size
          clear hfv hBv hkc hgk
          go_wp2_with (refine wpList_push (E := opT) _ rfl _ _ 30 105 rfl elAtomS rfl (HB.out.below (hbo.alloc hbo.size _) (Nat.le_refl _)) rfl news2 ((fr_cons hIk (HF.out.below bA)).mono (by omega)) (by rw [rnL_len (g := G), take_len hk]; omega) (by decide) hsz (by simp; omega) ?_; intro v1 w2 hB1 hg1 _)
          have hbel1 : Below w.heap.size w w2 := (hbw.alloc hbw.size _).grown hg1 (by have := hbw.size; simp; omega) (fun k hk => HB.out.own hk)
          have hB1' : Bl opT 105 w.heap.size w2.heap.size w2 v1 (rnL G (xs.take k) ++ [((xs[k]).1, (xs[k]).2.map G)]) := hB1
          rw [HR.out] at hB1'
          have HB1 := Lib.hid hB1'
          clear hB1 hB1'
          go_wp2_with fail
          go_roundw
          case rel => exact ⟨k + 1, by omega, by go_num, HB1.out, hbel1⟩
          case measure => simp [intOf]; omega
    · obtain rfl : k = xs.length := by omega
      go_wp2_with fail
      go_ret
      rw [List.take_length] at HB
      exact ⟨_, rfl, HB.out, hbel⟩
theorem renamed_any (w : World) {v : Value} {xs : List (Int × List Int)} (h : opsT.Rd w [v] xs) (g : Nat) (caps : Array Value) (eg : ∀ args w, (callFunc g args).run Try.prog w = .ok (.enter g args) w) (G : Int → Int)
    (hto : Hid (∀ W a, Below w.heap.size w W → (∃ c ∈ xs, a ∈ c.2) → Calls Try.prog g (#[.int .i64 a] ++ caps) W fun e w' => e = .returned (.int .i64 (G a)) ∧ W = w'))
    (hG : ∀ c ∈ xs, (∀ a ∈ c.2, I64 (G a)) ∧ c.2.length ≤ 1000000) (hlen : xs.length ≤ 1000000) :
    Calls Try.prog 138 #[v, .func (.func g) #[] caps] w (RetS opsT w (rnL G xs)) :=
  (renamed_bl w h g caps eg G hto hG hlen).mono fun _ _ ⟨u, he, hB, hb⟩ => ⟨u, he, hB.fr (by rw [rnL_len]; unfold capMax; omega), hb⟩
end Go.Proofs.Ytepebfpgmnidnaa
