/-
  Contracts: the tuple that an operation makes of tuples.
-/
import Derived.Test.YtigclobkmocfkaaK22
namespace Go.Proofs.Ytigclobkmocfkaa
open Go.RowKit Go.Sort
/-- the values of tuples at a place -/
def colL (ts : List (List Int)) (p : Nat) : List Int := ts.map fun t => t.getD p 0
def madeV (s : Int) (tab : List Int) (ts : List (List Int)) (p : Nat) : Int := tab.getD (idxL s 0 (colL ts p)).toNat 0
def madeL (s : Int) (tab : List Int) (ts : List (List Int)) (m : Nat) : List Int := (List.range m).map fun p => madeV s tab ts p
theorem colL_len {ts : List (List Int)} {p : Nat} : (colL ts p).length = ts.length := by simp [colL]
theorem colL_get {ts : List (List Int)} {p k : Nat} (h : k < ts.length) (hp : p < (ts[k]).length) (h' : k < (colL ts p).length) : (colL ts p)[k] = (ts[k])[p] := by
  simp [colL, List.getD_eq_getElem?_getD, hp]
theorem madeL_len {s : Int} {tab : List Int} {ts : List (List Int)} {m : Nat} : (madeL s tab ts m).length = m := by simp [madeL]
/-- tuples that an operation may be applied to -/
def tupsOk (s ar : Int) (m : Nat) (ts : List (List Int)) : Prop := (ts.length : Int) = ar ∧ ∀ t ∈ ts, t.length = m ∧ ∀ a ∈ t, 0 ≤ a ∧ a ≤ s - 1
theorem colL_in {s ar : Int} {m p : Nat} {ts : List (List Int)} (h : tupsOk s ar m ts) (hp : p < m) : ∀ a ∈ colL ts p, 0 ≤ a ∧ a ≤ s - 1 := by
  intro a ha
  obtain ⟨t, ht, rfl⟩ := List.mem_map.1 ha
  obtain ⟨h1, h2⟩ := h.2 t ht
  have hl : p < t.length := by omega
  rw [List.getD_eq_getElem?_getD, List.getElem?_eq_getElem hl]
  exact h2 _ (List.getElem_mem hl)
/-- the index lies in the table, and what stands there -/
theorem madeV_get {s : Int} {f : Int × List Int} {ts : List (List Int)} {m p : Nat} (hf : opOk s f) (ht : tupsOk s f.1 m ts) (hp : p < m) :
    ∃ k : Nat, idxL s 0 (colL ts p) = k ∧ ∃ h : k < f.2.length, madeV s f.2 ts p = f.2[k] := by
  obtain ⟨⟨h1, h2⟩, ⟨h3, h4⟩, h5, h6⟩ := hf
  have hb := idx_bd h1 (colL_in ht hp) (colL ts p).length (Nat.le_refl _)
  rw [List.take_length, colL_len] at hb
  have hl := ht.1
  have he : s ^ ts.length = f.2.length := by rw [h5, ← hl, Int.toNat_natCast]
  rw [he] at hb
  refine ⟨(idxL s 0 (colL ts p)).toNat, by omega, by omega, ?_⟩
  have hk : (idxL s 0 (colL ts p)).toNat < f.2.length := by omega
  rw [madeV, List.getD_eq_getElem?_getD, List.getElem?_eq_getElem hk]
  rfl
set_option maxHeartbeats 1600000 in
set_option maxRecDepth 100000 in
theorem made_any (w : World) {cs : Array Value} {f : Int × List Int} (h : opT.Rd w cs.toList f) {v : Value} {ts : List (List Int)} (h' : rowsT.Rd w [v] ts) {s : Int} {m : Nat} (hf : opOk s f) (ht : tupsOk s f.1 m ts) (hm : m ≤ 1000) :
    Calls Try.prog 231 #[.int .i64 s, .agg cs, v] w fun e w' => ∃ g, e = .returned (.slice (some ⟨g, 0, none⟩) m m) ∧ intsT.Fr w.heap.size w' [.slice (some ⟨g, 0, none⟩) m m] (madeL s f.2 ts m) ∧ Below w.heap.size w w' := by
  obtain ⟨u, hv, hI, hx⟩ := pair_ex h
  obtain rfl := agg_of hv
  obtain ⟨tad, tcap, htv, -, -, htc⟩ := ints_ex hx
  obtain rfl : u = _ := by simpa using htv
  obtain ⟨ad, cap, hvv, -, hL, hcell⟩ := slices_ex h'
  obtain rfl : v = _ := by simpa using hvv
  have hn : (ts.length : Int) = f.1 := ht.1
  have hs := hf.1
  have ha := hf.2.1
  unfold sizeOk at hs
  have h0 : 0 < ts.length := by omega
  obtain ⟨b, o, rfl, hb, hce⟩ := hcell h0
  obtain ⟨u0, hu0, hc0⟩ := hce 0 h0
  obtain ⟨a0, c0, rfl⟩ := rd_slice hu0
  have hm0 : (ts[0]).length = m := (ht.2 _ (List.getElem_mem h0)).1
  rw [hm0] at hc0
  have hc0' : w.cell? ⟨b, o, none⟩ = some (.slice a0 m c0) := hc0
  have HF := Lib.hid hf
  have HT := Lib.hid ht
  have HC := Lib.hid hce
  have HTC := Lib.hid htc
  clear h h' hv htv hvv hf ht hcell hce htc hu0 hx hc0
  go_enter Try.func231, Try.ntmps231
  go_wp2_with (refine wpList_mkI _ rfl _ _ 25 2 rfl Try.underlying25 infoInt (w.heap.size + 1) m rfl rfl (by omega) (by decide) (by simp) ?_; intro w1 hA hg1 hs1)
  have hA' : IR 2 (w.heap.size + 1) w1 (w.heap.size + 1) m m (List.replicate m 0) := by simpa using hA
  have hb1 : Below w.heap.size w w1 := bthen bA (below_of_grown hg1)
  have x1 : w1.cell? ⟨w.heap.size, 1, none⟩ = some (.slice tad f.2.length tcap) := ((below_of_grown hg1).cell (by simp)).trans (by simp)
  have hsz1 : w1.heap.size = w.heap.size + 2 := by simpa using hs1
  clear hA hg1 hs1
  go_loopw [19] (fun i wr => ∃ (p : Nat) (L : List Int), p ≤ m ∧ i = .int .i64 p ∧ IR 2 (w.heap.size + 1) wr (w.heap.size + 1) m m L ∧ (∀ (j : Nat) (h : j < L.length), j < p → L[j] = madeV s f.2 ts j) ∧ Below w.heap.size w wr ∧ wr.cell? ⟨w.heap.size, 1, none⟩ = some (.slice tad f.2.length tcap)) (fun i _ => m - (intOf i).toNat)
  case atStart => exact ⟨0, _, Nat.zero_le _, rfl, hA', fun j h hj => absurd hj (Nat.not_lt_zero j), hb1, x1⟩
  case round =>
    obtain ⟨p, L, hp, rfl, hIR, hL, hbel, y1⟩ := hrel
    have hLl := hIR.1
    have HIR := Lib.hid hIR
    have HLL := Lib.hid hL
    clear hIR hL hA'
    by_cases hpl : p < m
    · obtain ⟨kk, hkk, hkl2, hmv⟩ := madeV_get HF.out HT.out hpl
      obtain ⟨tb0, to0, rfl, htb, hte⟩ := HTC.out (by omega)
      have t0 := (hbel.cell htb).trans (hte kk hkl2).2
      have hIv := (hte kk hkl2).1
      obtain ⟨w0, d0⟩ := HIR.out.cell hpl
      have d1 := HIR.out.free p
      have hg := HIR.out.lt
      have HIS := Lib.hid (HIR.out.set p hIv)
      have HKK := Lib.hid hkk
      have HMV := Lib.hid hmv
      have HTE := Lib.hid hte
      clear hte hkk hmv
      go_wp2_with fail
      go_loop [24, 9] (fun i q => ∃ k : Nat, k ≤ ts.length ∧ i = .int .i64 k ∧ q = .int .i64 (idxL s 0 ((colL ts p).take k))) (fun i _ => ts.length - (intOf i).toNat)
      case atStart => exact ⟨0, Nat.zero_le _, rfl, by simp [idxL]⟩
      case round =>
        obtain ⟨k, hk, rfl, rfl⟩ := hrel
        by_cases hkl : k < ts.length
        · obtain ⟨uk, huk, hck⟩ := HC.out k hkl
          obtain ⟨ak, ck, huv, -, -, hkc⟩ := ints_ex huk
          obtain rfl : uk = _ := by simpa using huv
          have hlk : (ts[k]).length = m := (HT.out.2 _ (List.getElem_mem hkl)).1
          obtain ⟨bk, ok, rfl, hbk, hkce⟩ := hkc (by omega)
          have e0 := (hbel.cell hb).trans hck
          have e1 := (hbel.cell hbk).trans (hkce p (by omega)).2
          have hpk : p < (ts[k]).length := by omega
          have hcl : k < (colL ts p).length := by rw [colL_len]; exact hkl
          have hin := colL_in HT.out hpl
          have b0 := idx_bd (by omega) hin k (by omega)
          have b1 := idx_bd (by omega) hin (k + 1) hcl
          have p0 := pow_le (s := s) (by omega) (by omega) (k := k + 1) (by omega)
          have hr := idxL_take (s := s) hcl
          rw [colL_get hkl hpk hcl] at hr
          have HM : Hid (wrap64 (wrap64 (idxL s 0 ((colL ts p).take k) * s) + (ts[k])[p]) = idxL s 0 ((colL ts p).take (k + 1))) := by
            unfold Hid
            have hq := Int.mul_nonneg b0.1 (show (0 : Int) ≤ s by omega)
            have hxx := hin _ (List.getElem_mem hcl)
            rw [colL_get hkl hpk hcl] at hxx
            rw [hr] at b1 ⊢
            generalize s ^ (k + 1) = P at *
            generalize idxL s 0 ((colL ts p).take k) * s = Q at *
            rw [wrap64_id (n := Q) (by omega) (by omega), wrap64_id (by omega) (by omega)]
          clear hkc hkce huv huk hck b0 b1 p0 hr hin
          go_wp2_with fail
          go_round
          case rel => exact ⟨k + 1, by omega, by go_num, by first | exact congrArg _ HM.out | (rw [← HM.out]; go_num)⟩
          case measure => simp [intOf]; omega
        · obtain rfl : k = ts.length := by omega
          have hfull : idxL s 0 ((colL ts p).take ts.length) = kk := by rw [List.take_of_length_le (by rw [colL_len]; exact Nat.le_refl _)]; exact HKK.out
          rw [hfull]
          go_wp2_with fail
          refine ⟨⟨p + 1, L.set p (f.2[kk]), by omega, congrArg _ (by omega), HIS.out, fun j h hj => ?_, hbel.setCell (by simp) _, (World.cell?_setCell_other _ _ _ _ (by simp)).trans y1⟩, by simp [intOf]; omega⟩
          by_cases e : p = j
          · subst e
            rw [List.getElem_set_self]
            exact HMV.out.symm
          · rw [List.getElem_set_ne e]
            exact HLL.out j (by simpa using h) (by omega)
    · obtain rfl : p = m := by omega
      have hfr := Lib.hid (HIR.out.fr (by unfold capMax; omega))
      have HE : Hid (L = madeL s f.2 ts p) := List.ext_getElem (by rw [hLl, madeL_len]) fun j h h' => by rw [HLL.out j h (by omega)]; simp [madeL]
      go_wp2_with fail
      go_ret
      exact ⟨w.heap.size + 1, rfl, by rw [← HE.out]; exact hfr.out.mono (by omega), hbel⟩
end Go.Proofs.Ytigclobkmocfkaa
