/-
  Contracts: the tuple that an operation makes of tuples, the reference's.
-/
import Derived.Test.YtigclobkmocfkaaK23
import Derived.Test.YtigclobkmocfkaaK9
namespace Go.Proofs.Ytigclobkmocfkaa
open Go.RowKit Go.Sort
theorem madeL_succ (s : Int) (tab : List Int) (ts : List (List Int)) (m : Nat) : madeL s tab ts m ++ [madeV s tab ts m] = madeL s tab ts (m + 1) := by simp [madeL, List.range_succ]
theorem sl_ex {α : Type} {E : Ty α} {base : Nat} {w : World} {u : Value} {x : List α} (h : (Ty.slice E).Fr base w [u] x) : ∃ ad n cap, u = .slice ad n cap := let ⟨a, c, h⟩ := fr_slice h; ⟨a, _, c, h⟩
set_option maxHeartbeats 1600000 in
theorem l02Value_quiet (w : World) {v : Value} {f : Int × List Int} (h : opT.Pt w v f) {u : Value} {xs : List Int} (hu : intsT.Rd w [u] xs) {s : Int} (hs : 1 ≤ s) (hs1 : s ≤ 1000) (hl5 : xs.length ≤ 5) (hin : ∀ a ∈ xs, 0 ≤ a ∧ a ≤ s - 1) {k : Nat} (hk : idxL s 0 xs = k) (hkl : k < f.2.length) :
    Calls Try.prog 238 #[.int .i64 s, v, u] w fun e w' => e = .returned (.int .i64 f.2[k]) ∧ Quiet w w' := by
  obtain ⟨b, o, ad, cap, rfl, hb, -, c0, c1, hx⟩ := pt_pair h
  obtain ⟨_, _, e1, -, -, hcell⟩ := ints_ex hx
  simp only [List.cons.injEq, Value.slice.injEq, and_true, true_and] at e1
  obtain ⟨rfl, rfl⟩ := e1
  obtain ⟨tb0, to0, rfl, htb, hte⟩ := hcell (by omega)
  have t0 := (hte k hkl).2
  have cC : ∀ n, Calls Try.prog 124 #[.int .i64 s, u] (w.drewN n) fun e w'' => e = .returned (.int .i64 k) ∧ ∃ m, w'' = w.drewN m := fun n => by
    have := pure_drawn (l01Code_any (w.drewN n) s (hu.below (Quiet.drewN w n).below) hs hs1 hl5 hin)
    rw [hk] at this
    exact this
  clear h hx hcell hte hu
  go_enter Try.func238, Try.ntmps238
  go_wp2_with fail
  go_quiet (exact cC _)
  go_wp2_with fail
  go_ret
  exact ⟨rfl, (by first | exact Quiet.refl _ | exact Quiet.drewN _ _ | exact (Quiet.drewN _ _).then (Quiet.drewN _ _) | exact ((Quiet.drewN _ _).then (Quiet.drewN _ _)).then (Quiet.drewN _ _))⟩
set_option maxHeartbeats 3200000 in
set_option maxRecDepth 100000 in
theorem l02Make_any (w : World) {fv : Value} {f : Int × List Int} (h : opT.Pt w fv f) {v : Value} {ts : List (List Int)} (h' : rowsT.Rd w [v] ts) {s : Int} {m : Nat} (hf : opOk s f) (ht : tupsOk s f.1 m ts) (hm : m ≤ 1000) :
    Calls Try.prog 228 #[.int .i64 s, fv, v] w (RetS intsT w (madeL s f.2 ts m)) := by
  obtain ⟨ad, cap, hvv, -, hL, hcell⟩ := slices_ex h'
  obtain rfl : v = _ := by simpa using hvv
  have hn : (ts.length : Int) = f.1 := ht.1
  have hs := hf.1
  have ha := hf.2.1
  unfold sizeOk at hs
  have h0 : 0 < ts.length := by omega
  obtain ⟨b, o, rfl, hb, hce⟩ := hcell h0
  obtain ⟨u0, hu0, hc0⟩ := hce 0 h0
  obtain ⟨a0, c0, rfl⟩ := rd_slice hu0
  have hm0 : (ts[0]).length = m := (ht.2 _ (List.getElem_mem h0)).1
  rw [hm0] at hc0
  have hc0' : w.cell? ⟨b, o, none⟩ = some (.slice a0 m c0) := hc0
  have HF := Lib.hid hf
  have HT := Lib.hid ht
  have HC := Lib.hid hce
  have HP := Lib.hid h
  obtain ⟨fb, fo, _, _, rfl, -⟩ := pt_pair h
  clear h h' hvv hf ht hcell hce hu0 hc0
  go_enter Try.func228, Try.ntmps228
  go_wp2_with fail
  go_loopw [8, 7] (fun i q wr => ∃ p : Nat, p ≤ m ∧ i = .int .i64 p ∧ Bl Ty.int 2 w.heap.size wr.heap.size wr q (madeL s f.2 ts p) ∧ Below w.heap.size w wr) (fun i _ _ => m - (intOf i).toNat)
  case atStart => exact ⟨0, Nat.zero_le _, rfl, by simpa [madeL] using Bl.lit0 (E := Ty.int) (e := 2) (w := w) (Nat.le_refl _), bA⟩
  case round =>
    obtain ⟨p, hp, rfl, hBl, hbel⟩ := hrel
    have HB := Lib.hid hBl
    have y0 := (hbel.cell hb).trans hc0'
    clear hBl
    by_cases hpl : p < m
    · obtain ⟨kk, hkk, hkl2, hmv⟩ := madeV_get HF.out HT.out hpl
      have HKK := Lib.hid hkk
      have HMV := Lib.hid hmv
      have hsz := hbel.size
      clear hkk hmv
      obtain ⟨wo, rfl⟩ : ∃ wo : World, wo = wr := ⟨_, rfl⟩
      go_wp2_with fail
      go_loopw [10, 9] (fun i q wr => ∃ k : Nat, k ≤ ts.length ∧ i = .int .i64 k ∧ Bl Ty.int 2 wo.heap.size wr.heap.size wr q ((colL ts p).take k) ∧ Below wo.heap.size wo wr) (fun i _ _ => ts.length - (intOf i).toNat)
      case atStart => exact ⟨0, Nat.zero_le _, rfl, by simpa using Bl.lit0 (E := Ty.int) (e := 2) (w := wo) (Nat.le_refl _), bA⟩
      case round =>
        obtain ⟨k, hk, rfl, hBi, hbi⟩ := hrel
        have HBi := Lib.hid hBi
        have hbw : Below w.heap.size w wr := bthen hbel hbi
        have hsi := hbi.size
        clear hBi
        by_cases hkl : k < ts.length
        · obtain ⟨uk, huk, hck⟩ := HC.out k hkl
          obtain ⟨ak, ck, huv, -, -, hkc⟩ := ints_ex huk
          obtain rfl : uk = _ := by simpa using huv
          have hlk : (ts[k]).length = m := (HT.out.2 _ (List.getElem_mem hkl)).1
          obtain ⟨bk, ok, rfl, hbk, hkce⟩ := hkc (by omega)
          have e0 := (hbw.cell hb).trans hck
          have e1 := (hbw.cell hbk).trans (hkce p (by omega)).2
          have hI1 := (hkce p (by omega)).1
          have hpk : p < (ts[k]).length := by omega
          have hcl : k < (colL ts p).length := by rw [colL_len]; exact hkl
          have HTK : Hid ((colL ts p).take k ++ [(ts[k])[p]] = (colL ts p).take (k + 1)) := by
            unfold Hid
            rw [← colL_get hkl hpk hcl]; exact take_snoc hcl
          clear hkc hkce huv huk hck
          go_wp2_with (refine wpList_push (E := Ty.int) _ rfl _ _ 25 2 rfl elInt rfl (HBi.out.below bA (Nat.le_refl _)) rfl news1 (fr_int hI1) (by rw [List.length_take]; omega) (by decide) hsi (by simp) ?_; intro v1 w3 hB3 hg1 _)
          have hbel1 : Below wo.heap.size wo w3 := (hbi.alloc hbi.size _).grown hg1 (by simp; omega) (fun k hk => HBi.out.own hk)
          rw [HTK.out] at hB3
          have HB3 := Lib.hid hB3
          clear hB3
          go_wp2_with fail
          go_roundw
          case rel => exact ⟨k + 1, by omega, by go_num, HB3.out, hbel1⟩
          case measure => simp [intOf]; omega
        · obtain rfl : k = ts.length := by omega
          have hfi := HBi.out.fr (by rw [List.length_take]; unfold capMax; omega)
          rw [List.take_of_length_le (by rw [colL_len]; exact Nat.le_refl _)] at hfi
          obtain ⟨aq, nq, cq, rfl⟩ := sl_ex hfi
          have HQ := Lib.hid hfi.rd
          have HIN := Lib.hid (colL_in HT.out hpl)
          have hl5 : (colL ts p).length ≤ 5 := by rw [colL_len]; omega
          clear hfi
          go_wp2_with fail
          refine (l02Value_quiet _ (HP.out.below hbw) HQ.out (by omega) (by omega) hl5 HIN.out HKK.out hkl2).mono ?_
          rintro e w4 ⟨rfl, hq4⟩
          have hb4 := hq4.below
          have hbo : Below wo.heap.size wo w4 := bthen hbi hb4
          have hI4 : I64 f.2[kk] := I64.small (by have := HF.out.2.2.2 _ (List.getElem_mem hkl2); omega) (by have := HF.out.2.2.2 _ (List.getElem_mem hkl2); omega)
          have hz4 := hbo.size
          go_wp2_with (refine wpList_push (E := Ty.int) _ rfl _ _ 25 2 rfl elInt rfl (HB.out.below (hbo.alloc hbo.size _) (Nat.le_refl _)) rfl news1 (fr_int hI4) (by rw [madeL_len]; omega) (by decide) hsz (by simp; omega) ?_; intro v5 w5 hB5 hg5 _)
          have hbel5 : Below w.heap.size w w5 := ((hbel.trans (hbo.mono hsz)).alloc (by omega) _).grown hg5 (by simp; omega) (fun k hk => HB.out.own hk)
          rw [← HMV.out, madeL_succ] at hB5
          have HB5 := Lib.hid hB5
          clear hB5
          go_wp2_with fail
          go_roundw
          case rel => exact ⟨p + 1, by omega, by go_num, HB5.out, hbel5⟩
          case measure => simp [intOf]; omega
    · obtain rfl : p = m := by omega
      go_wp2_with fail
      go_ret
      exact ⟨_, rfl, HB.out.fr (by rw [madeL_len]; unfold capMax; omega), hbel⟩
end Go.Proofs.Ytigclobkmocfkaa
