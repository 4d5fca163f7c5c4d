/-
  Contracts: the reference's parts of a formula made simpler, with where their data lie; small lemmas for it.
-/
import Derived.Test.YtepebfpgmnidnaaM0
import Derived.Test.YtepebfpgmnidnaaK37
namespace Go.Proofs.Ytepebfpgmnidnaa
open Go.RowKit Go.Sort
theorem pt_trip_mk {α : Type} {E : Ty α} {w : World} {b : Nat} {n m : Int} {v : Value} {x : List α} (hb : b < w.heap.size) (hn : I64 n) (hm : I64 m) (c0 : w.cell? ⟨b, 0, none⟩ = some (.int .i64 n)) (c1 : w.cell? ⟨b, 1, none⟩ = some (.int .i64 m)) (c2 : w.cell? ⟨b, 2, none⟩ = some v) (h : (Ty.slice E).Rd w [v] x) :
    (Ty.cons (Ty.cons (Ty.slice E))).Pt w (.pointer (some ⟨b, 0, none⟩)) (n, m, x) := by
  refine ⟨b, 0, _, rfl, hb, trip_mk hn hm h, fun j hj => ?_⟩
  rcases (show j = 0 ∨ j = 1 ∨ j = 2 by simp at hj; omega) with rfl | rfl | rfl
  · exact c0
  · exact c1
  · exact c2
theorem rdP_set {α : Type} {E : Ty α} {w : World} {b i : Nat} {u : Value} {cs : List Value} {x : α} (h : E.RdP (fun k => k ≠ b) w cs x) : E.RdP (fun k => k ≠ b) (w.setCell ⟨b, i, none⟩ u) cs x :=
  h.tch (O := [b]) (TchF.setCell (List.mem_singleton.2 rfl) _ _ _) (fun k _ hk hm => hk (List.mem_singleton.1 hm))
theorem rdP_set3 {α : Type} {E : Ty α} {w : World} {b : Nat} {u0 u1 u2 : Value} {cs : List Value} {x : α} (h : E.RdP (fun k => k ≠ b) w cs x) : E.RdP (fun k => k ≠ b) (set3 w b u0 u1 u2) cs x := rdP_set (rdP_set (rdP_set h))
theorem rdP_lt {α : Type} {E : Ty α} {w : World} {b : Nat} {cs : List Value} {x : α} (h : E.Rd w cs x) (hb : w.heap.size ≤ b) : E.RdP (fun k => k ≠ b) w cs x := h.P.mono (fun _ h1 _ => by omega)
theorem rdP_fr {α : Type} {E : Ty α} {w : World} {b base : Nat} {cs : List Value} {x : α} (h : E.Fr base w cs x) (hb : b < base) : E.RdP (fun k => k ≠ b) w cs x :=
  let ⟨fp, h1, _, h3, _⟩ := h; ⟨fp, h1, fun k hk => by have := h3 k hk; omega⟩
theorem bl_IR {e base top : Nat} {w : World} {ad : Option Addr} {n cap : Nat} {ys : List Int} (h : Bl Ty.int e base top w (.slice ad n cap) ys) (h0 : 0 < ys.length) : n = ys.length ∧ ∃ g, ad = some ⟨g, 0, none⟩ ∧ IR e base w g ys.length cap ys := by
  obtain ⟨L, fps, h1, h2, h3, h4, h5, h6⟩ := h
  rcases h1.2 with ⟨_, h⟩ | ⟨g, cap', cur, hv, hg, hh, hn, hc, hcs, hL⟩
  · omega
  · simp only [Value.slice.injEq] at hv
    obtain ⟨rfl, rfl, rfl⟩ := hv
    have hLe : L = ys.map (Value.int .i64) := by
      have hl : L.length = ys.length := by rw [h1.1]; simp [Ty.int]
      refine List.ext_getElem (by simp [hl]) fun i hi hi' => ?_
      obtain ⟨cs, ⟨rfl, _, _⟩, h8⟩ := h2 i (by omega)
      have := h8 0 (by simp)
      simp only [Ty.int, Nat.mul_one, Nat.add_zero, List.getElem_cons_zero] at this
      rw [List.getElem?_eq_getElem hi] at this
      rw [List.getElem_map]
      exact Option.some.inj this
    refine ⟨rfl, g, rfl, rfl, fun a ha => ?_, hg, hLe ▸ h1⟩
    obtain ⟨i, hi, rfl⟩ := List.mem_iff_getElem.1 ha
    obtain ⟨cs, ⟨_, h7, _⟩, _⟩ := h2 i hi
    exact h7
theorem toNat_subN {n k : Nat} : ((n : Int) - (k : Int)).toNat = n - k := by omega
theorem set_upL {lo : Int} {hi n : Nat} (h : hi < n) : (upL 0 n).set hi lo = toL (subTo lo (hi : Int)) n := by
  apply List.ext_getElem
  · rw [List.length_set, upL_len, toL_len]
  · intro i h1 h2
    rw [toL_len] at h2
    have e2 : (toL (subTo lo (hi : Int)) n)[i]'(by rw [toL_len]; exact h2) = subTo lo (hi : Int) (i : Int) := by simp [toL]
    rw [e2]
    by_cases e : hi = i
    · subst e
      rw [List.getElem_set_self, sub_eq rfl]
    · rw [List.getElem_set_ne e, sub_ne (by omega)]
      simp [upL]
theorem num_start {fr : Nat} {left : Atoms} : upL 0 fr = toL (numTo fr left) fr := by
  apply List.ext_getElem
  · rw [upL_len, toL_len]
  · intro i h1 h2
    rw [toL_len] at h2
    have e : (upL 0 fr)[i] = (i : Int) := by simp [upL]
    have e2 : (toL (numTo fr left) fr)[i]'(by rw [toL_len]; exact h2) = numTo fr left (i : Int) := by simp [toL]
    rw [e, e2, num_lt (by omega)]
theorem num_snoc {fr n : Nat} {left : Atoms} (h : fr ≤ n) : toL (numTo fr left) n ++ [((varS fr left (n - fr)).length : Int)] = toL (numTo fr left) (n + 1) := by
  rw [← toL_succ]
  congr 2
  have := num_ge (fr := fr) (left := left) (k := n - fr)
  rw [show fr + (n - fr) = n by omega] at this
  exact this.symm
set_option maxHeartbeats 6400000 in
set_option maxRecDepth 100000 in
theorem l03Less_P (w : World) {ok : Nat → Prop} {v : Value} {xs : Atoms} (hp : opsT.RdP ok w [v] xs) (h2 : eq2 xs) (hl : xs.length ≤ 1000000) :
    Calls Try.prog 131 #[v] w fun e w' => ∃ u, e = .returned u ∧ opsT.RdP (fun k => ok k ∨ w.heap.size ≤ k) w' [u] (lessL xs xs.length) ∧ Below w.heap.size w w' := by
  have h := hp.rd
  have HX := Lib.hid h
  obtain ⟨ad, cap, hv, -, hcell⟩ := pairs_exP hp
  obtain rfl : v = _ := hv
  have HC := Lib.hid hcell
  have H2 := Lib.hid h2
  clear h hp hcell h2
  go_enter Try.func131, Try.ntmps131
  go_wp2_with fail
  generalize hW : World.alloc w _ = W
  have hbW : Below w.heap.size w W := hW ▸ bA
  have HB0 : Hid (Bl pvT 105 w.heap.size W.heap.size W (.slice (some ⟨w.heap.size, 0, none⟩) 0 0) []) := by
    unfold Hid
    rw [← hW]
    simpa using Bl.lit0 (E := pvT) (e := 105) (base := w.heap.size) (w := w) (Nat.le_refl _)
  clear hW
  go_loopw [4, 3] (fun i o wr => ∃ (j : Nat) (Z : List ((Int × List Int) × (Int × Value))), j ≤ xs.length ∧ i = .int .i64 j ∧ Bl pvT 105 w.heap.size wr.heap.size wr o (Z.map (·.2)) ∧ (Z.map (·.1) = lessL xs j ∧ ∀ z ∈ Z, pvR ok w z) ∧ Below w.heap.size w wr) (fun i _ _ => xs.length - (intOf i).toNat)
  case atStart => exact ⟨0, [], Nat.zero_le _, rfl, HB0.out, ⟨by rw [less_zero]; rfl, fun z hz => by cases hz⟩, hbW⟩
  case round =>
    obtain ⟨j, Z, hj, rfl, hBl, hVR, hbe⟩ := hrel
    have HB := Lib.hid hBl
    have HV := Lib.hid hVR
    have hse := hbe.size
    have hll := (less_mem (l := xs) j hj).2
    have hzl : Z.length = (lessL xs j).length := by rw [← hVR.1, List.length_map]
    have hvl : Z.length ≤ xs.length := by omega
    obtain ⟨fpz, hfz, -, hfb, -⟩ := hBl.fr (by rw [List.length_map]; unfold capMax; omega)
    have hpp := ops_of (ok := fun k => ok k ∨ w.heap.size ≤ k) ⟨fpz, hfz, fun k hk => .inr (hfb k hk)⟩ (fun z hz => ((hVR.2 z hz).below hbe).mono (fun _ _ h => .inl h))
    rw [hVR.1] at hpp
    have HPP := Lib.hid hpp
    clear hpp
    have HRD := Lib.hid HPP.out.rd
    obtain ⟨oa, oc, rfl⟩ := rd_slice HRD.out
    have HZL := Lib.hid hzl
    clear hzl
    clear hBl HB0 hbW hVR hfz hfb
    by_cases hjl : j < xs.length
    · obtain ⟨q, p, rfl, hqb, hce⟩ := HC.out (by omega)
      obtain ⟨u, hu, hIj, g0, g1⟩ := hce j hjl
      have HU := Lib.hid hu
      have HIJ := Lib.hid hIj
      have r0 := (hbe.cell hqb).trans g0
      have r1 := (hbe.cell hqb).trans g1
      have HLS := Lib.hid (less_succ hjl)
      have HPA : Hid (opT.Pt wr (.pointer (some ⟨q, p + j * 2, none⟩)) xs[j]) := pt_elem (E := opT) (HX.out.below hbe) hjl
      have hqr : q < wr.heap.size := by omega
      obtain ⟨dr, hdr⟩ : ∃ dr, ((((xs[j]).1 == -1) && (mrgX xs[j] == mrgY xs[j]))) = dr := ⟨_, rfl⟩
      have HDR : Hid (dropB (lessL xs j) xs[j] = (dr || anyB (fun b => eqB xs[j] b) (lessL xs j))) := by unfold Hid dropB; rw [hdr]
      go_wp2_with fail
      go_cut [6] from 18 to 37 (fun d wx => d = .bool dr ∧ Quiet wr wx)
      case rest =>
        obtain ⟨rfl, hqx⟩ := hcut
        have hbx := hqx.below
        have HPX := Lib.hid (HPA.out.below hbx)
        have HRX := Lib.hid (HRD.out.below hbx)
        have hzx := hbx.size
        obtain ⟨wv, rfl⟩ : ∃ wv : World, wv = wr := ⟨_, rfl⟩
        obtain ⟨ua, un, uc, rfl⟩ := rd_sl hu.rd
        replace r0 := (cellB hbx (by omega)).trans r0
        replace r1 := (cellB hbx (by omega)).trans r1
        clear hdr HPA
        go_wp2_with fail
        obtain ⟨wo, rfl⟩ : ∃ wo : World, wo = wc := ⟨_, rfl⟩
        go_loopw [7, 6] (fun i d wi => ∃ m : Nat, m ≤ (lessL xs j).length ∧ i = .int .i64 m ∧ d = .bool (dr || anyB (fun b => eqB xs[j] b) ((lessL xs j).take m)) ∧ Quiet wo wi) (fun i _ _ => (lessL xs j).length - (intOf i).toNat)
        case atStart => exact ⟨0, Nat.zero_le _, rfl, by simp [anyB], Quiet.refl _⟩
        case round =>
          obtain ⟨m, hm, rfl, rfl, hqi⟩ := hrel
          have hbi := hqi.below
          have hzi := hbi.size
          by_cases hml : m < (lessL xs j).length
          · obtain ⟨_, _, e1, -, -, hco⟩ := pairs_ex HRX.out
            simp only [List.cons.injEq, Value.slice.injEq, and_true, true_and] at e1
            obtain ⟨rfl, rfl⟩ := e1
            obtain ⟨b3, o3, rfl, hb3, -⟩ := hco (by omega)
            have HPM : Hid (opT.Pt wr (.pointer (some ⟨b3, o3 + m * 2, none⟩)) (lessL xs j)[m]) := pt_elem (E := opT) (HRX.out.below hbi) hml
            have HPB := Lib.hid (HPX.out.below hbi)
            have HAT := Lib.hid (any_take (p := fun b => eqB xs[j] b) hml)
            clear hco
            cases hD : (dr || anyB (fun b => eqB xs[j] b) ((lessL xs j).take m))
            · have HD := Lib.hid hD
              have HNX : Hid (eqB (lessL xs j)[m] xs[j] = (dr || anyB (fun b => eqB xs[j] b) ((lessL xs j).take (m + 1)))) := by
                unfold Hid
                rw [HAT.out, ← Bool.or_assoc, HD.out, Bool.false_or, eqB_comm]
              clear hD
              go_wp2_with fail
              refine (l03SameAtom_quiet _ HPM.out HPB.out).mono ?_
              rintro e w2 ⟨rfl, hq2⟩
              go_wp2_with fail
              go_roundw
              case rel => exact ⟨m + 1, by omega, by go_num, by rw [HNX.out], hqi.then hq2⟩
              case measure => simp [intOf]; omega
            · have HNX : Hid (true = (dr || anyB (fun b => eqB xs[j] b) ((lessL xs j).take (m + 1)))) := by
                unfold Hid
                rw [HAT.out, ← Bool.or_assoc, hD]
                rfl
              clear hD
              go_wp2_with fail
              go_roundw
              case rel => exact ⟨m + 1, by omega, by go_num, by rw [← HNX.out], hqi⟩
              case measure => simp [intOf]; omega
          · obtain rfl : m = (lessL xs j).length := by omega
            rw [List.take_length, ← HDR.out]
            have hbw := bthen hbe (bthen hbx hbi)
            cases hD : dropB (lessL xs j) xs[j]
            · have HNX : Hid (lessL xs (j + 1) = lessL xs j ++ [xs[j]]) := by unfold Hid; rw [HLS.out, less_no hD]
              have HBi : Hid (Bl pvT 105 w.heap.size wv.heap.size wr _ (Z.map (·.2))) := HB.out.below (bthen hbx hbi) (Nat.le_refl _)
              replace r0 := (cellB hbi (by omega)).trans r0
              replace r1 := (cellB hbi (by omega)).trans r1
              clear hD
              go_wp2_with (refine wpList_push (E := pvT) _ rfl _ _ 30 105 rfl elAtomS rfl (HBi.out.below (bA.mono (by omega)) (Nat.le_refl _)) rfl news2 (fr_pv (x := .slice ua un uc) HIJ.out rfl) (by rw [List.length_map]; omega) (by decide) (by omega) (by first | (simp; done) | (simp; omega)) ?_; intro v5 w5 hB5 hg5 _; have hb5 : Below w.heap.size wr w5 := ((Below.refl _ wr).alloc (by omega) _).grown hg5 (by first | (simp; done) | (simp; omega)) (fun q hq => HBi.out.own hq))
              have HB5 := Lib.hid hB5
              clear hB5 hg5
              go_wp2_with fail
              go_roundw
              case rel => exact ⟨j + 1, Z ++ [(xs[j], ((xs[j]).1, .slice ua un uc))], by omega, by go_num, by rw [List.map_append]; exact HB5.out, ⟨by rw [List.map_append, HV.out.1, HNX.out]; rfl, fun z hz => by
                rcases List.mem_append.1 hz with hz | hz
                · exact HV.out.2 z hz
                · obtain rfl := List.mem_singleton.1 hz
                  exact ⟨rfl, HIJ.out, HU.out⟩⟩, hbw.trans hb5⟩
              case measure => simp [intOf]; omega
            · have HNX : Hid (lessL xs (j + 1) = lessL xs j) := by unfold Hid; rw [HLS.out, less_yes hD]
              clear hD
              go_wp2_with fail
              go_roundw
              case rel => exact ⟨j + 1, Z, by omega, by go_num, (HB.out.below (bthen hbx hbi) (Nat.le_refl _)).mono (by omega), by rw [HNX.out]; exact HV.out, hbw⟩
              case measure => simp [intOf]; omega
      cases hq : ((xs[j]).1 == -1)
      · have HE : Hid (dr = false) := by unfold Hid; rw [← hdr, hq]; rfl
        go_quiet (fail)
        go_wp2_with fail
        go_meet
        case rel => exact ⟨by rw [HE.out], Quiet.drewN _ _⟩
      · obtain ⟨x, y, hxy⟩ := len_two (H2.out _ (List.getElem_mem hjl) (by simpa using hq))
        have HE : Hid ((x == y) = dr) := by unfold Hid; rw [← hdr, hq]; unfold mrgX mrgY; rw [hxy]; rfl
        replace hu := hu.rd
        rw [hxy] at hu
        obtain ⟨ua, uc, hv, -, -, hcu⟩ := ints_ex hu
        obtain rfl : u = _ := by simpa using hv
        obtain ⟨b3, o3, rfl, hb3, hc3⟩ := hcu (by simp)
        have e0 := (hbe.cell hb3).trans (hc3 0 (by simp)).2
        have e1 := (hbe.cell hb3).trans (hc3 1 (by simp)).2
        simp only [Nat.add_zero, List.getElem_cons_zero, List.getElem_cons_succ] at e0 e1 r1
        clear hu g0 g1 hv hcu hc3 hce hdr
        go_quiet (fail)
        go_wp2_with fail
        go_meet
        case rel => exact ⟨by rw [HE.out], Quiet.drewN _ _⟩
    · obtain rfl : j = xs.length := by omega
      go_wp2_with fail
      go_ret
      exact ⟨_, rfl, HPP.out, hbe⟩
end Go.Proofs.Ytepebfpgmnidnaa
