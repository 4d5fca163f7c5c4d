/-
  Contracts: whether a tuple has equal values for places with the same variable.
-/
import Derived.Test.YtbpjejhjlmpcjaaK40
namespace Go.Proofs.Ytbpjejhjlmpcjaa
open Go.RowKit Go.Sort
def agR (sc tu : List Int) (i k : Nat) : Prop := sc.getD k 0 = sc.getD i 0 → tu.getD k 0 = tu.getD i 0
def agIn (sc tu : List Int) (i m : Nat) : Prop := ∀ k, k < m → agR sc tu i k
def agTo (sc tu : List Int) (n : Nat) : Prop := ∀ i, i < n → agIn sc tu i i
theorem agIn_zero {sc tu : List Int} {i : Nat} : agIn sc tu i 0 := fun _ h => absurd h (Nat.not_lt_zero _)
theorem agIn_succ {sc tu : List Int} {i m : Nat} (h : agIn sc tu i m) (h' : agR sc tu i m) : agIn sc tu i (m + 1) := fun k hk => by
  by_cases e : k = m
  · subst e; exact h'
  · exact h k (by omega)
theorem agTo_zero {sc tu : List Int} : agTo sc tu 0 := fun _ h => absurd h (Nat.not_lt_zero _)
theorem agTo_succ {sc tu : List Int} {n : Nat} (h : agTo sc tu n) (h' : agIn sc tu n n) : agTo sc tu (n + 1) := fun i hi => by
  by_cases e : i = n
  · subst e; exact h'
  · exact h i (by omega)
theorem getD_at {xs : List Int} {k : Nat} (h : k < xs.length) : xs.getD k 0 = xs[k] := by rw [List.getD_eq_getElem?_getD, List.getElem?_eq_getElem h]; rfl
theorem agR_ne {sc tu : List Int} {i k : Nat} (h1 : i < sc.length) (h2 : k < sc.length) (h : (sc[k] == sc[i]) = false) : agR sc tu i k := fun e => by
  rw [getD_at h1, getD_at h2] at e
  rw [e] at h
  simp at h
theorem agR_eq {sc tu : List Int} {i k : Nat} (h1 : i < tu.length) (h2 : k < tu.length) (h : (tu[k] != tu[i]) = false) : agR sc tu i k := fun _ => by
  rw [getD_at h1, getD_at h2]
  simpa using h
theorem agR_not {sc tu : List Int} {i k n : Nat} (hk : k < i) (hi : i < n) (h1 : i < sc.length) (h2 : k < sc.length) (h3 : i < tu.length) (h4 : k < tu.length) (h : (sc[k] == sc[i]) = true) (h' : (tu[k] != tu[i]) = true) : ¬ agTo sc tu n := fun hh => by
  have := hh i hi k hk
  unfold agR at this
  rw [getD_at h1, getD_at h2, getD_at h3, getD_at h4] at this
  have := this (by simpa using h)
  simp [this] at h'
set_option maxHeartbeats 1600000 in
set_option maxRecDepth 100000 in
theorem agrees_any (w : World) {cs : Array Value} {c : Int × List Int} {v : Value} {tu : List Int} (h : opT.Rd w cs.toList c) (ht : intsT.Rd w [v] tu) (hl : tu.length = c.2.length) :
    Calls Try.prog 141 #[.agg cs, v] w fun e w' => e = .returned (.bool (tb (agTo c.2 tu c.2.length))) ∧ Below w.heap.size w w' := by
  obtain ⟨u, hv, hI, hx⟩ := pair_ex h
  obtain rfl := agg_of hv
  obtain ⟨ad, cap, hu, -, hcl, hsc⟩ := ints_ex hx
  obtain rfl : u = _ := by simpa using hu
  obtain ⟨ad2, cap2, hu2, -, -, htc⟩ := ints_ex ht
  obtain rfl : v = _ := by simpa using hu2
  have HSC := Lib.hid hsc
  have HTC := Lib.hid htc
  have HL := Lib.hid hl
  clear h hv hx hu ht hu2 hsc htc hl
  go_enter Try.func141, Try.ntmps141
  go_wp2_with fail
  generalize hW : World.alloc _ _ = W
  have hbW : Below w.heap.size w W := hW ▸ bA
  have x1 : W.cell? ⟨w.heap.size, 1, none⟩ = some (.slice ad c.2.length cap) := by rw [← hW]; simp
  have hl0 : w.heap.size < W.heap.size := by rw [← hW]; simp
  clear hW
  go_loopw [11] (fun i wr => ∃ k : Nat, k ≤ c.2.length ∧ i = .int .i64 k ∧ agTo c.2 tu k ∧ Quiet W wr) (fun i _ => c.2.length - (intOf i).toNat)
  case atStart => exact ⟨0, Nat.zero_le _, rfl, agTo_zero, Quiet.refl _⟩
  case round =>
    obtain ⟨i, hi, rfl, hag, hq⟩ := hrel
    have HAG := Lib.hid hag
    have hbq := hq.below
    clear hag
    by_cases hil : i < c.2.length
    · obtain ⟨b, o, rfl, hb, hce⟩ := HSC.out (by omega)
      have hlen := HL.out
      have hit : i < tu.length := by omega
      obtain ⟨b2, o2, rfl, hb2, hce2⟩ := HTC.out (by omega)
      have e0 := ((bthen hbW hbq).cell hb).trans (hce i hil).2
      have HCE := Lib.hid hce
      have HCE2 := Lib.hid hce2
      have HLEN := Lib.hid hlen
      obtain ⟨wo, rfl⟩ : ∃ wo : World, wo = wr := ⟨_, rfl⟩
      clear hce hce2 hlen
      go_wp2_with fail
      go_loopw [17] (fun k wr => ∃ m : Nat, m ≤ i ∧ k = .int .i64 m ∧ agIn c.2 tu i m ∧ Quiet W wr) (fun k _ => i - (intOf k).toNat)
      case atStart => exact ⟨0, Nat.zero_le _, rfl, agIn_zero, hq⟩
      case round =>
        obtain ⟨m, hm, rfl, hai, hq2⟩ := hrel
        have HAI := Lib.hid hai
        have hbq2 := hq2.below
        have hbw := bthen hbW hbq2
        have d1 := (cellB hbq2 hl0).trans x1
        clear hai
        by_cases hml : m < i
        · have hmc : m < c.2.length := by omega
          have hmt : m < tu.length := by omega
          have s0 := (hbw.cell hb).trans (HCE.out m hmc).2
          have t0 := (hbw.cell hb2).trans (HCE2.out m hmt).2
          have t1 := (hbw.cell hb2).trans (HCE2.out i hit).2
          cases hs : (c.2[m] == c.2[i])
          · have HN := Lib.hid (agIn_succ HAI.out (agR_ne (tu := tu) hil hmc hs))
            go_wp2_with fail
            go_quiet (fail)
            go_wp2_with fail
            go_roundw
            case rel => exact ⟨m + 1, by omega, by go_num, HN.out, hq2.then (by first | exact Quiet.refl _ | exact Quiet.drewN _ _ | exact (Quiet.drewN _ _).then (Quiet.drewN _ _) | exact ((Quiet.drewN _ _).then (Quiet.drewN _ _)).then (Quiet.drewN _ _))⟩
            case measure => simp [intOf]; omega
          cases htt : (tu[m] != tu[i])
          · have HN := Lib.hid (agIn_succ HAI.out (agR_eq (sc := c.2) hit hmt htt))
            go_wp2_with fail
            go_quiet (fail)
            go_wp2_with fail
            go_roundw
            case rel => exact ⟨m + 1, by omega, by go_num, HN.out, hq2.then (by first | exact Quiet.refl _ | exact Quiet.drewN _ _ | exact (Quiet.drewN _ _).then (Quiet.drewN _ _) | exact ((Quiet.drewN _ _).then (Quiet.drewN _ _)).then (Quiet.drewN _ _))⟩
            case measure => simp [intOf]; omega
          · have HE : Hid (tb (agTo c.2 tu c.2.length) = false) := tb_false (agR_not hml hil hil hmc hit hmt hs htt)
            go_wp2_with fail
            go_quiet (fail)
            go_wp2_with fail
            go_ret
            exact ⟨ret_bool HE.out.symm, bthen hbw (Quiet.drewN _ _).below⟩
        · obtain rfl : m = i := by omega
          have HN := Lib.hid (agTo_succ HAG.out HAI.out)
          go_wp2_with fail
          go_roundw
          case rel => exact ⟨m + 1, by omega, by go_num, HN.out, hq2⟩
          case measure => simp [intOf]; omega
    · obtain rfl : i = c.2.length := by omega
      have HE : Hid (tb (agTo c.2 tu c.2.length) = true) := tb_true HAG.out
      go_wp2_with fail
      go_ret
      exact ⟨ret_bool HE.out.symm, bthen hbW hbq⟩
theorem bne_swap {a b : Int} {r : Bool} (h : (a != b) = r) : (b != a) = r := by rw [← h]; exact bne_comm
theorem beq_swap {a b : Int} {r : Bool} (h : (a == b) = r) : (b == a) = r := by rw [← h]; exact BEq.comm
set_option maxHeartbeats 1600000 in
set_option maxRecDepth 100000 in
theorem l05Whole_quiet (w : World) {vc : Value} {c : Int × List Int} {v : Value} {tu : List Int} (h : opT.Pt w vc c) (ht : intsT.Rd w [v] tu) (hl : tu.length = c.2.length) :
    Calls Try.prog 129 #[vc, v] w fun e w' => e = .returned (.bool (tb (agTo c.2 tu c.2.length))) ∧ Quiet w w' := by
  obtain ⟨bc, oc, ad, cap, rfl, hbc, -, -, c1, hx⟩ := pt_pair h
  obtain ⟨_, _, e1, -, hcl, hsc⟩ := ints_ex hx
  simp only [List.cons.injEq, Value.slice.injEq, and_true, true_and] at e1
  obtain ⟨rfl, rfl⟩ := e1
  obtain ⟨ad2, cap2, hu2, -, -, htc⟩ := ints_ex ht
  obtain rfl : v = _ := by simpa using hu2
  have HSC := Lib.hid hsc
  have HTC := Lib.hid htc
  have HL := Lib.hid hl
  have hlt : tu.length ≤ 140737488351232 := by omega
  clear h hx ht hu2 hsc htc hl
  go_enter Try.func129, Try.ntmps129
  go_wp2_with fail
  go_loopw [5] (fun i wr => ∃ k : Nat, k ≤ tu.length ∧ i = .int .i64 k ∧ agTo c.2 tu k ∧ Quiet w wr) (fun i _ => tu.length - (intOf i).toNat)
  case atStart => exact ⟨0, Nat.zero_le _, rfl, agTo_zero, Quiet.refl _⟩
  case round =>
    obtain ⟨i, hi, rfl, hag, hq⟩ := hrel
    have HAG := Lib.hid hag
    clear hag
    by_cases hil : i < tu.length
    · have hlen := HL.out
      have hic : i < c.2.length := by omega
      obtain ⟨b, o, rfl, hb, hce⟩ := HSC.out (by omega)
      obtain ⟨b2, o2, rfl, hb2, hce2⟩ := HTC.out (by omega)
      have HCE := Lib.hid hce
      have HCE2 := Lib.hid hce2
      have HLEN := Lib.hid hlen
      obtain ⟨wo, rfl⟩ : ∃ wo : World, wo = wr := ⟨_, rfl⟩
      clear hce hce2 hlen
      go_wp2_with fail
      go_loopw [6] (fun k wr => ∃ m : Nat, m ≤ i ∧ k = .int .i64 m ∧ agIn c.2 tu i m ∧ Quiet w wr) (fun k _ => i - (intOf k).toNat)
      case atStart => exact ⟨0, Nat.zero_le _, rfl, agIn_zero, hq⟩
      case round =>
        obtain ⟨m, hm, rfl, hai, hq2⟩ := hrel
        have HAI := Lib.hid hai
        have hbq2 := hq2.below
        have d1 := (cellB hbq2 hbc).trans c1
        clear hai
        by_cases hml : m < i
        · have hmc : m < c.2.length := by omega
          have hmt : m < tu.length := by omega
          have s0 := (hbq2.cell hb).trans (HCE.out m hmc).2
          have s1 := (hbq2.cell hb).trans (HCE.out i hic).2
          have t0 := (hbq2.cell hb2).trans (HCE2.out m hmt).2
          have t1 := (hbq2.cell hb2).trans (HCE2.out i hil).2
          cases hs : (c.2[i] == c.2[m])
          · have HN := Lib.hid (agIn_succ HAI.out (agR_ne (tu := tu) hic hmc (beq_swap hs)))
            go_wp2_with fail
            go_quiet (fail)
            go_wp2_with fail
            go_roundw
            case rel => exact ⟨m + 1, by omega, by go_num, HN.out, hq2.then (by first | exact Quiet.refl _ | exact Quiet.drewN _ _ | exact (Quiet.drewN _ _).then (Quiet.drewN _ _) | exact ((Quiet.drewN _ _).then (Quiet.drewN _ _)).then (Quiet.drewN _ _))⟩
            case measure => simp [intOf]; omega
          cases htt : (tu[i] != tu[m])
          · have HN := Lib.hid (agIn_succ HAI.out (agR_eq (sc := c.2) hil hmt (bne_swap htt)))
            go_wp2_with fail
            go_quiet (fail)
            go_wp2_with fail
            go_roundw
            case rel => exact ⟨m + 1, by omega, by go_num, HN.out, hq2.then (by first | exact Quiet.refl _ | exact Quiet.drewN _ _ | exact (Quiet.drewN _ _).then (Quiet.drewN _ _) | exact ((Quiet.drewN _ _).then (Quiet.drewN _ _)).then (Quiet.drewN _ _))⟩
            case measure => simp [intOf]; omega
          · have HE : Hid (tb (agTo c.2 tu c.2.length) = false) := tb_false (agR_not hml hic hic hmc hil hmt (beq_swap hs) (bne_swap htt))
            go_wp2_with fail
            go_quiet (fail)
            go_wp2_with fail
            go_ret
            exact ⟨ret_bool HE.out.symm, hq2.then (by first | exact Quiet.refl _ | exact Quiet.drewN _ _ | exact (Quiet.drewN _ _).then (Quiet.drewN _ _) | exact ((Quiet.drewN _ _).then (Quiet.drewN _ _)).then (Quiet.drewN _ _))⟩
        · obtain rfl : m = i := by omega
          have HN := Lib.hid (agTo_succ HAG.out HAI.out)
          go_wp2_with fail
          go_roundw
          case rel => exact ⟨m + 1, by omega, by go_num, HN.out, hq2⟩
          case measure => simp [intOf]; omega
    · have HE : Hid (tb (agTo c.2 tu c.2.length) = true) := tb_true (by have := HL.out; have := HAG.out; rwa [show i = c.2.length by omega] at this)
      go_wp2_with fail
      go_ret
      exact ⟨ret_bool HE.out.symm, hq⟩
end Go.Proofs.Ytbpjejhjlmpcjaa
