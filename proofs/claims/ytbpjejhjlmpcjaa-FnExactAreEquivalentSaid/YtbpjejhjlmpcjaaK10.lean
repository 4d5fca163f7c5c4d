/-
  Constraints that hold for values: the program's and the reference's.
-/
import Derived.Test.YtbpjejhjlmpcjaaK9
import Derived.Test.YtbpjejhjlmpcjaaK8
import Derived.Test.YtbpjejhjlmpcjaaLoose
namespace Go.Proofs.Ytbpjejhjlmpcjaa
open Go.RowKit Go.Sort
set_option maxHeartbeats 1600000 in
set_option maxRecDepth 100000 in
theorem l01At_any (w : World) {v u : Value} {xs ps : List Int} (h : intsT.Rd w [v] xs) (h' : intsT.Rd w [u] ps) (hin : ∀ p ∈ ps, 0 ≤ p ∧ p < (xs.length : Int)) (hlen : ps.length ≤ 1000000) :
    Calls Try.prog 162 #[v, u] w (RetS intsT w (atL xs ps)) := by
  obtain ⟨ad, cap, hv, hl, hc, hcell⟩ := ints_ex h
  obtain rfl : v = _ := by simpa using hv
  obtain ⟨ad', cap', hv', hl', hc', hcell'⟩ := ints_ex h'
  obtain rfl : u = _ := by simpa using hv'
  have HIN := Lib.hid hin
  clear h hv h' hv' hin
  go_enter Try.func162, Try.ntmps162
  go_wp2_with fail
  go_loopw [6, 5] (fun i o wr => ∃ k : Nat, k ≤ ps.length ∧ i = .int .i64 k ∧ Bl Ty.int 2 w.heap.size wr.heap.size wr o (atL xs (ps.take k)) ∧ Below w.heap.size w wr) (fun i _ _ => ps.length - (intOf i).toNat)
  case atStart => exact ⟨0, Nat.zero_le _, rfl, by simpa [atL] using Bl.lit0 (E := Ty.int) (e := 2) (w := w) (Nat.le_refl _), bA⟩
  case round =>
    obtain ⟨k, hk, rfl, hBl, hbel⟩ := hrel
    have HB := Lib.hid hBl
    clear hBl
    by_cases hkl : k < ps.length
    · obtain ⟨b', o', rfl, hb', hce'⟩ := hcell' (by omega)
      have hin := HIN.out ps[k] (List.getElem_mem hkl)
      obtain ⟨j, hj⟩ : ∃ j : Nat, ps[k] = j := ⟨ps[k].toNat, by omega⟩
      have hjl : j < xs.length := by omega
      obtain ⟨b, o, rfl, hb, hce⟩ := hcell (by omega)
      have e0 := (hbel.cell hb').trans (hce' k hkl).2
      rw [hj] at e0
      have e1 := (hbel.cell hb).trans (hce j hjl).2
      have hI := (hce j hjl).1
      clear hcell hcell' hce hce' hin
      have hrec := atL_take hkl hj hjl
      have HR := Lib.hid hrec
      clear hrec
      go_wp2_with (refine wpList_push (E := Ty.int) _ rfl _ _ 54 2 rfl elInt rfl (HB.out.below bA (Nat.le_refl _)) rfl news1 (fr_int hI) (by rw [atL_len, take_len hk]; omega) (by decide) hbel.size (by simp) ?_; intro v1 w1 hB1 hg1 _)
      have hbel1 : Below w.heap.size w w1 := (hbel.alloc hbel.size _).grown hg1 (by have := hbel.size; simp; omega) (fun k hk => HB.out.own hk)
      rw [HR.out] at hB1
      have HB1 := Lib.hid hB1
      clear hB1
      go_wp2_with fail
      go_roundw
      case rel => exact ⟨k + 1, by omega, by go_num, HB1.out, hbel1⟩
      case measure => simp [intOf]; omega
    · obtain rfl : k = ps.length := by omega
      go_wp2_with fail
      go_ret
      rw [List.take_length] at HB
      exact ⟨_, rfl, HB.out.fr (by rw [atL_len]; unfold capMax; omega), hbel⟩
/-- the relation with a number; a constraint holds for values -/
def relAt (t : Int × List (Int × List (List Int))) (k : Int) : Int × List (List Int) := t.2.getD k.toNat (0, [])
def holdsC (t : Int × List (Int × List (List Int))) (vals : List Int) (c : Int × List Int) : Prop := atL vals c.2 ∈ (relAt t c.1).2
theorem relAt_nat {t : Int × List (Int × List (List Int))} {k : Nat} (h : k < t.2.length) : relAt t (k : Int) = t.2[k] := by simp [relAt, h]
theorem scope_in {t : Int × List (Int × List (List Int))} {vars : Int} {c : Int × List Int} {vals : List Int} (h : conOk t vars c) (hv : (vals.length : Int) = vars) : ∀ p ∈ c.2, 0 ≤ p ∧ p < (vals.length : Int) := fun p hp => by
  have := h.2.2 p hp
  omega
theorem scope_short {t : Int × List (Int × List (List Int))} {vars : Int} {c : Int × List Int} (hT : tplOk t) (h : conOk t vars c) : c.2.length ≤ 4 := by
  obtain ⟨k, hck⟩ : ∃ k : Nat, c.1 = k := ⟨c.1.toNat, by have := h.1; omega⟩
  have hkl : k < t.2.length := by have := h.1; omega
  have h1 := h.2.1
  rw [hck, arOf_nat hkl] at h1
  have h2 := (hT.2.2 _ (List.getElem_mem hkl)).2.1.2
  omega
/-- the number of the first constraint that does not hold, or -1 -/
noncomputable def failI (t : Int × List (Int × List (List Int))) (x : Int × List (Int × List Int)) (vals : List Int) : Int := firstI (fun c => !tb (holdsC t vals c)) x.2
theorem box2 {w : World} {A B : Obj} {u : Value} {T : TypeId} : (((w.alloc A).alloc B).alloc (.cells #[u] T)).cell? ⟨w.heap.size + 2, 0, none⟩ = some u := by
  have h : ((w.alloc A).alloc B).heap.size = w.heap.size + 2 := by simp
  rw [← h]
  unfold World.cell?
  rw [heap_alloc_new]
  simp
set_option maxHeartbeats 1600000 in
set_option maxRecDepth 100000 in
theorem l05Holds_any (w : World) {vt vc u : Value} {c : Int × List Int} {t : Int × List (Int × List (List Int))} {vals : List Int} (ht : tplT.Pt w vt t) (hc : opT.Pt w vc c) (hvr : intsT.Rd w [u] vals)
    {vars : Int} (hok : conOk t vars c) (hin : ∀ p ∈ c.2, 0 ≤ p ∧ p < (vals.length : Int)) (hv10 : c.2.length ≤ 1000000) :
    Calls Try.prog 143 #[vt, vc, u] w fun e w' => e = .returned (.bool (tb (holdsC t vals c))) ∧ Below w.heap.size w w' := by
  obtain ⟨b2, o2, asc, caps, rfl, hb2, hI, c0', c1', hus⟩ := pt_pair hc
  obtain ⟨av, capv, rfl⟩ := rd_slice hvr
  obtain ⟨b, o, ad, cap, rfl, hb, -, c0, c1, hx⟩ := pt_pair ht
  have HS := Lib.hid hin
  have hk := hok.1
  obtain ⟨k, hck⟩ : ∃ k : Nat, c.1 = k := ⟨c.1.toNat, by omega⟩
  have hkl : k < t.2.length := by omega
  obtain ⟨a, q, rfl, hp⟩ := rd_elem hx hkl
  have hp' : relT.Pt w (.pointer (some ⟨a, q + k * 2, none⟩)) t.2[k] := hp
  have HH : Hid (tb (atL vals c.2 ∈ (t.2[k]).2) = tb (holdsC t vals c)) := by
    unfold Hid holdsC
    rw [hck, relAt_nat hkl]
  rw [hck] at c0'
  clear ht hc hp hok hin hk
  go_enter Try.func143, Try.ntmps143
  go_wp2_with fail
  refine wp_region_loose [exV (.pointer (some ⟨b, o, none⟩)), exV (.pointer (some ⟨b, o, none⟩)), exV (.pointer (some ⟨b, o + 1, none⟩)), exV (.slice (some ⟨a, q, none⟩) t.2.length cap), exV (.pointer (some ⟨b2, o2, none⟩)), exV (.pointer (some ⟨b2, o2, none⟩)), exV (.pointer (some ⟨b2, o2, none⟩)), exV (.int .i64 k), exV (.pointer (some ⟨a, q + k * 2, none⟩)), exV (.slice av vals.length capv), exV (.pointer (some ⟨b2, o2, none⟩)), exV (.pointer (some ⟨b2, o2, none⟩)), exV (.pointer (some ⟨b2, o2 + 1, none⟩)), exV (.slice asc c.2.length caps), rdS intsT (atL vals c.2), exV (.bool (tb (atL vals c.2 ∈ (t.2[k]).2))), exV (.bool (tb (atL vals c.2 ∈ (t.2[k]).2)))] (by kernel_rfl) (by kernel_rfl) ⟨st_exV, st_exV, st_exV, st_exV, st_exV, st_exV, st_exV, st_exV, st_exV, st_exV, st_exV, st_exV, st_exV, st_exV, st_rdS, st_exV, st_exV, trivial⟩ ⟨?j1_0, ?j1_1, ?j1_2, ?j1_3, ?j1_4, ?j1_5, ?j1_6, ?j1_7, ?j1_8, ?j1_9, ?j1_10, ?j1_11, ?j1_12, ?j1_13, ?j1_14, ?j1_15, ?j1_16, trivial⟩ ?hQ1
  case j1_0 =>
    intro a' w' hb hd
    have e0 : a'.tmps[0]?.getD undef = .pointer (some ⟨b, o, none⟩) := ev (slot_o hd 0 rfl rfl)
    go_simp
    exact ⟨Below.refl _ _, rfl⟩
  case j1_1 =>
    intro a' w' hb hd
    have e7 : a'.tmps[7]?.getD undef = .pointer (some ⟨b, o, none⟩) := ev (slot_w hd 7 (exV (.pointer (some ⟨b, o, none⟩))) rfl rfl)
    go_simp
    exact ⟨Below.refl _ _, rfl⟩
  case j1_2 =>
    intro a' w' hb hd
    have e8 : a'.tmps[8]?.getD undef = .pointer (some ⟨b, o, none⟩) := ev (slot_w hd 8 (exV (.pointer (some ⟨b, o, none⟩))) rfl rfl)
    go_simp
    exact ⟨Below.refl _ _, rfl⟩
  case j1_3 =>
    intro a' w' hb hd
    have e9 : a'.tmps[9]?.getD undef = .pointer (some ⟨b, o + 1, none⟩) := ev (slot_w hd 9 (exV (.pointer (some ⟨b, o + 1, none⟩))) rfl rfl)
    have q : ∀ b o, b < w.heap.size → w'.cell? ⟨b, o, none⟩ = w.cell? ⟨b, o, none⟩ := (bcell hb).1
    go_simp
    exact ⟨Below.refl _ _, rfl⟩
  case j1_4 =>
    intro a' w' hb hd
    have e1 : a'.tmps[1]?.getD undef = .pointer (some ⟨b2, o2, none⟩) := ev (slot_o hd 1 rfl rfl)
    go_simp
    exact ⟨Below.refl _ _, rfl⟩
  case j1_5 =>
    intro a' w' hb hd
    have e11 : a'.tmps[11]?.getD undef = .pointer (some ⟨b2, o2, none⟩) := ev (slot_w hd 11 (exV (.pointer (some ⟨b2, o2, none⟩))) rfl rfl)
    go_simp
    exact ⟨Below.refl _ _, rfl⟩
  case j1_6 =>
    intro a' w' hb hd
    have e12 : a'.tmps[12]?.getD undef = .pointer (some ⟨b2, o2, none⟩) := ev (slot_w hd 12 (exV (.pointer (some ⟨b2, o2, none⟩))) rfl rfl)
    go_simp
    exact ⟨Below.refl _ _, rfl⟩
  case j1_7 =>
    intro a' w' hb hd
    have e13 : a'.tmps[13]?.getD undef = .pointer (some ⟨b2, o2, none⟩) := ev (slot_w hd 13 (exV (.pointer (some ⟨b2, o2, none⟩))) rfl rfl)
    have q : ∀ b o, b < w.heap.size → w'.cell? ⟨b, o, none⟩ = w.cell? ⟨b, o, none⟩ := (bcell hb).1
    go_simp
    exact ⟨Below.refl _ _, rfl⟩
  case j1_8 =>
    intro a' w' hb hd
    have e10 : a'.tmps[10]?.getD undef = .slice (some ⟨a, q, none⟩) t.2.length cap := ev (slot_w hd 10 (exV (.slice (some ⟨a, q, none⟩) t.2.length cap)) rfl rfl)
    have e14 : a'.tmps[14]?.getD undef = .int .i64 k := ev (slot_w hd 14 (exV (.int .i64 k)) rfl rfl)
    go_simp
    exact ⟨Below.refl _ _, rfl⟩
  case j1_9 =>
    intro a' w' hb hd
    have e2 : a'.tmps[2]?.getD undef = .slice av vals.length capv := ev (slot_o hd 2 rfl rfl)
    go_simp
    exact ⟨Below.refl _ _, rfl⟩
  case j1_10 =>
    intro a' w' hb hd
    have e1 : a'.tmps[1]?.getD undef = .pointer (some ⟨b2, o2, none⟩) := ev (slot_o hd 1 rfl rfl)
    go_simp
    exact ⟨Below.refl _ _, rfl⟩
  case j1_11 =>
    intro a' w' hb hd
    have e17 : a'.tmps[17]?.getD undef = .pointer (some ⟨b2, o2, none⟩) := ev (slot_w hd 17 (exV (.pointer (some ⟨b2, o2, none⟩))) rfl rfl)
    go_simp
    exact ⟨Below.refl _ _, rfl⟩
  case j1_12 =>
    intro a' w' hb hd
    have e18 : a'.tmps[18]?.getD undef = .pointer (some ⟨b2, o2, none⟩) := ev (slot_w hd 18 (exV (.pointer (some ⟨b2, o2, none⟩))) rfl rfl)
    go_simp
    exact ⟨Below.refl _ _, rfl⟩
  case j1_13 =>
    intro a' w' hb hd
    have e19 : a'.tmps[19]?.getD undef = .pointer (some ⟨b2, o2 + 1, none⟩) := ev (slot_w hd 19 (exV (.pointer (some ⟨b2, o2 + 1, none⟩))) rfl rfl)
    have q : ∀ b o, b < w.heap.size → w'.cell? ⟨b, o, none⟩ = w.cell? ⟨b, o, none⟩ := (bcell hb).1
    go_simp
    exact ⟨Below.refl _ _, rfl⟩
  case j1_14 =>
    intro a' w' hb hd
    have e16 : a'.tmps[16]?.getD undef = .slice av vals.length capv := ev (slot_w hd 16 (exV (.slice av vals.length capv)) rfl rfl)
    have e20 : a'.tmps[20]?.getD undef = .slice asc c.2.length caps := ev (slot_w hd 20 (exV (.slice asc c.2.length caps)) rfl rfl)
    have r1 := hvr.below hb
    have r2 := hus.below hb
    go_simp
    exact ⟨Below.refl _ _, (l01At_any w' r1 r2 HS.out hv10).mono fun e w'' ⟨u, he, hf, hb⟩ => ⟨_, he, hb, hf.rd⟩⟩
  case j1_15 =>
    intro a' w' hb hd
    have e15 : a'.tmps[15]?.getD undef = .pointer (some ⟨a, q + k * 2, none⟩) := ev (slot_w hd 15 (exV (.pointer (some ⟨a, q + k * 2, none⟩))) rfl rfl)
    have d21 := slot_w hd 21 (rdS intsT (atL vals c.2)) rfl rfl
    have r1 := hp'.below hb
    obtain ⟨ad21, cap21, e21⟩ := rd_slice d21
    rw [e21] at d21
    have e21' := ev e21
    go_simp
    exact ⟨Below.refl _ _, (l01Has_quiet w' r1 d21).mono fun e w'' ⟨he, hb⟩ => ⟨_, he, hb.below, rfl⟩⟩
  case j1_16 =>
    intro a' w' hb hd
    have e22 : a'.tmps[22]?.getD undef = .bool (tb (atL vals c.2 ∈ (t.2[k]).2)) := ev (slot_w hd 22 (exV (.bool (tb (atL vals c.2 ∈ (t.2[k]).2)))) rfl rfl)
    go_simp
    exact ⟨Below.refl _ _, rfl⟩
  intro vs1 w1 hb1 H0
  obtain ⟨v1_0, _, rfl, p0, H1⟩ := HAll_cons H0
  obtain ⟨v1_1, _, rfl, p1, H2⟩ := HAll_cons H1
  obtain ⟨v1_2, _, rfl, p2, H3⟩ := HAll_cons H2
  obtain ⟨v1_3, _, rfl, p3, H4⟩ := HAll_cons H3
  obtain ⟨v1_4, _, rfl, p4, H5⟩ := HAll_cons H4
  obtain ⟨v1_5, _, rfl, p5, H6⟩ := HAll_cons H5
  obtain ⟨v1_6, _, rfl, p6, H7⟩ := HAll_cons H6
  obtain ⟨v1_7, _, rfl, p7, H8⟩ := HAll_cons H7
  obtain ⟨v1_8, _, rfl, p8, H9⟩ := HAll_cons H8
  obtain ⟨v1_9, _, rfl, p9, H10⟩ := HAll_cons H9
  obtain ⟨v1_10, _, rfl, p10, H11⟩ := HAll_cons H10
  obtain ⟨v1_11, _, rfl, p11, H12⟩ := HAll_cons H11
  obtain ⟨v1_12, _, rfl, p12, H13⟩ := HAll_cons H12
  obtain ⟨v1_13, _, rfl, p13, H14⟩ := HAll_cons H13
  obtain ⟨v1_14, _, rfl, p14, H15⟩ := HAll_cons H14
  obtain ⟨v1_15, _, rfl, p15, H16⟩ := HAll_cons H15
  obtain ⟨v1_16, _, rfl, p16, H17⟩ := HAll_cons H16
  obtain rfl := HAll_nil H17
  obtain rfl := p0 rfl
  obtain rfl := p1 rfl
  obtain rfl := p2 rfl
  obtain rfl := p3 rfl
  obtain rfl := p4 rfl
  obtain rfl := p5 rfl
  obtain rfl := p6 rfl
  obtain rfl := p7 rfl
  obtain rfl := p8 rfl
  obtain rfl := p9 rfl
  obtain rfl := p10 rfl
  obtain rfl := p11 rfl
  obtain rfl := p12 rfl
  obtain rfl := p13 rfl
  obtain rfl := p15 rfl
  obtain rfl := p16 rfl
  clear p0 p1 p2 p3 p4 p5 p6 p7 p8 p9 p10 p11 p12 p13 p14 p15 p16 H0 H1 H2 H3 H4 H5 H6 H7 H8 H9 H10 H11 H12 H13 H14 H15 H16 H17
  simp only [putAll, Act.put]
  go_simp
  go_wp2_with fail
  go_ret
  exact ⟨ret_bool HH.out, hb1⟩
/-- the code of an instance and values -/
noncomputable def givenC (t : Int × List (Int × List (List Int))) (x : Int × List (Int × List Int)) (vals : List Int) : Int := if tb (instOk t x) then if tb (rowOk t.1 x.1 vals) then 0 else 2 else 1
theorem givenC_1 {t : Int × List (Int × List (List Int))} {x : Int × List (Int × List Int)} {vals : List Int} (h : tb (instOk t x) = false) : givenC t x vals = 1 := by simp [givenC, h]
theorem givenC_2 {t : Int × List (Int × List (List Int))} {x : Int × List (Int × List Int)} {vals : List Int} (h : tb (instOk t x) = true) (h' : tb (rowOk t.1 x.1 vals) = false) : givenC t x vals = 2 := by simp [givenC, h, h']
theorem givenC_0 {t : Int × List (Int × List (List Int))} {x : Int × List (Int × List Int)} {vals : List Int} (h : tb (instOk t x) = true) (h' : tb (rowOk t.1 x.1 vals) = true) : givenC t x vals = 0 := by simp [givenC, h, h']
/-- the first constraint that does not hold, where the arguments are right -/
noncomputable def ffV (t : Int × List (Int × List (List Int))) (x : Int × List (Int × List Int)) (vals : List Int) : Int := if givenC t x vals = 0 then failI t x vals else 0
theorem given_ok {t : Int × List (Int × List (List Int))} {x : Int × List (Int × List Int)} {vals : List Int} (h : givenC t x vals = 0) : instOk t x ∧ (vals.length : Int) = x.1 := by
  cases h1 : tb (instOk t x)
  · rw [givenC_1 h1] at h; omega
  cases h2 : tb (rowOk t.1 x.1 vals)
  · rw [givenC_2 h1 h2] at h; omega
  exact ⟨tb_iff.1 h1, (tb_iff.1 h2).1⟩
theorem ffV_no {t : Int × List (Int × List (List Int))} {x : Int × List (Int × List Int)} {vals : List Int} {n : Int} (h : givenC t x vals = n) (h0 : n ≠ 0) : Ending.returned (.tuple #[.int .i64 0, .int .i64 n]) = .returned (.tuple #[.int .i64 (ffV t x vals), .int .i64 (givenC t x vals)]) := by
  subst h; rw [ffV, if_neg h0]
theorem ffV_yes {t : Int × List (Int × List (List Int))} {x : Int × List (Int × List Int)} {vals : List Int} (h : givenC t x vals = 0) : Ending.returned (.tuple #[.int .i64 (failI t x vals), .int .i64 0]) = .returned (.tuple #[.int .i64 (ffV t x vals), .int .i64 (givenC t x vals)]) := by
  rw [ffV, if_pos h, h]
/-- do the values solve the instance? -/
noncomputable def solB (t : Int × List (Int × List (List Int))) (x : Int × List (Int × List Int)) (vals : List Int) : Bool := givenC t x vals == 0 && decide (ffV t x vals < 0)
theorem solB_no {t : Int × List (Int × List (List Int))} {x : Int × List (Int × List Int)} {vals : List Int} (h : givenC t x vals ≠ 0) : Ending.returned (.tuple #[.bool false, .int .i64 (givenC t x vals)]) = .returned (.tuple #[.bool (solB t x vals), .int .i64 (givenC t x vals)]) := by
  have : (givenC t x vals == 0) = false := by simpa using h
  rw [solB, this, Bool.false_and]
theorem solB_yes {t : Int × List (Int × List (List Int))} {x : Int × List (Int × List Int)} {vals : List Int} (h : givenC t x vals = 0) : Ending.returned (.tuple #[.bool (decide (ffV t x vals < 0)), .int .i64 (givenC t x vals)]) = .returned (.tuple #[.bool (solB t x vals), .int .i64 (givenC t x vals)]) := by
  rw [solB, h]; rfl
theorem solB_yes' {t : Int × List (Int × List (List Int))} {x : Int × List (Int × List Int)} {vals : List Int} (h : givenC t x vals = 0) : Ending.returned (.tuple #[.bool (decide (failI t x vals < 0)), .int .i64 0]) = .returned (.tuple #[.bool (solB t x vals), .int .i64 (givenC t x vals)]) := by
  rw [← solB_yes h, ffV, if_pos h, h]
end Go.Proofs.Ytbpjejhjlmpcjaa
