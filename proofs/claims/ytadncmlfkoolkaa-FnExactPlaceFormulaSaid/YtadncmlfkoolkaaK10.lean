/-
  Constraints that hold for values: the program's and the reference's.
-/
import Derived.Test.YtadncmlfkoolkaaK9
import Derived.Test.YtadncmlfkoolkaaK8
import Derived.Test.YtadncmlfkoolkaaLoose
namespace Go.Proofs.Ytadncmlfkoolkaa
open Go.RowKit Go.Sort
set_option maxHeartbeats 1600000 in
set_option maxRecDepth 100000 in
theorem l01At_any (w : World) {v u : Value} {xs ps : List Int} (h : intsT.Rd w [v] xs) (h' : intsT.Rd w [u] ps) (hin : ∀ p ∈ ps, 0 ≤ p ∧ p < (xs.length : Int)) (hlen : ps.length ≤ 1000000) :
    Calls Try.prog 155 #[v, u] w (RetS intsT w (atL xs ps)) := by
  obtain ⟨ad, cap, hv, hl, hc, hcell⟩ := ints_ex h
  obtain rfl : v = _ := by simpa using hv
  obtain ⟨ad', cap', hv', hl', hc', hcell'⟩ := ints_ex h'
  obtain rfl : u = _ := by simpa using hv'
  have HIN := Lib.hid hin
  clear h hv h' hv' hin
  go_enter Try.func155, Try.ntmps155
  go_wp2_with fail
  go_loopw [6, 5] (fun i o wr => ∃ k : Nat, k ≤ ps.length ∧ i = .int .i64 k ∧ Bl Ty.int 2 w.heap.size wr.heap.size wr o (atL xs (ps.take k)) ∧ Below w.heap.size w wr) (fun i _ _ => ps.length - (intOf i).toNat)
  case atStart => exact ⟨0, Nat.zero_le _, rfl, by simpa [atL] using Bl.lit0 (E := Ty.int) (e := 2) (w := w) (Nat.le_refl _), bA⟩
  case round =>
    obtain ⟨k, hk, rfl, hBl, hbel⟩ := hrel
    have HB := Lib.hid hBl
    clear hBl
    by_cases hkl : k < ps.length
    · obtain ⟨b', o', rfl, hb', hce'⟩ := hcell' (by omega)
      have hin := HIN.out ps[k] (List.getElem_mem hkl)
      obtain ⟨j, hj⟩ : ∃ j : Nat, ps[k] = j := ⟨ps[k].toNat, by omega⟩
      have hjl : j < xs.length := by omega
      obtain ⟨b, o, rfl, hb, hce⟩ := hcell (by omega)
      have e0 := (hbel.cell hb').trans (hce' k hkl).2
      rw [hj] at e0
      have e1 := (hbel.cell hb).trans (hce j hjl).2
      have hI := (hce j hjl).1
      clear hcell hcell' hce hce' hin
      have hrec := atL_take hkl hj hjl
      have HR := Lib.hid hrec
      clear hrec
      go_wp2_with (refine wpList_push (E := Ty.int) _ rfl _ _ 40 2 rfl elInt rfl (HB.out.below bA (Nat.le_refl _)) rfl news1 (fr_int hI) (by rw [atL_len, take_len hk]; omega) (by decide) hbel.size (by simp) ?_; intro v1 w1 hB1 hg1 _)
      have hbel1 : Below w.heap.size w w1 := (hbel.alloc hbel.size _).grown hg1 (by have := hbel.size; simp; omega) (fun k hk => HB.out.own hk)
      rw [HR.out] at hB1
      have HB1 := Lib.hid hB1
      clear hB1
      go_wp2_with fail
      go_roundw
      case rel => exact ⟨k + 1, by omega, by go_num, HB1.out, hbel1⟩
      case measure => simp [intOf]; omega
    · obtain rfl : k = ps.length := by omega
      go_wp2_with fail
      go_ret
      rw [List.take_length] at HB
      exact ⟨_, rfl, HB.out.fr (by rw [atL_len]; unfold capMax; omega), hbel⟩
/-- the relation with a number; a constraint holds for values -/
def relAt (t : Int × List (Int × List (List Int))) (k : Int) : Int × List (List Int) := t.2.getD k.toNat (0, [])
def holdsC (t : Int × List (Int × List (List Int))) (vals : List Int) (c : Int × List Int) : Prop := atL vals c.2 ∈ (relAt t c.1).2
theorem relAt_nat {t : Int × List (Int × List (List Int))} {k : Nat} (h : k < t.2.length) : relAt t (k : Int) = t.2[k] := by simp [relAt, h]
theorem scope_in {t : Int × List (Int × List (List Int))} {vars : Int} {c : Int × List Int} {vals : List Int} (h : conOk t vars c) (hv : (vals.length : Int) = vars) : ∀ p ∈ c.2, 0 ≤ p ∧ p < (vals.length : Int) := fun p hp => by
  have := h.2.2 p hp
  omega
set_option maxHeartbeats 1600000 in
set_option maxRecDepth 100000 in
theorem failing1_any (w : World) {cs : Array Value} {c : Int × List Int} (h : opT.Rd w cs.toList c) {vt : Value} {t : Int × List (Int × List (List Int))} (ht : tplT.Pt w vt t) {bv : Nat} {u : Value} {vals : List Int} (hbv : bv < w.heap.size) (hcv : w.cell? ⟨bv, 0, none⟩ = some u) (hvr : intsT.Rd w [u] vals)
    {vars : Int} (hok : conOk t vars c) (hl : (vals.length : Int) = vars) (hT : tplOk t) (hv10 : c.2.length ≤ 1000000) :
    Calls Try.prog 133 #[.agg cs, vt, .pointer (some ⟨bv, 0, none⟩)] w fun e w' => e = .returned (.bool (!tb (holdsC t vals c))) ∧ Below w.heap.size w w' := by
  obtain ⟨us, hv, hI, hus⟩ := pair_ex h
  obtain rfl := agg_of hv
  obtain ⟨asc, caps, rfl⟩ := rd_slice hus
  obtain ⟨av, capv, rfl⟩ := rd_slice hvr
  obtain ⟨b, o, ad, cap, rfl, hb, -, c0, c1, hx⟩ := pt_pair ht
  have HS := Lib.hid (scope_in hok hl)
  have hk := hok.1
  obtain ⟨k, hck⟩ : ∃ k : Nat, c.1 = k := ⟨c.1.toNat, by omega⟩
  have hkl : k < t.2.length := by omega
  have HSR : Hid (sortedL (t.2[k]).2) := relOk_sorted (hT.2.2 _ (List.getElem_mem hkl))
  obtain ⟨a, q, rfl, hp⟩ := rd_elem hx hkl
  have hp' : relT.Pt w (.pointer (some ⟨a, q + k * 2, none⟩)) t.2[k] := hp
  obtain ⟨b1, o1, ar, capr, hbo, hba, hIr, f0, f1, hrr⟩ := pt_pair hp'
  simp only [Value.pointer.injEq, Option.some.injEq, Addr.mk.injEq, and_true] at hbo
  obtain ⟨rfl, rfl⟩ := hbo
  have HH : Hid ((!tb (atL vals c.2 ∈ (t.2[k]).2)) = !tb (holdsC t vals c)) := by
    unfold Hid holdsC
    rw [hck, relAt_nat hkl]
  clear h hv ht hp hp' hok hl hT hk
  go_enter Try.func133, Try.ntmps133
  go_wp2_with fail
  generalize hW : w.alloc _ = wr
  have hB : Below w.heap.size w wr := hW ▸ bA
  have hz : w.heap.size < wr.heap.size := by rw [← hW]; simp
  have e0 : wr.cell? ⟨w.heap.size, 0, none⟩ = some (.int .i64 k) := by rw [← hW, ← hck]; simp
  have e1 : wr.cell? ⟨w.heap.size, 1, none⟩ = some (.slice asc c.2.length caps) := by rw [← hW]; simp
  have d1 := (hB.cell hb).trans c1
  have g0 := (hB.cell hba).trans f0
  have g1 := (hB.cell hba).trans f1
  have dv := (hB.cell hbv).trans hcv
  have z1 : b < wr.heap.size := by omega
  have z2 : a < wr.heap.size := by omega
  have z3 : bv < wr.heap.size := by omega
  have hus' := hus.below hB
  have hvr' := hvr.below hB
  have hrr' : relT.Rd wr (#[.int .i64 (t.2[k]).1, .slice ar (t.2[k]).2.length capr] : Array Value).toList t.2[k] := (pair_mk hIr hrr).below hB
  refine wp_region_loose [exV (.pointer (some ⟨b, o + 1, none⟩)), exV (.slice (some ⟨a, q, none⟩) t.2.length cap), exV (.pointer (some ⟨w.heap.size, 0, none⟩)), exV (.int .i64 k), exV (.pointer (some ⟨a, q + k * 2, none⟩)), exV (.agg #[.int .i64 (t.2[k]).1, .slice ar (t.2[k]).2.length capr]), exV (.slice av vals.length capv), exV (.pointer (some ⟨w.heap.size, 1, none⟩)), exV (.slice asc c.2.length caps), rdS intsT (atL vals c.2), exV (.bool (tb (atL vals c.2 ∈ (t.2[k]).2))), exV (.bool (!tb (atL vals c.2 ∈ (t.2[k]).2))), exV (.bool (!tb (atL vals c.2 ∈ (t.2[k]).2)))] (by kernel_rfl) (by kernel_rfl) ⟨st_exV, st_exV, st_exV, st_exV, st_exV, st_exV, st_exV, st_exV, st_exV, st_rdS, st_exV, st_exV, st_exV, trivial⟩ ⟨?j1_0, ?j1_1, ?j1_2, ?j1_3, ?j1_4, ?j1_5, ?j1_6, ?j1_7, ?j1_8, ?j1_9, ?j1_10, ?j1_11, ?j1_12, trivial⟩ ?hQ1
  case j1_0 =>
    intro a' w' hb hd
    have e1 : a'.tmps[1]?.getD undef = .pointer (some ⟨b, o, none⟩) := ev (slot_o hd 1 rfl rfl)
    go_simp
    exact ⟨Below.refl _ _, rfl⟩
  case j1_1 =>
    intro a' w' hb hd
    have e5 : a'.tmps[5]?.getD undef = .pointer (some ⟨b, o + 1, none⟩) := ev (slot_w hd 5 (exV (.pointer (some ⟨b, o + 1, none⟩))) rfl rfl)
    have q : ∀ b o, b < wr.heap.size → w'.cell? ⟨b, o, none⟩ = wr.cell? ⟨b, o, none⟩ := (bcell hb).1
    go_simp
    exact ⟨Below.refl _ _, rfl⟩
  case j1_2 =>
    intro a' w' hb hd
    have e3 : a'.tmps[3]?.getD undef = .pointer (some ⟨w.heap.size, 0, none⟩) := ev (slot_o hd 3 rfl rfl)
    go_simp
    exact ⟨Below.refl _ _, rfl⟩
  case j1_3 =>
    intro a' w' hb hd
    have e7 : a'.tmps[7]?.getD undef = .pointer (some ⟨w.heap.size, 0, none⟩) := ev (slot_w hd 7 (exV (.pointer (some ⟨w.heap.size, 0, none⟩))) rfl rfl)
    have q : ∀ b o, b < wr.heap.size → w'.cell? ⟨b, o, none⟩ = wr.cell? ⟨b, o, none⟩ := (bcell hb).1
    go_simp
    exact ⟨Below.refl _ _, rfl⟩
  case j1_4 =>
    intro a' w' hb hd
    have e6 : a'.tmps[6]?.getD undef = .slice (some ⟨a, q, none⟩) t.2.length cap := ev (slot_w hd 6 (exV (.slice (some ⟨a, q, none⟩) t.2.length cap)) rfl rfl)
    have e8 : a'.tmps[8]?.getD undef = .int .i64 k := ev (slot_w hd 8 (exV (.int .i64 k)) rfl rfl)
    go_simp
    exact ⟨Below.refl _ _, rfl⟩
  case j1_5 =>
    intro a' w' hb hd
    have e9 : a'.tmps[9]?.getD undef = .pointer (some ⟨a, q + k * 2, none⟩) := ev (slot_w hd 9 (exV (.pointer (some ⟨a, q + k * 2, none⟩))) rfl rfl)
    have q : ∀ b o, b < wr.heap.size → w'.cell? ⟨b, o, none⟩ = wr.cell? ⟨b, o, none⟩ := (bcell hb).1
    go_simp
    exact ⟨Below.refl _ _, rfl⟩
  case j1_6 =>
    intro a' w' hb hd
    have e2 : a'.tmps[2]?.getD undef = .pointer (some ⟨bv, 0, none⟩) := ev (slot_o hd 2 rfl rfl)
    have q : ∀ b o, b < wr.heap.size → w'.cell? ⟨b, o, none⟩ = wr.cell? ⟨b, o, none⟩ := (bcell hb).1
    go_simp
    exact ⟨Below.refl _ _, rfl⟩
  case j1_7 =>
    intro a' w' hb hd
    have e3 : a'.tmps[3]?.getD undef = .pointer (some ⟨w.heap.size, 0, none⟩) := ev (slot_o hd 3 rfl rfl)
    go_simp
    exact ⟨Below.refl _ _, rfl⟩
  case j1_8 =>
    intro a' w' hb hd
    have e12 : a'.tmps[12]?.getD undef = .pointer (some ⟨w.heap.size, 1, none⟩) := ev (slot_w hd 12 (exV (.pointer (some ⟨w.heap.size, 1, none⟩))) rfl rfl)
    have q : ∀ b o, b < wr.heap.size → w'.cell? ⟨b, o, none⟩ = wr.cell? ⟨b, o, none⟩ := (bcell hb).1
    go_simp
    exact ⟨Below.refl _ _, rfl⟩
  case j1_9 =>
    intro a' w' hb hd
    have e11 : a'.tmps[11]?.getD undef = .slice av vals.length capv := ev (slot_w hd 11 (exV (.slice av vals.length capv)) rfl rfl)
    have e13 : a'.tmps[13]?.getD undef = .slice asc c.2.length caps := ev (slot_w hd 13 (exV (.slice asc c.2.length caps)) rfl rfl)
    have r1 := hvr'.below hb
    have r2 := hus'.below hb
    go_simp
    exact ⟨Below.refl _ _, (chosen_any w' r1 r2 HS.out hv10).mono fun e w'' ⟨u, he, hf, hb⟩ => ⟨_, he, hb, hf.rd⟩⟩
  case j1_10 =>
    intro a' w' hb hd
    have e10 : a'.tmps[10]?.getD undef = .agg #[.int .i64 (t.2[k]).1, .slice ar (t.2[k]).2.length capr] := ev (slot_w hd 10 (exV (.agg #[.int .i64 (t.2[k]).1, .slice ar (t.2[k]).2.length capr])) rfl rfl)
    have d14 := slot_w hd 14 (rdS intsT (atL vals c.2)) rfl rfl
    have r1 := hrr'.below hb
    obtain ⟨ad14, cap14, e14⟩ := rd_slice d14
    rw [e14] at d14
    have e14' := ev e14
    go_simp
    exact ⟨Below.refl _ _, (has_any w' r1 d14 HSR.out).mono fun e w'' ⟨he, hb⟩ => ⟨_, he, hb, rfl⟩⟩
  case j1_11 =>
    intro a' w' hb hd
    have e15 : a'.tmps[15]?.getD undef = .bool (tb (atL vals c.2 ∈ (t.2[k]).2)) := ev (slot_w hd 15 (exV (.bool (tb (atL vals c.2 ∈ (t.2[k]).2)))) rfl rfl)
    go_simp
    exact ⟨Below.refl _ _, rfl⟩
  case j1_12 =>
    intro a' w' hb hd
    have e16 : a'.tmps[16]?.getD undef = .bool (!tb (atL vals c.2 ∈ (t.2[k]).2)) := ev (slot_w hd 16 (exV (.bool (!tb (atL vals c.2 ∈ (t.2[k]).2)))) rfl rfl)
    go_simp
    exact ⟨Below.refl _ _, rfl⟩
  intro vs1 w1 hb1 H0
  obtain ⟨v1_0, _, rfl, p0, H1⟩ := HAll_cons H0
  obtain ⟨v1_1, _, rfl, p1, H2⟩ := HAll_cons H1
  obtain ⟨v1_2, _, rfl, p2, H3⟩ := HAll_cons H2
  obtain ⟨v1_3, _, rfl, p3, H4⟩ := HAll_cons H3
  obtain ⟨v1_4, _, rfl, p4, H5⟩ := HAll_cons H4
  obtain ⟨v1_5, _, rfl, p5, H6⟩ := HAll_cons H5
  obtain ⟨v1_6, _, rfl, p6, H7⟩ := HAll_cons H6
  obtain ⟨v1_7, _, rfl, p7, H8⟩ := HAll_cons H7
  obtain ⟨v1_8, _, rfl, p8, H9⟩ := HAll_cons H8
  obtain ⟨v1_9, _, rfl, p9, H10⟩ := HAll_cons H9
  obtain ⟨v1_10, _, rfl, p10, H11⟩ := HAll_cons H10
  obtain ⟨v1_11, _, rfl, p11, H12⟩ := HAll_cons H11
  obtain ⟨v1_12, _, rfl, p12, H13⟩ := HAll_cons H12
  obtain rfl := HAll_nil H13
  obtain rfl := p0 rfl
  obtain rfl := p1 rfl
  obtain rfl := p2 rfl
  obtain rfl := p3 rfl
  obtain rfl := p4 rfl
  obtain rfl := p5 rfl
  obtain rfl := p6 rfl
  obtain rfl := p7 rfl
  obtain rfl := p8 rfl
  obtain rfl := p10 rfl
  obtain rfl := p11 rfl
  obtain rfl := p12 rfl
  clear p0 p1 p2 p3 p4 p5 p6 p7 p8 p9 p10 p11 p12 H0 H1 H2 H3 H4 H5 H6 H7 H8 H9 H10 H11 H12 H13
  simp only [putAll, Act.put]
  go_simp
  go_wp2_with fail
  go_ret
  exact ⟨ret_bool HH.out, bthen hB hb1⟩
theorem scope_short {t : Int × List (Int × List (List Int))} {vars : Int} {c : Int × List Int} (hT : tplOk t) (h : conOk t vars c) : c.2.length ≤ 4 := by
  obtain ⟨k, hck⟩ : ∃ k : Nat, c.1 = k := ⟨c.1.toNat, by have := h.1; omega⟩
  have hkl : k < t.2.length := by have := h.1; omega
  have h1 := h.2.1
  rw [hck, arOf_nat hkl] at h1
  have h2 := (hT.2.2 _ (List.getElem_mem hkl)).2.1.2
  omega
/-- the number of the first constraint that does not hold, or -1 -/
noncomputable def failI (t : Int × List (Int × List (List Int))) (x : Int × List (Int × List Int)) (vals : List Int) : Int := firstI (fun c => !tb (holdsC t vals c)) x.2
theorem box2 {w : World} {A B : Obj} {u : Value} {T : TypeId} : (((w.alloc A).alloc B).alloc (.cells #[u] T)).cell? ⟨w.heap.size + 2, 0, none⟩ = some u := by
  have h : ((w.alloc A).alloc B).heap.size = w.heap.size + 2 := by simp
  rw [← h]
  unfold World.cell?
  rw [heap_alloc_new]
  simp
set_option maxHeartbeats 1600000 in
theorem failing_any (w : World) {cs cs' : Array Value} {v : Value} {t : Int × List (Int × List (List Int))} {x : Int × List (Int × List Int)} {vals : List Int} (h : tplT.Rd w cs.toList t) (h' : instT.Rd w cs'.toList x) (hvr : intsT.Rd w [v] vals)
    (hok : instOk t x) (hl : (vals.length : Int) = x.1) :
    Calls Try.prog 77 #[.agg cs, .agg cs', v] w fun e w' => e = .returned (.int .i64 (failI t x vals)) ∧ Below w.heap.size w w' := by
  have ht := h
  obtain ⟨v1, hv, hI, -⟩ := pair_ex h
  obtain rfl := agg_of hv
  obtain ⟨v2, hv', hI', hx⟩ := pair_ex h'
  obtain rfl := agg_of hv'
  obtain ⟨ad, cap, rfl⟩ := rd_slice hx
  obtain ⟨av, capv, rfl⟩ := rd_slice hvr
  have HOK := Lib.hid hok
  have HL := Lib.hid hl
  clear h hv h' hv' hok hl
  have p0 : tplT.Pt (w.alloc (.cells #[.int .i64 t.1, v1] 33)) (.pointer (some ⟨w.heap.size, 0, none⟩)) t := pt_box ht
  go_enter Try.func77, Try.ntmps77
  go_wp2_with fail
  refine (IndexFuncCon_any _ (hx.below (by repeat (first | exact Below.refl _ _ | exact bA | assumption | refine Below.setCell ?_ (by first | omega | (simp; try omega)) _ | refine Below.alloc ?_ (by first | omega | (simp; try omega)) _ | refine Below.drew ?_ | refine bDN ?_ | refine bthen ?_ (by assumption)))) (fun c => !tb (holdsC t vals c)) 133 #[.pointer (some ⟨w.heap.size, 0, none⟩), .pointer (some ⟨w.heap.size + 2, 0, none⟩)] (enters Try.func133 (by kernel_rfl) rfl) (fun W hW k hk cs hcs => failing1_any W hcs ((p0.below bAA).below hW) (by have := hW.size; (try simp at this); (try simp at *); omega) ((hW.cell (by first | omega | (simp; done) | (simp; omega) | (show w.heap.size + 2 < _; simp))).trans box2) ((hvr.below (by repeat (first | exact Below.refl _ _ | exact bA | assumption | refine Below.setCell ?_ (by first | omega | (simp; try omega)) _ | refine Below.alloc ?_ (by first | omega | (simp; try omega)) _ | refine Below.drew ?_ | refine bDN ?_ | refine bthen ?_ (by assumption)))).below hW) (HOK.out.2.2.2 _ (List.getElem_mem hk)) HL.out HOK.out.1 (by have := scope_short HOK.out.1 (HOK.out.2.2.2 _ (List.getElem_mem hk)); omega))).mono ?_
  rintro e w1 ⟨rfl, hb1⟩
  go_wp2_with fail
  go_ret
  exact ⟨rfl, bthen (by repeat (first | exact Below.refl _ _ | exact bA | assumption | refine Below.setCell ?_ (by first | omega | (simp; try omega)) _ | refine Below.alloc ?_ (by first | omega | (simp; try omega)) _ | refine Below.drew ?_ | refine bDN ?_ | refine bthen ?_ (by assumption))) hb1⟩
set_option maxHeartbeats 1600000 in
set_option maxRecDepth 100000 in
theorem l05Holds_any (w : World) {vt vc u : Value} {c : Int × List Int} {t : Int × List (Int × List (List Int))} {vals : List Int} (ht : tplT.Pt w vt t) (hc : opT.Pt w vc c) (hvr : intsT.Rd w [u] vals)
    {vars : Int} (hok : conOk t vars c) (hl : (vals.length : Int) = vars) (hv10 : c.2.length ≤ 1000000) :
    Calls Try.prog 124 #[vt, vc, u] w fun e w' => e = .returned (.bool (tb (holdsC t vals c))) ∧ Below w.heap.size w w' := by
  obtain ⟨b2, o2, asc, caps, rfl, hb2, hI, c0', c1', hus⟩ := pt_pair hc
  obtain ⟨av, capv, rfl⟩ := rd_slice hvr
  obtain ⟨b, o, ad, cap, rfl, hb, -, c0, c1, hx⟩ := pt_pair ht
  have HS := Lib.hid (scope_in hok hl)
  have hk := hok.1
  obtain ⟨k, hck⟩ : ∃ k : Nat, c.1 = k := ⟨c.1.toNat, by omega⟩
  have hkl : k < t.2.length := by omega
  obtain ⟨a, q, rfl, hp⟩ := rd_elem hx hkl
  have hp' : relT.Pt w (.pointer (some ⟨a, q + k * 2, none⟩)) t.2[k] := hp
  have HH : Hid (tb (atL vals c.2 ∈ (t.2[k]).2) = tb (holdsC t vals c)) := by
    unfold Hid holdsC
    rw [hck, relAt_nat hkl]
  rw [hck] at c0'
  clear ht hc hp hok hl hk
  go_enter Try.func124, Try.ntmps124
  go_wp2_with fail
  refine wp_region_loose [exV (.pointer (some ⟨b, o, none⟩)), exV (.pointer (some ⟨b, o, none⟩)), exV (.pointer (some ⟨b, o + 1, none⟩)), exV (.slice (some ⟨a, q, none⟩) t.2.length cap), exV (.pointer (some ⟨b2, o2, none⟩)), exV (.pointer (some ⟨b2, o2, none⟩)), exV (.pointer (some ⟨b2, o2, none⟩)), exV (.int .i64 k), exV (.pointer (some ⟨a, q + k * 2, none⟩)), exV (.slice av vals.length capv), exV (.pointer (some ⟨b2, o2, none⟩)), exV (.pointer (some ⟨b2, o2, none⟩)), exV (.pointer (some ⟨b2, o2 + 1, none⟩)), exV (.slice asc c.2.length caps), rdS intsT (atL vals c.2), exV (.bool (tb (atL vals c.2 ∈ (t.2[k]).2))), exV (.bool (tb (atL vals c.2 ∈ (t.2[k]).2)))] (by kernel_rfl) (by kernel_rfl) ⟨st_exV, st_exV, st_exV, st_exV, st_exV, st_exV, st_exV, st_exV, st_exV, st_exV, st_exV, st_exV, st_exV, st_exV, st_rdS, st_exV, st_exV, trivial⟩ ⟨?j1_0, ?j1_1, ?j1_2, ?j1_3, ?j1_4, ?j1_5, ?j1_6, ?j1_7, ?j1_8, ?j1_9, ?j1_10, ?j1_11, ?j1_12, ?j1_13, ?j1_14, ?j1_15, ?j1_16, trivial⟩ ?hQ1
  case j1_0 =>
    intro a' w' hb hd
    have e0 : a'.tmps[0]?.getD undef = .pointer (some ⟨b, o, none⟩) := ev (slot_o hd 0 rfl rfl)
    go_simp
    exact ⟨Below.refl _ _, rfl⟩
  case j1_1 =>
    intro a' w' hb hd
    have e7 : a'.tmps[7]?.getD undef = .pointer (some ⟨b, o, none⟩) := ev (slot_w hd 7 (exV (.pointer (some ⟨b, o, none⟩))) rfl rfl)
    go_simp
    exact ⟨Below.refl _ _, rfl⟩
  case j1_2 =>
    intro a' w' hb hd
    have e8 : a'.tmps[8]?.getD undef = .pointer (some ⟨b, o, none⟩) := ev (slot_w hd 8 (exV (.pointer (some ⟨b, o, none⟩))) rfl rfl)
    go_simp
    exact ⟨Below.refl _ _, rfl⟩
  case j1_3 =>
    intro a' w' hb hd
    have e9 : a'.tmps[9]?.getD undef = .pointer (some ⟨b, o + 1, none⟩) := ev (slot_w hd 9 (exV (.pointer (some ⟨b, o + 1, none⟩))) rfl rfl)
    have q : ∀ b o, b < w.heap.size → w'.cell? ⟨b, o, none⟩ = w.cell? ⟨b, o, none⟩ := (bcell hb).1
    go_simp
    exact ⟨Below.refl _ _, rfl⟩
  case j1_4 =>
    intro a' w' hb hd
    have e1 : a'.tmps[1]?.getD undef = .pointer (some ⟨b2, o2, none⟩) := ev (slot_o hd 1 rfl rfl)
    go_simp
    exact ⟨Below.refl _ _, rfl⟩
  case j1_5 =>
    intro a' w' hb hd
    have e11 : a'.tmps[11]?.getD undef = .pointer (some ⟨b2, o2, none⟩) := ev (slot_w hd 11 (exV (.pointer (some ⟨b2, o2, none⟩))) rfl rfl)
    go_simp
    exact ⟨Below.refl _ _, rfl⟩
  case j1_6 =>
    intro a' w' hb hd
    have e12 : a'.tmps[12]?.getD undef = .pointer (some ⟨b2, o2, none⟩) := ev (slot_w hd 12 (exV (.pointer (some ⟨b2, o2, none⟩))) rfl rfl)
    go_simp
    exact ⟨Below.refl _ _, rfl⟩
  case j1_7 =>
    intro a' w' hb hd
    have e13 : a'.tmps[13]?.getD undef = .pointer (some ⟨b2, o2, none⟩) := ev (slot_w hd 13 (exV (.pointer (some ⟨b2, o2, none⟩))) rfl rfl)
    have q : ∀ b o, b < w.heap.size → w'.cell? ⟨b, o, none⟩ = w.cell? ⟨b, o, none⟩ := (bcell hb).1
    go_simp
    exact ⟨Below.refl _ _, rfl⟩
  case j1_8 =>
    intro a' w' hb hd
    have e10 : a'.tmps[10]?.getD undef = .slice (some ⟨a, q, none⟩) t.2.length cap := ev (slot_w hd 10 (exV (.slice (some ⟨a, q, none⟩) t.2.length cap)) rfl rfl)
    have e14 : a'.tmps[14]?.getD undef = .int .i64 k := ev (slot_w hd 14 (exV (.int .i64 k)) rfl rfl)
    go_simp
    exact ⟨Below.refl _ _, rfl⟩
  case j1_9 =>
    intro a' w' hb hd
    have e2 : a'.tmps[2]?.getD undef = .slice av vals.length capv := ev (slot_o hd 2 rfl rfl)
    go_simp
    exact ⟨Below.refl _ _, rfl⟩
  case j1_10 =>
    intro a' w' hb hd
    have e1 : a'.tmps[1]?.getD undef = .pointer (some ⟨b2, o2, none⟩) := ev (slot_o hd 1 rfl rfl)
    go_simp
    exact ⟨Below.refl _ _, rfl⟩
  case j1_11 =>
    intro a' w' hb hd
    have e17 : a'.tmps[17]?.getD undef = .pointer (some ⟨b2, o2, none⟩) := ev (slot_w hd 17 (exV (.pointer (some ⟨b2, o2, none⟩))) rfl rfl)
    go_simp
    exact ⟨Below.refl _ _, rfl⟩
  case j1_12 =>
    intro a' w' hb hd
    have e18 : a'.tmps[18]?.getD undef = .pointer (some ⟨b2, o2, none⟩) := ev (slot_w hd 18 (exV (.pointer (some ⟨b2, o2, none⟩))) rfl rfl)
    go_simp
    exact ⟨Below.refl _ _, rfl⟩
  case j1_13 =>
    intro a' w' hb hd
    have e19 : a'.tmps[19]?.getD undef = .pointer (some ⟨b2, o2 + 1, none⟩) := ev (slot_w hd 19 (exV (.pointer (some ⟨b2, o2 + 1, none⟩))) rfl rfl)
    have q : ∀ b o, b < w.heap.size → w'.cell? ⟨b, o, none⟩ = w.cell? ⟨b, o, none⟩ := (bcell hb).1
    go_simp
    exact ⟨Below.refl _ _, rfl⟩
  case j1_14 =>
    intro a' w' hb hd
    have e16 : a'.tmps[16]?.getD undef = .slice av vals.length capv := ev (slot_w hd 16 (exV (.slice av vals.length capv)) rfl rfl)
    have e20 : a'.tmps[20]?.getD undef = .slice asc c.2.length caps := ev (slot_w hd 20 (exV (.slice asc c.2.length caps)) rfl rfl)
    have r1 := hvr.below hb
    have r2 := hus.below hb
    go_simp
    exact ⟨Below.refl _ _, (l01At_any w' r1 r2 HS.out hv10).mono fun e w'' ⟨u, he, hf, hb⟩ => ⟨_, he, hb, hf.rd⟩⟩
  case j1_15 =>
    intro a' w' hb hd
    have e15 : a'.tmps[15]?.getD undef = .pointer (some ⟨a, q + k * 2, none⟩) := ev (slot_w hd 15 (exV (.pointer (some ⟨a, q + k * 2, none⟩))) rfl rfl)
    have d21 := slot_w hd 21 (rdS intsT (atL vals c.2)) rfl rfl
    have r1 := hp'.below hb
    obtain ⟨ad21, cap21, e21⟩ := rd_slice d21
    rw [e21] at d21
    have e21' := ev e21
    go_simp
    exact ⟨Below.refl _ _, (l01Has_quiet w' r1 d21).mono fun e w'' ⟨he, hb⟩ => ⟨_, he, hb.below, rfl⟩⟩
  case j1_16 =>
    intro a' w' hb hd
    have e22 : a'.tmps[22]?.getD undef = .bool (tb (atL vals c.2 ∈ (t.2[k]).2)) := ev (slot_w hd 22 (exV (.bool (tb (atL vals c.2 ∈ (t.2[k]).2)))) rfl rfl)
    go_simp
    exact ⟨Below.refl _ _, rfl⟩
  intro vs1 w1 hb1 H0
  obtain ⟨v1_0, _, rfl, p0, H1⟩ := HAll_cons H0
  obtain ⟨v1_1, _, rfl, p1, H2⟩ := HAll_cons H1
  obtain ⟨v1_2, _, rfl, p2, H3⟩ := HAll_cons H2
  obtain ⟨v1_3, _, rfl, p3, H4⟩ := HAll_cons H3
  obtain ⟨v1_4, _, rfl, p4, H5⟩ := HAll_cons H4
  obtain ⟨v1_5, _, rfl, p5, H6⟩ := HAll_cons H5
  obtain ⟨v1_6, _, rfl, p6, H7⟩ := HAll_cons H6
  obtain ⟨v1_7, _, rfl, p7, H8⟩ := HAll_cons H7
  obtain ⟨v1_8, _, rfl, p8, H9⟩ := HAll_cons H8
  obtain ⟨v1_9, _, rfl, p9, H10⟩ := HAll_cons H9
  obtain ⟨v1_10, _, rfl, p10, H11⟩ := HAll_cons H10
  obtain ⟨v1_11, _, rfl, p11, H12⟩ := HAll_cons H11
  obtain ⟨v1_12, _, rfl, p12, H13⟩ := HAll_cons H12
  obtain ⟨v1_13, _, rfl, p13, H14⟩ := HAll_cons H13
  obtain ⟨v1_14, _, rfl, p14, H15⟩ := HAll_cons H14
  obtain ⟨v1_15, _, rfl, p15, H16⟩ := HAll_cons H15
  obtain ⟨v1_16, _, rfl, p16, H17⟩ := HAll_cons H16
  obtain rfl := HAll_nil H17
  obtain rfl := p0 rfl
  obtain rfl := p1 rfl
  obtain rfl := p2 rfl
  obtain rfl := p3 rfl
  obtain rfl := p4 rfl
  obtain rfl := p5 rfl
  obtain rfl := p6 rfl
  obtain rfl := p7 rfl
  obtain rfl := p8 rfl
  obtain rfl := p9 rfl
  obtain rfl := p10 rfl
  obtain rfl := p11 rfl
  obtain rfl := p12 rfl
  obtain rfl := p13 rfl
  obtain rfl := p15 rfl
  obtain rfl := p16 rfl
  clear p0 p1 p2 p3 p4 p5 p6 p7 p8 p9 p10 p11 p12 p13 p14 p15 p16 H0 H1 H2 H3 H4 H5 H6 H7 H8 H9 H10 H11 H12 H13 H14 H15 H16 H17
  simp only [putAll, Act.put]
  go_simp
  go_wp2_with fail
  go_ret
  exact ⟨ret_bool HH.out, hb1⟩
set_option maxHeartbeats 1600000 in
theorem l05Failing_any (w : World) {vt vx v : Value} {t : Int × List (Int × List (List Int))} {x : Int × List (Int × List Int)} {vals : List Int} (ht : tplT.Pt w vt t) (hxp : instT.Pt w vx x) (hvr : intsT.Rd w [v] vals)
    (hok : instOk t x) (hl : (vals.length : Int) = x.1) :
    Calls Try.prog 73 #[vt, vx, v] w fun e w' => e = .returned (.int .i64 (failI t x vals)) ∧ Below w.heap.size w w' := by
  obtain ⟨b, o, ad, cap, rfl, hb, -, c0, c1, hx⟩ := pt_pair hxp
  obtain ⟨b2, o2, _, _, rfl, -, -, -, -, -⟩ := pt_pair ht
  obtain ⟨av, capv, rfl⟩ := rd_slice hvr
  obtain ⟨_, _, e1, hle', hle2', hcell⟩ := pairs_ex hx
  simp only [List.cons.injEq, Value.slice.injEq, and_true, true_and] at e1
  obtain ⟨rfl, rfl⟩ := e1
  have HOK := Lib.hid hok
  have HL := Lib.hid hl
  clear hxp hok hl
  go_enter Try.func73, Try.ntmps73
  go_wp2_with fail
  go_loopw [7] (fun i wr => ∃ k : Nat, k ≤ x.2.length ∧ i = .int .i64 k ∧ noneB (fun c => !tb (holdsC t vals c)) (x.2.take k) ∧ Below w.heap.size w wr) (fun i _ => x.2.length - (intOf i).toNat)
  case atStart => exact ⟨0, Nat.zero_le _, rfl, noneB_zero _ _, Below.refl _ _⟩
  case round =>
    obtain ⟨k, hk, rfl, hne, hbel⟩ := hrel
    have HT := Lib.hid hne
    have d1 := (hbel.cell hb).trans c1
    clear hne
    by_cases hkl : k < x.2.length
    · obtain ⟨a, q, rfl, hp⟩ := rd_elem hx hkl
      have hp' : opT.Pt w (.pointer (some ⟨a, q + k * 2, none⟩)) x.2[k] := hp
      have hp2 := hp'.below hbel
      have hcon := HOK.out.2.2.2 _ (List.getElem_mem hkl)
      have hsh := scope_short HOK.out.1 hcon
      have HC := Lib.hid hcon
      clear hcell hp hp' hcon
      cases hq : tb (holdsC t vals x.2[k])
      · go_wp2_with fail
        refine (l05Holds_any _ (ht.below hbel) hp2 (hvr.below hbel) HC.out HL.out (by omega)).mono ?_
        rintro e w1 ⟨rfl, hb1⟩
        rw [hq]
        go_wp2_with fail
        go_ret
        exact ⟨ret_int (firstI_at hkl HT.out (by rw [hq]; rfl)).symm, bthen hbel hb1⟩
      · go_wp2_with fail
        refine (l05Holds_any _ (ht.below hbel) hp2 (hvr.below hbel) HC.out HL.out (by omega)).mono ?_
        rintro e w1 ⟨rfl, hb1⟩
        rw [hq]
        go_wp2_with fail
        go_roundw
        case rel => exact ⟨k + 1, by omega, by go_num, noneB_succ hkl HT.out (by rw [hq]; rfl), bthen hbel hb1⟩
        case measure => simp [intOf]; omega
    · obtain rfl : k = x.2.length := by omega
      clear hcell
      go_wp2_with fail
      go_ret
      exact ⟨ret_int (firstI_none (by have := HT.out; rwa [List.take_length] at this)).symm, hbel⟩
/-- the code of an instance and values -/
noncomputable def givenC (t : Int × List (Int × List (List Int))) (x : Int × List (Int × List Int)) (vals : List Int) : Int := if tb (instOk t x) then if tb (rowOk t.1 x.1 vals) then 0 else 2 else 1
theorem givenC_1 {t : Int × List (Int × List (List Int))} {x : Int × List (Int × List Int)} {vals : List Int} (h : tb (instOk t x) = false) : givenC t x vals = 1 := by simp [givenC, h]
theorem givenC_2 {t : Int × List (Int × List (List Int))} {x : Int × List (Int × List Int)} {vals : List Int} (h : tb (instOk t x) = true) (h' : tb (rowOk t.1 x.1 vals) = false) : givenC t x vals = 2 := by simp [givenC, h, h']
theorem givenC_0 {t : Int × List (Int × List (List Int))} {x : Int × List (Int × List Int)} {vals : List Int} (h : tb (instOk t x) = true) (h' : tb (rowOk t.1 x.1 vals) = true) : givenC t x vals = 0 := by simp [givenC, h, h']
set_option maxHeartbeats 1600000 in
theorem l05Given_any (w : World) {vt vx v : Value} {t : Int × List (Int × List (List Int))} {x : Int × List (Int × List Int)} {vals : List Int} (ht : tplT.Pt w vt t) (hxp : instT.Pt w vx x) (hvr : intsT.Rd w [v] vals) :
    Calls Try.prog 72 #[vt, vx, v] w fun e w' => e = .returned (.int .i64 (givenC t x vals)) ∧ Quiet w w' := by
  have htp := ht
  have hx0 := hxp
  obtain ⟨b, o, ad, cap, rfl, hb, -, c0, c1, hx⟩ := pt_pair hxp
  obtain ⟨b2, o2, _, _, rfl, hb2, -, f0, -, -⟩ := pt_pair ht
  obtain ⟨av, capv, rfl⟩ := rd_slice hvr
  clear ht hxp
  cases hi : tb (instOk t x)
  · go_enter Try.func72, Try.ntmps72
    go_wp2_with fail
    refine (l05Ok_quiet _ htp hx0).mono ?_
    rintro e w1 ⟨rfl, hq1⟩
    rw [hi]
    go_wp2_with fail
    go_ret
    exact ⟨ret_int (givenC_1 hi).symm, hq1⟩
  have hT := (tb_iff.1 hi).1.1
  have h0 : 0 ≤ t.1 := by have := hT.1; omega
  have h1 : t.1 ≤ 1000000000000 := by have := hT.2; omega
  have HH := Lib.hid (And.intro h0 h1)
  clear hT h0 h1
  cases hr : tb (rowOk t.1 x.1 vals)
  all_goals
    go_enter Try.func72, Try.ntmps72
    go_wp2_with fail
    refine (l05Ok_quiet _ htp hx0).mono ?_
    rintro e wr ⟨rfl, hq1⟩
    rw [hi]
    have d0 := (hq1.below.cell hb).trans c0
    have d1 := (hq1.below.cell hb2).trans f0
    have hv1 := hvr.below hq1.below
    have cT : ∀ n, Calls Try.prog 123 #[.int .i64 t.1, .int .i64 x.1, .slice av vals.length capv] (wr.drewN n) fun e w'' => e = .returned (.bool (tb (rowOk t.1 x.1 vals))) ∧ ∃ m, w'' = wr.drewN m := fun n => pure_drawn (l01Tuple_any _ _ _ (hv1.below (Quiet.drewN wr n).below) HH.out.1 HH.out.2)
    rw [hr] at cT
    clear c0 c1 f0
    go_wp2_with fail
    go_quiet (exact cT _)
    go_wp2_with fail
    go_ret
  · exact ⟨ret_int (givenC_2 hi hr).symm, hq1.then (by first | exact Quiet.refl _ | exact Quiet.drewN _ _ | exact (Quiet.drewN _ _).then (Quiet.drewN _ _) | exact ((Quiet.drewN _ _).then (Quiet.drewN _ _)).then (Quiet.drewN _ _))⟩
  · exact ⟨ret_int (givenC_0 hi hr).symm, hq1.then (by first | exact Quiet.refl _ | exact Quiet.drewN _ _ | exact (Quiet.drewN _ _).then (Quiet.drewN _ _) | exact ((Quiet.drewN _ _).then (Quiet.drewN _ _)).then (Quiet.drewN _ _))⟩
/-- the first constraint that does not hold, where the arguments are right -/
noncomputable def ffV (t : Int × List (Int × List (List Int))) (x : Int × List (Int × List Int)) (vals : List Int) : Int := if givenC t x vals = 0 then failI t x vals else 0
theorem given_ok {t : Int × List (Int × List (List Int))} {x : Int × List (Int × List Int)} {vals : List Int} (h : givenC t x vals = 0) : instOk t x ∧ (vals.length : Int) = x.1 := by
  cases h1 : tb (instOk t x)
  · rw [givenC_1 h1] at h; omega
  cases h2 : tb (rowOk t.1 x.1 vals)
  · rw [givenC_2 h1 h2] at h; omega
  exact ⟨tb_iff.1 h1, (tb_iff.1 h2).1⟩
theorem ffV_no {t : Int × List (Int × List (List Int))} {x : Int × List (Int × List Int)} {vals : List Int} {n : Int} (h : givenC t x vals = n) (h0 : n ≠ 0) : Ending.returned (.tuple #[.int .i64 0, .int .i64 n]) = .returned (.tuple #[.int .i64 (ffV t x vals), .int .i64 (givenC t x vals)]) := by
  subst h; rw [ffV, if_neg h0]
theorem ffV_yes {t : Int × List (Int × List (List Int))} {x : Int × List (Int × List Int)} {vals : List Int} (h : givenC t x vals = 0) : Ending.returned (.tuple #[.int .i64 (failI t x vals), .int .i64 0]) = .returned (.tuple #[.int .i64 (ffV t x vals), .int .i64 (givenC t x vals)]) := by
  rw [ffV, if_pos h, h]
set_option maxHeartbeats 1600000 in
theorem FirstFailing_any (w : World) {cs cs' : Array Value} {v : Value} {t : Int × List (Int × List (List Int))} {x : Int × List (Int × List Int)} {vals : List Int} (h : tplT.Rd w cs.toList t) (h' : instT.Rd w cs'.toList x) (hvr : intsT.Rd w [v] vals) :
    Calls Try.prog 30 #[.agg cs, .agg cs', v] w fun e w' => e = .returned (.tuple #[.int .i64 (ffV t x vals), .int .i64 (givenC t x vals)]) ∧ Below w.heap.size w w' := by
  have ht := h
  have hxx := h'
  obtain ⟨v1, hv, hI, -⟩ := pair_ex h
  obtain rfl := agg_of hv
  obtain ⟨v2, hv', hI', -⟩ := pair_ex h'
  obtain rfl := agg_of hv'
  obtain ⟨av, capv, rfl⟩ := rd_slice hvr
  clear h hv h' hv'
  cases hi : tb (instOk t x)
  · go_enter Try.func30, Try.ntmps30
    go_wp2_with fail
    refine (ValidInstance_any _ (ht.below (by repeat (first | exact Below.refl _ _ | exact bA | assumption | refine Below.setCell ?_ (by first | omega | (simp; try omega)) _ | refine Below.alloc ?_ (by first | omega | (simp; try omega)) _ | refine Below.drew ?_ | refine bDN ?_ | refine bthen ?_ (by assumption)))) (hxx.below (by repeat (first | exact Below.refl _ _ | exact bA | assumption | refine Below.setCell ?_ (by first | omega | (simp; try omega)) _ | refine Below.alloc ?_ (by first | omega | (simp; try omega)) _ | refine Below.drew ?_ | refine bDN ?_ | refine bthen ?_ (by assumption))))).mono ?_
    rintro e w1 ⟨rfl, hb1⟩
    rw [hi]
    have hB1 : Below w.heap.size w w1 := bthen (by repeat (first | exact Below.refl _ _ | exact bA | assumption | refine Below.setCell ?_ (by first | omega | (simp; try omega)) _ | refine Below.alloc ?_ (by first | omega | (simp; try omega)) _ | refine Below.drew ?_ | refine bDN ?_ | refine bthen ?_ (by assumption))) hb1
    go_wp2_with fail
    go_ret2
    exact ⟨ffV_no (givenC_1 hi) (by decide), hB1⟩
  have hT := (tb_iff.1 hi).1.1
  have h0 : 0 ≤ t.1 := by have := hT.1; omega
  have h1 : t.1 ≤ 1000000000000 := by have := hT.2; omega
  have HH := Lib.hid (And.intro h0 h1)
  clear hT h0 h1
  cases hr : tb (rowOk t.1 x.1 vals)
  · go_enter Try.func30, Try.ntmps30
    go_wp2_with fail
    refine (ValidInstance_any _ (ht.below (by repeat (first | exact Below.refl _ _ | exact bA | assumption | refine Below.setCell ?_ (by first | omega | (simp; try omega)) _ | refine Below.alloc ?_ (by first | omega | (simp; try omega)) _ | refine Below.drew ?_ | refine bDN ?_ | refine bthen ?_ (by assumption)))) (hxx.below (by repeat (first | exact Below.refl _ _ | exact bA | assumption | refine Below.setCell ?_ (by first | omega | (simp; try omega)) _ | refine Below.alloc ?_ (by first | omega | (simp; try omega)) _ | refine Below.drew ?_ | refine bDN ?_ | refine bthen ?_ (by assumption))))).mono ?_
    rintro e w1 ⟨rfl, hb1⟩
    rw [hi]
    have hB1 : Below w.heap.size w w1 := bthen (by repeat (first | exact Below.refl _ _ | exact bA | assumption | refine Below.setCell ?_ (by first | omega | (simp; try omega)) _ | refine Below.alloc ?_ (by first | omega | (simp; try omega)) _ | refine Below.drew ?_ | refine bDN ?_ | refine bthen ?_ (by assumption))) hb1
    obtain ⟨q1, q2⟩ := bcell hb1
    have r0 : w1.cell? ⟨w.heap.size, 0, none⟩ = some (.int .i64 t.1) := by rw [q1 _ _ (by simp; try omega)]; simp
    have r1 : w1.cell? ⟨w.heap.size + 1, 0, none⟩ = some (.int .i64 x.1) := by rw [q1 _ _ (by simp; try omega)]; simp
    clear q1 q2
    go_wp2_with fail
    refine (areValues_any _ (hvr.below hB1) _ _ HH.out.1 HH.out.2).mono ?_
    rintro e w2 ⟨rfl, hb2⟩
    rw [hr]
    go_wp2_with fail
    go_ret2
    exact ⟨ffV_no (givenC_2 hi hr) (by decide), bthen hB1 hb2⟩
  have HG := Lib.hid (givenC_0 hi hr)
  go_enter Try.func30, Try.ntmps30
  go_wp2_with fail
  refine (ValidInstance_any _ (ht.below (by repeat (first | exact Below.refl _ _ | exact bA | assumption | refine Below.setCell ?_ (by first | omega | (simp; try omega)) _ | refine Below.alloc ?_ (by first | omega | (simp; try omega)) _ | refine Below.drew ?_ | refine bDN ?_ | refine bthen ?_ (by assumption)))) (hxx.below (by repeat (first | exact Below.refl _ _ | exact bA | assumption | refine Below.setCell ?_ (by first | omega | (simp; try omega)) _ | refine Below.alloc ?_ (by first | omega | (simp; try omega)) _ | refine Below.drew ?_ | refine bDN ?_ | refine bthen ?_ (by assumption))))).mono ?_
  rintro e w1 ⟨rfl, hb1⟩
  rw [hi]
  have hB1 : Below w.heap.size w w1 := bthen (by repeat (first | exact Below.refl _ _ | exact bA | assumption | refine Below.setCell ?_ (by first | omega | (simp; try omega)) _ | refine Below.alloc ?_ (by first | omega | (simp; try omega)) _ | refine Below.drew ?_ | refine bDN ?_ | refine bthen ?_ (by assumption))) hb1
  obtain ⟨q1, q2⟩ := bcell hb1
  have hs1 : w.heap.size + 2 ≤ w1.heap.size := by have := hb1.size; simp at this; omega
  have r0 : w1.cell? ⟨w.heap.size, 0, none⟩ = some (.int .i64 t.1) := by rw [q1 _ _ (by simp; try omega)]; simp
  have r0' : w1.cell? ⟨w.heap.size, 1, none⟩ = some v1 := by rw [q1 _ _ (by simp; try omega)]; simp
  have r1 : w1.cell? ⟨w.heap.size + 1, 0, none⟩ = some (.int .i64 x.1) := by rw [q1 _ _ (by simp; try omega)]; simp
  have r1' : w1.cell? ⟨w.heap.size + 1, 1, none⟩ = some v2 := by rw [q1 _ _ (by simp; try omega)]; simp
  clear q1 q2 hb1
  go_wp2_with fail
  refine (areValues_any _ (hvr.below hB1) _ _ HH.out.1 HH.out.2).mono ?_
  rintro e w2 ⟨rfl, hb2⟩
  rw [hr]
  have hB2 := bthen hB1 hb2
  have s0 := (hb2.cell (show w.heap.size < w1.heap.size by omega)).trans r0
  have s0' := (hb2.cell (show w.heap.size < w1.heap.size by omega)).trans r0'
  have s1 := (hb2.cell (show w.heap.size + 1 < w1.heap.size by omega)).trans r1
  have s1' := (hb2.cell (show w.heap.size + 1 < w1.heap.size by omega)).trans r1'
  clear r0 r0' r1 r1'
  go_wp2_with fail
  refine (failing_any _ (ht.below hB2) (hxx.below hB2) (hvr.below hB2) (given_ok HG.out).1 (given_ok HG.out).2).mono ?_
  rintro e w3 ⟨rfl, hb3⟩
  go_wp2_with fail
  go_ret2
  exact ⟨ffV_yes HG.out, bthen hB2 hb3⟩
set_option maxHeartbeats 1600000 in
theorem specFirstFailing_any (w : World) {cs cs' : Array Value} {v : Value} {t : Int × List (Int × List (List Int))} {x : Int × List (Int × List Int)} {vals : List Int} (h : tplT.Rd w cs.toList t) (h' : instT.Rd w cs'.toList x) (hvr : intsT.Rd w [v] vals) :
    Calls Try.prog 27 #[.agg cs, .agg cs', v] w fun e w' => e = .returned (.tuple #[.int .i64 (ffV t x vals), .int .i64 (givenC t x vals)]) ∧ Below w.heap.size w w' := by
  have p0 : tplT.Pt ((w.alloc (.cells cs 33)).alloc (.cells cs' 58)) (.pointer (some ⟨w.heap.size, 0, none⟩)) t := (pt_box h).below bA
  have p1 : instT.Pt ((w.alloc (.cells cs 33)).alloc (.cells cs' 58)) (.pointer (some ⟨w.heap.size + 1, 0, none⟩)) x := by
    simpa using pt_box (T := 58) (h'.below (bA (o := .cells cs 33)))
  obtain ⟨v1, hv, hI, -⟩ := pair_ex h
  obtain rfl := agg_of hv
  obtain ⟨v2, hv', hI', hx⟩ := pair_ex h'
  obtain rfl := agg_of hv'
  obtain ⟨av, capv, rfl⟩ := rd_slice hvr
  clear h hv h' hv'
  cases hg : (givenC t x vals != 0)
  · have hg' : givenC t x vals = 0 := by simpa using hg
    have HG := Lib.hid hg'
    clear hg'
    go_enter Try.func27, Try.ntmps27
    go_wp2_with fail
    refine (l05Given_any _ p0 p1 (hvr.below (by repeat (first | exact Below.refl _ _ | exact bA | assumption | refine Below.setCell ?_ (by first | omega | (simp; try omega)) _ | refine Below.alloc ?_ (by first | omega | (simp; try omega)) _ | refine Below.drew ?_ | refine bDN ?_ | refine bthen ?_ (by assumption))))).mono ?_
    rintro e w1 ⟨rfl, hq1⟩
    have hb1 := hq1.below
    have hB1 : Below w.heap.size w w1 := bthen (by repeat (first | exact Below.refl _ _ | exact bA | assumption | refine Below.setCell ?_ (by first | omega | (simp; try omega)) _ | refine Below.alloc ?_ (by first | omega | (simp; try omega)) _ | refine Below.drew ?_ | refine bDN ?_ | refine bthen ?_ (by assumption))) hb1
    go_wp2_with fail
    refine (l05Failing_any _ (p0.below hb1) (p1.below hb1) (hvr.below hB1) (given_ok HG.out).1 (given_ok HG.out).2).mono ?_
    rintro e w2 ⟨rfl, hb2⟩
    go_wp2_with fail
    go_ret2
    exact ⟨ffV_yes HG.out, bthen hB1 hb2⟩
  · have HG : Hid (givenC t x vals ≠ 0) := by unfold Hid; simpa using hg
    go_enter Try.func27, Try.ntmps27
    go_wp2_with fail
    refine (l05Given_any _ p0 p1 (hvr.below (by repeat (first | exact Below.refl _ _ | exact bA | assumption | refine Below.setCell ?_ (by first | omega | (simp; try omega)) _ | refine Below.alloc ?_ (by first | omega | (simp; try omega)) _ | refine Below.drew ?_ | refine bDN ?_ | refine bthen ?_ (by assumption))))).mono ?_
    rintro e w1 ⟨rfl, hq1⟩
    have hb1 := hq1.below
    have hB1 : Below w.heap.size w w1 := bthen (by repeat (first | exact Below.refl _ _ | exact bA | assumption | refine Below.setCell ?_ (by first | omega | (simp; try omega)) _ | refine Below.alloc ?_ (by first | omega | (simp; try omega)) _ | refine Below.drew ?_ | refine bDN ?_ | refine bthen ?_ (by assumption))) hb1
    go_wp2_with fail
    go_ret2
    exact ⟨ffV_no rfl HG.out, hB1⟩
/-- do the values solve the instance? -/
noncomputable def solB (t : Int × List (Int × List (List Int))) (x : Int × List (Int × List Int)) (vals : List Int) : Bool := givenC t x vals == 0 && decide (ffV t x vals < 0)
theorem solB_no {t : Int × List (Int × List (List Int))} {x : Int × List (Int × List Int)} {vals : List Int} (h : givenC t x vals ≠ 0) : Ending.returned (.tuple #[.bool false, .int .i64 (givenC t x vals)]) = .returned (.tuple #[.bool (solB t x vals), .int .i64 (givenC t x vals)]) := by
  have : (givenC t x vals == 0) = false := by simpa using h
  rw [solB, this, Bool.false_and]
theorem solB_yes {t : Int × List (Int × List (List Int))} {x : Int × List (Int × List Int)} {vals : List Int} (h : givenC t x vals = 0) : Ending.returned (.tuple #[.bool (decide (ffV t x vals < 0)), .int .i64 (givenC t x vals)]) = .returned (.tuple #[.bool (solB t x vals), .int .i64 (givenC t x vals)]) := by
  rw [solB, h]; rfl
theorem solB_yes' {t : Int × List (Int × List (List Int))} {x : Int × List (Int × List Int)} {vals : List Int} (h : givenC t x vals = 0) : Ending.returned (.tuple #[.bool (decide (failI t x vals < 0)), .int .i64 0]) = .returned (.tuple #[.bool (solB t x vals), .int .i64 (givenC t x vals)]) := by
  rw [← solB_yes h, ffV, if_pos h, h]
set_option maxHeartbeats 1600000 in
theorem IsSolution_any (w : World) {cs cs' : Array Value} {v : Value} {t : Int × List (Int × List (List Int))} {x : Int × List (Int × List Int)} {vals : List Int} (h : tplT.Rd w cs.toList t) (h' : instT.Rd w cs'.toList x) (hvr : intsT.Rd w [v] vals) :
    Calls Try.prog 40 #[.agg cs, .agg cs', v] w fun e w' => e = .returned (.tuple #[.bool (solB t x vals), .int .i64 (givenC t x vals)]) ∧ Below w.heap.size w w' := by
  have ht := h
  have hxx := h'
  obtain ⟨v1, hv, hI, -⟩ := pair_ex h
  obtain rfl := agg_of hv
  obtain ⟨v2, hv', hI', -⟩ := pair_ex h'
  obtain rfl := agg_of hv'
  obtain ⟨av, capv, rfl⟩ := rd_slice hvr
  clear h hv h' hv'
  cases hg : (givenC t x vals == 0)
  · have HG : Hid (givenC t x vals ≠ 0) := by unfold Hid; simpa using hg
    go_enter Try.func40, Try.ntmps40
    go_wp2_with fail
    refine (FirstFailing_any _ (ht.below (by repeat (first | exact Below.refl _ _ | exact bA | assumption | refine Below.setCell ?_ (by first | omega | (simp; try omega)) _ | refine Below.alloc ?_ (by first | omega | (simp; try omega)) _ | refine Below.drew ?_ | refine bDN ?_ | refine bthen ?_ (by assumption)))) (hxx.below (by repeat (first | exact Below.refl _ _ | exact bA | assumption | refine Below.setCell ?_ (by first | omega | (simp; try omega)) _ | refine Below.alloc ?_ (by first | omega | (simp; try omega)) _ | refine Below.drew ?_ | refine bDN ?_ | refine bthen ?_ (by assumption)))) (hvr.below (by repeat (first | exact Below.refl _ _ | exact bA | assumption | refine Below.setCell ?_ (by first | omega | (simp; try omega)) _ | refine Below.alloc ?_ (by first | omega | (simp; try omega)) _ | refine Below.drew ?_ | refine bDN ?_ | refine bthen ?_ (by assumption))))).mono ?_
    rintro e w1 ⟨rfl, hb1⟩
    have hB1 : Below w.heap.size w w1 := bthen (by repeat (first | exact Below.refl _ _ | exact bA | assumption | refine Below.setCell ?_ (by first | omega | (simp; try omega)) _ | refine Below.alloc ?_ (by first | omega | (simp; try omega)) _ | refine Below.drew ?_ | refine bDN ?_ | refine bthen ?_ (by assumption))) hb1
    go_wp2_with fail
    go_ret2
    exact ⟨solB_no HG.out, hB1⟩
  · have HG : Hid (givenC t x vals = 0) := by unfold Hid; simpa using hg
    go_enter Try.func40, Try.ntmps40
    go_wp2_with fail
    refine (FirstFailing_any _ (ht.below (by repeat (first | exact Below.refl _ _ | exact bA | assumption | refine Below.setCell ?_ (by first | omega | (simp; try omega)) _ | refine Below.alloc ?_ (by first | omega | (simp; try omega)) _ | refine Below.drew ?_ | refine bDN ?_ | refine bthen ?_ (by assumption)))) (hxx.below (by repeat (first | exact Below.refl _ _ | exact bA | assumption | refine Below.setCell ?_ (by first | omega | (simp; try omega)) _ | refine Below.alloc ?_ (by first | omega | (simp; try omega)) _ | refine Below.drew ?_ | refine bDN ?_ | refine bthen ?_ (by assumption)))) (hvr.below (by repeat (first | exact Below.refl _ _ | exact bA | assumption | refine Below.setCell ?_ (by first | omega | (simp; try omega)) _ | refine Below.alloc ?_ (by first | omega | (simp; try omega)) _ | refine Below.drew ?_ | refine bDN ?_ | refine bthen ?_ (by assumption))))).mono ?_
    rintro e w1 ⟨rfl, hb1⟩
    have hB1 : Below w.heap.size w w1 := bthen (by repeat (first | exact Below.refl _ _ | exact bA | assumption | refine Below.setCell ?_ (by first | omega | (simp; try omega)) _ | refine Below.alloc ?_ (by first | omega | (simp; try omega)) _ | refine Below.drew ?_ | refine bDN ?_ | refine bthen ?_ (by assumption))) hb1
    go_wp2_with fail
    go_ret2
    exact ⟨solB_yes HG.out, hB1⟩
set_option maxHeartbeats 1600000 in
theorem specIsSolution_any (w : World) {cs cs' : Array Value} {v : Value} {t : Int × List (Int × List (List Int))} {x : Int × List (Int × List Int)} {vals : List Int} (h : tplT.Rd w cs.toList t) (h' : instT.Rd w cs'.toList x) (hvr : intsT.Rd w [v] vals) :
    Calls Try.prog 39 #[.agg cs, .agg cs', v] w fun e w' => e = .returned (.tuple #[.bool (solB t x vals), .int .i64 (givenC t x vals)]) ∧ Below w.heap.size w w' := by
  have p0 : tplT.Pt ((w.alloc (.cells cs 33)).alloc (.cells cs' 58)) (.pointer (some ⟨w.heap.size, 0, none⟩)) t := (pt_box h).below bA
  have p1 : instT.Pt ((w.alloc (.cells cs 33)).alloc (.cells cs' 58)) (.pointer (some ⟨w.heap.size + 1, 0, none⟩)) x := by
    simpa using pt_box (T := 58) (h'.below (bA (o := .cells cs 33)))
  obtain ⟨v1, hv, hI, -⟩ := pair_ex h
  obtain rfl := agg_of hv
  obtain ⟨v2, hv', hI', hx⟩ := pair_ex h'
  obtain rfl := agg_of hv'
  obtain ⟨av, capv, rfl⟩ := rd_slice hvr
  clear h hv h' hv'
  cases hg : (givenC t x vals != 0)
  · have hg' : givenC t x vals = 0 := by simpa using hg
    have HG := Lib.hid hg'
    clear hg'
    go_enter Try.func39, Try.ntmps39
    go_wp2_with fail
    refine (l05Given_any _ p0 p1 (hvr.below (by repeat (first | exact Below.refl _ _ | exact bA | assumption | refine Below.setCell ?_ (by first | omega | (simp; try omega)) _ | refine Below.alloc ?_ (by first | omega | (simp; try omega)) _ | refine Below.drew ?_ | refine bDN ?_ | refine bthen ?_ (by assumption))))).mono ?_
    rintro e w1 ⟨rfl, hq1⟩
    have hb1 := hq1.below
    have hB1 : Below w.heap.size w w1 := bthen (by repeat (first | exact Below.refl _ _ | exact bA | assumption | refine Below.setCell ?_ (by first | omega | (simp; try omega)) _ | refine Below.alloc ?_ (by first | omega | (simp; try omega)) _ | refine Below.drew ?_ | refine bDN ?_ | refine bthen ?_ (by assumption))) hb1
    go_wp2_with fail
    refine (l05Failing_any _ (p0.below hb1) (p1.below hb1) (hvr.below hB1) (given_ok HG.out).1 (given_ok HG.out).2).mono ?_
    rintro e w2 ⟨rfl, hb2⟩
    go_wp2_with fail
    go_ret2
    exact ⟨solB_yes' HG.out, bthen hB1 hb2⟩
  · have HG : Hid (givenC t x vals ≠ 0) := by unfold Hid; simpa using hg
    go_enter Try.func39, Try.ntmps39
    go_wp2_with fail
    refine (l05Given_any _ p0 p1 (hvr.below (by repeat (first | exact Below.refl _ _ | exact bA | assumption | refine Below.setCell ?_ (by first | omega | (simp; try omega)) _ | refine Below.alloc ?_ (by first | omega | (simp; try omega)) _ | refine Below.drew ?_ | refine bDN ?_ | refine bthen ?_ (by assumption))))).mono ?_
    rintro e w1 ⟨rfl, hq1⟩
    have hb1 := hq1.below
    have hB1 : Below w.heap.size w w1 := bthen (by repeat (first | exact Below.refl _ _ | exact bA | assumption | refine Below.setCell ?_ (by first | omega | (simp; try omega)) _ | refine Below.alloc ?_ (by first | omega | (simp; try omega)) _ | refine Below.drew ?_ | refine bDN ?_ | refine bthen ?_ (by assumption))) hb1
    go_wp2_with fail
    go_ret2
    exact ⟨solB_no HG.out, hB1⟩
end Go.Proofs.Ytadncmlfkoolkaa
