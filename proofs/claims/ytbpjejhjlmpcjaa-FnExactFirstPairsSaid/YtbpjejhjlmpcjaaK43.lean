/-
  Contracts: whether a constraint leaves values of two variables, the program's.
-/
import Derived.Test.YtbpjejhjlmpcjaaK42
import Derived.Test.YtbpjejhjlmpcjaaKL
namespace Go.Proofs.Ytbpjejhjlmpcjaa
open Go.RowKit Go.Sort
/-- the values of a tuple at the places of two variables are right, as far as place n -/
def okR (sc tu : List Int) (i j a b : Int) (q : Nat) : Prop := (sc.getD q 0 = i → tu.getD q 0 = a) ∧ (sc.getD q 0 = j → tu.getD q 0 = b)
def okTo (sc tu : List Int) (i j a b : Int) (n : Nat) : Prop := ∀ q, q < n → okR sc tu i j a b q
theorem okTo_zero {sc tu : List Int} {i j a b : Int} : okTo sc tu i j a b 0 := fun _ h => absurd h (Nat.not_lt_zero _)
theorem okTo_succ {sc tu : List Int} {i j a b : Int} {n : Nat} (h : okTo sc tu i j a b n) (h' : okR sc tu i j a b n) : okTo sc tu i j a b (n + 1) := fun q hq => by
  by_cases e : q = n
  · subst e; exact h'
  · exact h q (by omega)
def okB (x y z v : Int) : Bool := (x == y) && (z != v)
theorem okR_of {sc tu : List Int} {i j a b : Int} {q : Nat} (h1 : q < sc.length) (h2 : q < tu.length) (e1 : okB sc[q] i tu[q] a = false) (e2 : okB sc[q] j tu[q] b = false) : okR sc tu i j a b q := by
  unfold okR
  rw [getD_at h1, getD_at h2]
  constructor
  · intro he
    have : (sc[q] == i) = true := by simpa using he
    rw [okB, this, Bool.true_and] at e1
    simpa using e1
  · intro he
    have : (sc[q] == j) = true := by simpa using he
    rw [okB, this, Bool.true_and] at e2
    simpa using e2
theorem okR_not {sc tu : List Int} {i j a b : Int} {q n : Nat} (hq : q < n) (h1 : q < sc.length) (h2 : q < tu.length) (e : okB sc[q] i tu[q] a = true ∨ okB sc[q] j tu[q] b = true) : ¬ okTo sc tu i j a b n := fun hh => by
  have := hh q hq
  unfold okR at this
  rw [getD_at h1, getD_at h2] at this
  rcases e with e | e
  · simp only [okB, Bool.and_eq_true, beq_iff_eq, bne_iff_ne] at e
    exact e.2 (this.1 e.1)
  · simp only [okB, Bool.and_eq_true, beq_iff_eq, bne_iff_ne] at e
    exact e.2 (this.2 e.1)
def okT (sc tu : List Int) (i j a b : Int) : Prop := okTo sc tu i j a b sc.length ∧ agTo sc tu sc.length
set_option maxHeartbeats 3200000 in
set_option maxRecDepth 100000 in
theorem allows1_any (w : World) {v : Value} {tu : List Int} {c : Int × List Int} (ht : intsT.Rd w [v] tu) (hl : tu.length = c.2.length) (i j a b : Int) (bc bi ba bj bb : Nat) (hbc : bc < w.heap.size)
    {ad : Option Addr} {n cap : Nat} (c0 : w.cell? ⟨bc, 0, none⟩ = some (.int .i64 c.1)) (c1 : w.cell? ⟨bc, 1, none⟩ = some (.slice ad n cap)) (hI : I64 c.1) (hx : intsT.Rd w [.slice ad n cap] c.2)
    (e1 : w.cell? ⟨bi, 0, none⟩ = some (.int .i64 i)) (e2 : w.cell? ⟨ba, 0, none⟩ = some (.int .i64 a)) (e3 : w.cell? ⟨bj, 0, none⟩ = some (.int .i64 j)) (e4 : w.cell? ⟨bb, 0, none⟩ = some (.int .i64 b)) :
    Calls Try.prog 140 #[v, .pointer (some ⟨bc, 0, none⟩), .pointer (some ⟨bi, 0, none⟩), .pointer (some ⟨ba, 0, none⟩), .pointer (some ⟨bj, 0, none⟩), .pointer (some ⟨bb, 0, none⟩)] w fun e w' => e = .returned (.bool (tb (okT c.2 tu i j a b))) ∧ Below w.heap.size w w' := by
  have HX := Lib.hid hx
  have HT := Lib.hid ht
  obtain ⟨ad1, cap1, hu, -, hcl, hsc⟩ := ints_ex hx
  simp only [List.cons.injEq, Value.slice.injEq, and_true] at hu
  obtain ⟨rfl, rfl, rfl⟩ := hu
  obtain ⟨ad2, cap2, hu2, -, -, htc⟩ := ints_ex ht
  obtain rfl : v = _ := by simpa using hu2
  have HSC := Lib.hid hsc
  have HTC := Lib.hid htc
  have HL := Lib.hid hl
  clear hx ht hu2 hsc htc hl
  go_enter Try.func140, Try.ntmps140
  go_wp2_with fail
  go_loopw [13] (fun q wr => ∃ k : Nat, k ≤ c.2.length ∧ q = .int .i64 k ∧ okTo c.2 tu i j a b k ∧ Quiet w wr) (fun q _ => c.2.length - (intOf q).toNat)
  case atStart => exact ⟨0, Nat.zero_le _, rfl, okTo_zero, Quiet.refl _⟩
  case round =>
    obtain ⟨k, hk, rfl, hok, hq⟩ := hrel
    have HOK := Lib.hid hok
    have hbq := hq.below
    clear hok
    by_cases hkl : k < c.2.length
    · obtain ⟨b1, o1, rfl, hb1, hce⟩ := HSC.out (by omega)
      have hlen := HL.out
      have hkt : k < tu.length := by omega
      obtain ⟨b2, o2, rfl, hb2, hce2⟩ := HTC.out (by omega)
      have s0 := (hbq.cell hb1).trans (hce k hkl).2
      have t0 := (hbq.cell hb2).trans (hce2 k hkt).2
      have f1 := (hbq.cell (cell_lt e1)).trans e1
      have f2 := (hbq.cell (cell_lt e2)).trans e2
      have f3 := (hbq.cell (cell_lt e3)).trans e3
      have f4 := (hbq.cell (cell_lt e4)).trans e4
      have hkt' : (k : Int) < (tu.length : Int) := by omega
      clear hce hce2 hlen
      cases h1 : (c.2[k] == i) <;> cases h2 : (tu[k] != a) <;> cases h3 : (c.2[k] == j) <;> cases h4 : (tu[k] != b)
      all_goals
        first
          | (have HE : Hid (tb (okT c.2 tu i j a b) = false) := tb_false (fun hh => okR_not hkl hkl hkt (by first | exact .inl (by simp only [okB, h1, h2]; rfl) | exact .inr (by simp only [okB, h3, h4]; rfl)) hh.1)
             go_wp2_with fail
             go_quiet (fail)
             go_wp2_with fail
             go_ret
             exact ⟨ret_bool HE.out.symm, (hq.then (by first | exact Quiet.refl _ | exact Quiet.drewN _ _ | exact (Quiet.drewN _ _).then (Quiet.drewN _ _) | exact ((Quiet.drewN _ _).then (Quiet.drewN _ _)).then (Quiet.drewN _ _))).below⟩)
          | (have HN := Lib.hid (okTo_succ HOK.out (okR_of (i := i) (j := j) (a := a) (b := b) hkl hkt (by simp only [okB, h1, h2]; rfl) (by simp only [okB, h3, h4]; rfl)))
             go_wp2_with fail
             go_quiet (fail)
             go_wp2_with fail
             go_roundw
             case rel => exact ⟨k + 1, by omega, by go_num, HN.out, hq.then (by first | exact Quiet.refl _ | exact Quiet.drewN _ _ | exact (Quiet.drewN _ _).then (Quiet.drewN _ _) | exact ((Quiet.drewN _ _).then (Quiet.drewN _ _)).then (Quiet.drewN _ _))⟩
             case measure => simp [intOf]; omega)
    · obtain rfl : k = c.2.length := by omega
      have d0 := (cellB hbq hbc).trans c0
      have d1 := (cellB hbq hbc).trans c1
      have HRD : Hid (opT.Rd wr [.int .i64 c.1, .slice ad c.2.length cap] c) := (pair_mk hI HX.out).below hbq
      have HE : Hid (tb (agTo c.2 tu c.2.length) = tb (okT c.2 tu i j a b)) := tb_congr ⟨fun hh => ⟨HOK.out, hh⟩, fun hh => hh.2⟩
      clear e1 e2 e3 e4
      go_wp2_with fail
      refine (agrees_any (cs := #[.int .i64 c.1, .slice ad c.2.length cap]) _ HRD.out (HT.out.below hbq) HL.out).mono ?_
      rintro e w2 ⟨rfl, hb2⟩
      go_wp2_with fail
      go_ret
      exact ⟨ret_bool HE.out, bthen hbq hb2⟩
/-- does a constraint, by itself, leave a pair of values? -/
noncomputable def tellsB (t : Int × List (Int × List (List Int))) (c : Int × List Int) (i j a b : Int) : Bool := match hasI c.2 i, hasI c.2 j with
  | false, false => true
  | _, _ => anyB (fun tu => tb (okT c.2 tu i j a b)) (relAt t c.1).2
theorem tells_no {t : Int × List (Int × List (List Int))} {c : Int × List Int} {i j a b : Int} (h1 : hasI c.2 i = false) (h2 : hasI c.2 j = false) : tellsB t c i j a b = true := by simp only [tellsB, h1, h2]
theorem tells_i {t : Int × List (Int × List (List Int))} {c : Int × List Int} {i j a b : Int} (h1 : hasI c.2 i = true) : tellsB t c i j a b = anyB (fun tu => tb (okT c.2 tu i j a b)) (relAt t c.1).2 := by simp only [tellsB, h1]
theorem tells_j {t : Int × List (Int × List (List Int))} {c : Int × List Int} {i j a b : Int} (h1 : hasI c.2 i = false) (h2 : hasI c.2 j = true) : tellsB t c i j a b = anyB (fun tu => tb (okT c.2 tu i j a b)) (relAt t c.1).2 := by simp only [tellsB, h1, h2]
set_option maxHeartbeats 3200000 in
set_option maxRecDepth 100000 in
theorem allows_any (w : World) {cs ct : Array Value} {t : Int × List (Int × List (List Int))} {c : Int × List Int} (h : opT.Rd w cs.toList c) (ht : tplT.Rd w ct.toList t) {vars : Int} (hT : tplOk t) (hC : conOk t vars c) (i j a b : Int) :
    Calls Try.prog 93 #[.agg cs, .agg ct, .int .i64 i, .int .i64 j, .int .i64 a, .int .i64 b] w fun e w' => e = .returned (.bool (tellsB t c i j a b)) ∧ Below w.heap.size w w' := by
  obtain ⟨u, hv, hI, hx⟩ := pair_ex h
  obtain rfl := agg_of hv
  obtain ⟨sa, sn, sc, rfl⟩ := rd_sl hx
  obtain ⟨u2, hv2, hIt, htx⟩ := pair_ex ht
  obtain rfl := agg_of hv2
  obtain ⟨ta, tc, htv, -, -, htcell⟩ := pairs_ex htx
  obtain rfl : u2 = _ := by simpa using htv
  obtain ⟨kk, hkc⟩ : ∃ kk : Nat, c.1 = kk := ⟨c.1.toNat, by have := hC.1; omega⟩
  have hkk : kk < t.2.length := by have := hC.1; omega
  obtain ⟨tb0, to0, rfl, htb, hte⟩ := htcell (by omega)
  obtain ⟨uu, huu, -, he0, he1⟩ := hte kk hkk
  obtain ⟨ra, rn, rc, rfl⟩ := rd_sl huu
  have hlen : ∀ tu ∈ (t.2[kk]).2, tu.length = c.2.length := fun tu htu => by
    obtain ⟨q, hq, rfl⟩ := List.mem_iff_getElem.1 htu
    have h1 := ((hT.2.2 _ (List.getElem_mem hkk)).2.2 q hq).1.1
    have h2 := hC.2.1
    rw [hkc, arOf_nat hkk] at h2
    omega
  have HLEN := Lib.hid hlen
  have HX := Lib.hid hx
  have HUU := Lib.hid huu
  have HRA : Hid ((relAt t c.1).2 = (t.2[kk]).2) := by unfold Hid; rw [hkc, relAt_nat hkk]
  have HKC := Lib.hid hkc
  rw [hkc] at hI
  clear h ht hv hv2 hx htx htv htcell hte huu he0 hT hC hlen
  go_enter Try.func93, Try.ntmps93
  rw [HKC.out]
  clear hkc
  go_wp2_with fail
  generalize hW : World.alloc _ _ = W
  have hbW : Below w.heap.size w W := hW ▸ (((((bAA (w := w)).alloc (by simp; omega) _).alloc (by simp; omega) _).alloc (by simp; omega) _).alloc (by simp; omega) _)
  have hsW : W.heap.size = w.heap.size + 6 := by rw [← hW]; simp
  have c0 : W.cell? ⟨w.heap.size, 0, none⟩ = some (.int .i64 (kk : Int)) := by rw [← hW]; simp [go_sem]
  have c1 : W.cell? ⟨w.heap.size, 1, none⟩ = some (.slice sa sn sc) := by rw [← hW]; simp [go_sem]
  have t1 : W.cell? ⟨w.heap.size + 1, 1, none⟩ = some (.slice (some ⟨tb0, to0, none⟩) t.2.length tc) := by rw [← hW]; simp [go_sem]
  have x0 : W.cell? ⟨w.heap.size + 2, 0, none⟩ = some (.int .i64 i) := by rw [← hW]; simp [go_sem]
  have x1 : W.cell? ⟨w.heap.size + 3, 0, none⟩ = some (.int .i64 j) := by rw [← hW]; simp [go_sem]
  have x2 : W.cell? ⟨w.heap.size + 4, 0, none⟩ = some (.int .i64 a) := by rw [← hW]; simp [go_sem]
  have x3 : W.cell? ⟨w.heap.size + 5, 0, none⟩ = some (.int .i64 b) := by rw [← hW]; simp [go_sem]
  have d1 := (hbW.cell htb).trans he1
  have HXW := Lib.hid (HX.out.below hbW)
  have HUW := Lib.hid (HUU.out.below hbW)
  clear hW he1
  have c0' : W.cell? ⟨w.heap.size, 0, none⟩ = some (.int .i64 c.1) := by rw [HKC.out]; exact c0
  have hIc : I64 c.1 := by rw [HKC.out]; exact hI
  have HPF : Hid (∀ W', Below W.heap.size W W' → ∀ k (h : k < (t.2[kk]).2.length) (u : Value), intsT.Rd W' [u] (t.2[kk]).2[k] → Calls Try.prog 140 (#[u] ++ #[.pointer (some ⟨w.heap.size, 0, none⟩), .pointer (some ⟨w.heap.size + 2, 0, none⟩), .pointer (some ⟨w.heap.size + 4, 0, none⟩), .pointer (some ⟨w.heap.size + 3, 0, none⟩), .pointer (some ⟨w.heap.size + 5, 0, none⟩)]) W' fun e W'' => e = .returned (.bool (tb (okT c.2 (t.2[kk]).2[k] i j a b))) ∧ Below W'.heap.size W' W'') := by
    intro W' hW' k hk u hu
    have hz := hW'.size
    exact allows1_any W' hu (HLEN.out _ (List.getElem_mem hk)) i j a b _ _ _ _ _ (by omega) ((cellB hW' (by omega)).trans c0') ((cellB hW' (by omega)).trans c1) hIc (HXW.out.below hW') ((cellB hW' (by omega)).trans x0) ((cellB hW' (by omega)).trans x2) ((cellB hW' (by omega)).trans x1) ((cellB hW' (by omega)).trans x3)
  clear c0' hIc
  refine (ContainsI_any _ HXW.out i).mono ?_
  rintro e _ ⟨rfl, rfl⟩
  cases h1 : hasI c.2 i
  · go_wp2_with fail
    refine (ContainsI_any _ HXW.out j).mono ?_
    rintro e _ ⟨rfl, rfl⟩
    cases h2 : hasI c.2 j
    · have HE := Lib.hid (tells_no (t := t) (a := a) (b := b) h1 h2)
      clear h1 h2
      go_wp2_with fail
      go_ret
      exact ⟨ret_bool HE.out.symm, hbW⟩
    · have HE := Lib.hid (tells_j (t := t) (a := a) (b := b) h1 h2)
      rw [HRA.out] at HE
      clear h1 h2
      go_wp2_with fail
      refine (ContainsFuncInts_any _ HUW.out (fun tu => tb (okT c.2 tu i j a b)) 140 _ (enters Try.func140 (by kernel_rfl) rfl) HPF.out).mono ?_
      rintro e w2 ⟨rfl, hb2⟩
      go_wp2_with fail
      go_ret
      exact ⟨ret_bool HE.out.symm, bthen hbW hb2⟩
  · have HE := Lib.hid (tells_i (t := t) (j := j) (a := a) (b := b) h1)
    rw [HRA.out] at HE
    clear h1
    go_wp2_with fail
    refine (ContainsFuncInts_any _ HUW.out (fun tu => tb (okT c.2 tu i j a b)) 140 _ (enters Try.func140 (by kernel_rfl) rfl) HPF.out).mono ?_
    rintro e w2 ⟨rfl, hb2⟩
    go_wp2_with fail
    go_ret
    exact ⟨ret_bool HE.out.symm, bthen hbW hb2⟩
end Go.Proofs.Ytbpjejhjlmpcjaa
