/-
  Contracts: merging variables of an instance: writes into new memory, plain parts; the program's.
-/
import Derived.Test.YtigclobkmocfkaaK33
import Derived.Test.YtigclobkmocfkaaMark
namespace Go.Proofs.Ytigclobkmocfkaa
open Go.RowKit Go.Sort
/-- a slice of a row of structs, rewritten in place -/
theorem pairs_sub {α : Type} {E : Ty α} {w : World} {v : Value} {xs : List (Int × List α)} {fp : List Nat} (h : (Ty.slice (Ty.cons (Ty.slice E))).rd w [v] xs fp) (hn : fp.Nodup) (hu : Unf w fp) {i : Nat} (hi : i < xs.length) :
    ∃ b o cap u f, v = .slice (some ⟨b, o, none⟩) xs.length cap ∧ b < w.heap.size ∧ b ∈ fp ∧ w.cell? ⟨b, o + i * 2, none⟩ = some (.int .i64 xs[i].1) ∧ w.cell? ⟨b, o + i * 2 + 1, none⟩ = some u ∧ (Ty.slice E).rd w [u] xs[i].2 f ∧ f.Nodup ∧ Unf w f ∧ b ∉ f ∧ (∀ k ∈ f, k ∈ fp) ∧
      ∀ w' y, TchF f w w' → (Ty.slice E).rd w' [u] y f → Unf w' f → (Ty.slice (Ty.cons (Ty.slice E))).rd w' [v] (xs.set i (xs[i].1, y)) fp ∧ Unf w' fp ∧ TchF fp w w' := by
  obtain ⟨b, o, cap, fps, hv, hb, rfl, hr, hc⟩ := sl_open h hi
  obtain ⟨n1, n2, n3⟩ := nodup_flat hn hi
  obtain ⟨cs, ⟨cs', rfl, hI, h1⟩, h2⟩ := hr i hi
  obtain ⟨_, _, rfl, _⟩ := id h1
  have hcell0 := h2 0 (by simp)
  have hcell1 := h2 1 (by simp)
  simp [Ty.slice, Ty.cons] at hcell0 hcell1
  have hsub : ∀ k ∈ fps i, k ∈ b :: (List.range xs.length).flatMap fps := fun k hk => List.mem_cons_of_mem _ (List.mem_flatMap.2 ⟨i, by simpa using hi, hk⟩)
  refine ⟨b, o, cap, _, fps i, hv, hb, List.mem_cons_self .., hcell0, hcell1, h1, n1, fun k hk => hu k (hsub k hk), n2, hsub, fun w' y ht hy hu' => ?_⟩
  have hbl : ∀ q, w'.cell? ⟨b, q, none⟩ = w.cell? ⟨b, q, none⟩ := fun q => ht.cell hb n2
  refine ⟨hc _ _ (hr.put hi (fun j hj hne => ⟨ht.same fun k hk => ⟨?_, n3 j hj hne k hk⟩, fun q _ => hbl _⟩) ⟨_, ⟨_, rfl, hI, hy⟩, fun j hj => ?_⟩) (by simp) (Nat.lt_of_lt_of_le hb ht.size), fun k hk q => ?_, ht.mono hsub⟩
  · obtain ⟨cs', h3, _⟩ := hr j hj
    exact (Ty.cons (Ty.slice E)).lt h3 k hk
  · rw [hbl]; exact h2 j hj
  · by_cases hk' : k ∈ fps i
    · exact hu' k hk' q
    · rw [ht.frozen ((Ty.slice (Ty.cons (Ty.slice E))).lt h k hk) hk']; exact hu k hk q
/-- the first ones mapped -/
def mixL {α : Type} (g : α → α) (xs : List α) (i : Nat) : List α := mkAt (fun _ x => g x) (fun _ => 0) 0 xs i
section
variable {α : Type} {g : α → α} {xs : List α} {i : Nat}
theorem mkL_map : ∀ {xs : List α} {k : Int}, mkL (fun _ x => g x) (fun _ => 0) k xs = xs.map g
  | [], _ => rfl
  | x :: r, k => by simp only [mkL, List.map_cons]; rw [mkL_map (xs := r)]
theorem mixL_zero : mixL g xs 0 = xs := mkAt_zero
theorem mixL_full : mixL g xs xs.length = xs.map g := by unfold mixL; rw [mkAt_full, mkL_map]
theorem mixL_len : (mixL g xs i).length = xs.length := mkAt_len
theorem mixL_get (h : i < xs.length) (h' : i < (mixL g xs i).length) : (mixL g xs i)[i] = xs[i] := mkAt_get h h'
theorem mixL_set (h : i < xs.length) : (mixL g xs i).set i (g xs[i]) = mixL g xs (i + 1) := mkAt_set h
end
theorem mix_sub {w : World} {v : Value} {G : Int × List Int → Int × List Int} {xs : List (Int × List Int)} {k : Nat} {fp : List Nat} (h : opsT.rd w [v] (mixL G xs k) fp) (hn : fp.Nodup) (hu : Unf w fp) (hk : k < xs.length) (hG : (G xs[k]).1 = (xs[k]).1) :
    ∃ b o cap a n c f, v = .slice (some ⟨b, o, none⟩) xs.length cap ∧ b < w.heap.size ∧ b ∈ fp ∧ w.cell? ⟨b, o + k * 2, none⟩ = some (.int .i64 (xs[k]).1) ∧ w.cell? ⟨b, o + k * 2 + 1, none⟩ = some (.slice a n c) ∧ intsT.rd w [.slice a n c] (xs[k]).2 f ∧ n = (xs[k]).2.length ∧ f.Nodup ∧ Unf w f ∧ b ∉ f ∧ (∀ k ∈ f, k ∈ fp) ∧
      ∀ w', TchF f w w' → intsT.rd w' [.slice a n c] (G xs[k]).2 f → Unf w' f → opsT.rd w' [v] (mixL G xs (k + 1)) fp ∧ Unf w' fp ∧ TchF fp w w' := by
  have hk' : k < (mixL G xs k).length := by rw [mixL_len]; exact hk
  obtain ⟨b, o, cap, u, f, h1, h2, h3, h4, h5, h6, h7, h8, h9, h10, h11⟩ := pairs_sub h hn hu hk'
  rw [mixL_get hk] at h4 h6
  obtain ⟨a, c, hu2⟩ := rd_slice ⟨f, h6⟩
  subst hu2
  rw [mixL_len] at h1
  refine ⟨b, o, cap, a, _, c, f, h1, h2, h3, h4, h5, h6, rfl, h7, h8, h9, h10, fun w' g1 g2 g3 => ?_⟩
  obtain ⟨e1, e2, e3⟩ := h11 w' (G xs[k]).2 g1 g2 g3
  rw [mixL_get hk, ← hG] at e1
  have e4 := mixL_set (g := G) hk
  rw [← e4]
  exact ⟨e1, e2, e3⟩
theorem TchF.belowB {fp : List Nat} {a b : World} {B : Nat} (h : TchF fp a b) (hf : ∀ k ∈ fp, B ≤ k) (hB : B ≤ a.heap.size) : Below B a b :=
  ⟨h.os, h.tape, h.output, h.size, fun k hk => h.block k (Nat.lt_of_lt_of_le hk hB) fun hm => Nat.not_lt.2 (hf k hm) hk⟩
theorem mix_keep {g : Int → Int} {xs : List Int} {i : Nat} (h : i < xs.length) (hg : g xs[i] = xs[i]) : mixL g xs i = mixL g xs (i + 1) := by
  have h' : i < (mixL g xs i).length := by rw [mixL_len]; exact h
  have e := mixL_set (g := g) h
  rw [hg, ← mixL_get (g := g) h h', List.set_getElem_self] at e
  exact e
def mergeTo (lo hi v : Int) : Int := match decide (v = hi), decide (hi < v) with
  | true, _ => lo
  | false, true => v - 1
  | false, false => v
theorem merge_eq {lo hi v : Int} (h : v = hi) : mergeTo lo hi v = lo := by simp [mergeTo, h]
theorem merge_gt {lo hi v : Int} (h : hi < v) : mergeTo lo hi v = v - 1 := by
  have : ¬ v = hi := by omega
  simp [mergeTo, h, this]
theorem merge_lt {lo hi v : Int} (h : v < hi) : mergeTo lo hi v = v := by
  have h1 : ¬ v = hi := by omega
  have h2 : ¬ hi < v := by omega
  simp [mergeTo, h1, h2]
theorem merge_I {lo hi v : Int} (h : 0 ≤ v ∧ v ≤ 1000) (h2 : 0 ≤ lo ∧ lo ≤ 1000) : I64 (mergeTo lo hi v) := by
  rcases Int.lt_trichotomy v hi with h3 | h3 | h3
  · rw [merge_lt h3]; exact I64.small (by omega) (by omega)
  · rw [merge_eq h3]; exact I64.small (by omega) (by omega)
  · rw [merge_gt h3]; exact I64.small (by omega) (by omega)
def inst0 : Int × List (Int × List Int) := (0, [])
theorem fr_inst0 {base : Nat} {w : World} : instT.Fr base w [.int .i64 0, .slice none 0 0] inst0 := fr_cons (I64.small (by omega) (by omega)) fr_nil
theorem cnt_inst0 : cntInst inst0 = 0 := by simp [inst0, cntInst, cntOps, sumL]
def mrgF (x : Int × List (Int × List Int)) (a b : Int) : Int × List (Int × List Int) := (x.1 - 1, rnL (mergeTo (min a b) (max a b)) x.2)
section
variable (t : Int × List (Int × List (List Int))) (x : Int × List (Int × List Int)) (a b : Int)
noncomputable def mrgV : Int × List (Int × List Int) := match tb (instOk t x), inB a 0 (x.1 - 1), inB b 0 (x.1 - 1), (a == b) with
  | true, true, true, false => mrgF x a b
  | _, _, _, _ => inst0
noncomputable def mrgC : Int := match tb (instOk t x), inB a 0 (x.1 - 1), inB b 0 (x.1 - 1), (a == b) with
  | false, _, _, _ => 1
  | true, true, true, false => 0
  | true, _, _, _ => 2
end
section
variable {t : Int × List (Int × List (List Int))} {x : Int × List (Int × List Int)} {a b : Int}
theorem mrg_1 (h : tb (instOk t x) = false) : mrgV t x a b = inst0 ∧ mrgC t x a b = 1 := by simp [mrgV, mrgC, h]
theorem mrg_2 (h : tb (instOk t x) = true) (h2 : inB a 0 (x.1 - 1) = false) : mrgV t x a b = inst0 ∧ mrgC t x a b = 2 := by simp [mrgV, mrgC, h, h2]
theorem mrg_3 (h : tb (instOk t x) = true) (h2 : inB a 0 (x.1 - 1) = true) (h3 : inB b 0 (x.1 - 1) = false) : mrgV t x a b = inst0 ∧ mrgC t x a b = 2 := by simp [mrgV, mrgC, h, h2, h3]
theorem mrg_4 (h : tb (instOk t x) = true) (h2 : inB a 0 (x.1 - 1) = true) (h3 : inB b 0 (x.1 - 1) = true) (h4 : (a == b) = true) : mrgV t x a b = inst0 ∧ mrgC t x a b = 2 := by simp only [mrgV, mrgC, h, h2, h3, h4]; exact ⟨trivial, trivial⟩
theorem mrg_0 (h : tb (instOk t x) = true) (h2 : inB a 0 (x.1 - 1) = true) (h3 : inB b 0 (x.1 - 1) = true) (h4 : (a == b) = false) : mrgV t x a b = mrgF x a b ∧ mrgC t x a b = 0 := by simp only [mrgV, mrgC, h, h2, h3, h4]; exact ⟨trivial, trivial⟩
theorem mrg_cnt : cntInst (mrgV t x a b) ≤ 1000000 := by
  cases h1 : tb (instOk t x)
  · rw [(mrg_1 h1).1, cnt_inst0]; omega
  cases h2 : inB a 0 (x.1 - 1)
  · rw [(mrg_2 h1 h2).1, cnt_inst0]; omega
  cases h3 : inB b 0 (x.1 - 1)
  · rw [(mrg_3 h1 h2 h3).1, cnt_inst0]; omega
  cases h4 : (a == b)
  rotate_left
  · rw [(mrg_4 h1 h2 h3 h4).1, cnt_inst0]; omega
  · rw [(mrg_0 h1 h2 h3 h4).1]
    have h4 := (inst_bd2 h1).1
    have := cntOps_bd (xs := x.2) (inst_scopes h1)
    simp only [mrgF, cntInst, rnL_cnt]
    omega
theorem inst_vals (h : tb (instOk t x) = true) : ∀ c ∈ x.2, ∀ v ∈ c.2, 0 ≤ v ∧ v < x.1 := fun c hc v hv => by
  have h1 := (tb_iff.1 h).2.2.2 c hc
  have := h1.2.2 v hv
  omega
end
theorem rnL_mix {g : Int → Int} (xs : List (Int × List Int)) : xs.map (fun c => (c.1, c.2.map g)) = rnL g xs := rfl
set_option maxHeartbeats 3200000 in
set_option maxRecDepth 100000 in
theorem MergeVariables_any (w : World) {cs cs' : Array Value} {t : Int × List (Int × List (List Int))} {x : Int × List (Int × List Int)} (h : tplT.Rd w cs.toList t) (h' : instT.Rd w cs'.toList x) {a b : Int} :
    Calls Try.prog 26 #[.agg cs, .agg cs', .int .i64 a, .int .i64 b] w (RetAC instT w (mrgV t x a b) (mrgC t x a b)) := by
  have HT0 := Lib.hid h
  have HX0 := Lib.hid h'
  obtain ⟨v1, hv, hI, -⟩ := pair_ex h
  obtain rfl := agg_of hv
  obtain ⟨v2, hv', hI', hxx⟩ := pair_ex h'
  obtain rfl := agg_of hv'
  obtain ⟨ax, nx, cx, rfl⟩ := rd_sl hxx
  clear h hv h' hv' hxx
  go_enter Try.func26, Try.ntmps26
  go_wp2_with fail
  generalize hW : World.alloc _ _ = W
  have hbW : Below w.heap.size w W := hW ▸ ((bAA (w := w)).alloc (by simp; omega) _)
  have hsW : W.heap.size = w.heap.size + 3 := by rw [← hW]; simp
  have x0 : W.cell? ⟨w.heap.size + 1, 0, none⟩ = some (.int .i64 x.1) := by rw [← hW]; simp [go_sem]
  have x1 : W.cell? ⟨w.heap.size + 1, 1, none⟩ = some (.slice ax nx cx) := by rw [← hW]; simp [go_sem]
  have r0 : W.cell? ⟨w.heap.size + 2, 0, none⟩ = some (.int .i64 0) := by rw [← hW]; simp [go_sem]
  have r1 : W.cell? ⟨w.heap.size + 2, 1, none⟩ = some (.slice none 0 0) := by rw [← hW]; simp [go_sem]
  have m0 : W.frozen? ⟨w.heap.size + 2, 0, none⟩ = false := by rw [← hW]; simp [go_sem]
  have m1 : W.frozen? ⟨w.heap.size + 2, 1, none⟩ = false := by rw [← hW]; simp [go_sem]
  clear hW
  refine (ValidInstance_any _ (HT0.out.below hbW) (HX0.out.below hbW)).mono ?_
  rintro e w1 ⟨rfl, hb1⟩
  have hz1 := hb1.size
  have hB1 := bthen hbW hb1
  replace x0 := (cellB hb1 (by omega)).trans x0
  replace x1 := (cellB hb1 (by omega)).trans x1
  replace r0 := (cellB hb1 (by omega)).trans r0
  replace r1 := (cellB hb1 (by omega)).trans r1
  replace m0 := (frozenB hb1 (by omega)).trans m0
  replace m1 := (frozenB hb1 (by omega)).trans m1
  obtain ⟨g0, g1⟩ := set2_cells (x := .int .i64 0) (y := .slice none 0 0) r0 r1
  have hbad : ∀ c : Int, mrgV t x a b = inst0 ∧ mrgC t x a b = c → RetAC instT w (mrgV t x a b) (mrgC t x a b) (.returned (.tuple #[.agg #[.int .i64 0, .slice none 0 0], .int .i64 c])) ((w1.setCell ⟨w.heap.size + 2, 0, none⟩ (.int .i64 0)).setCell ⟨w.heap.size + 2, 1, none⟩ (.slice none 0 0)) := fun c hc =>
    ⟨[.int .i64 0, .slice none 0 0], by rw [hc.2], by rw [hc.1]; exact fr_inst0, (hB1.setCell (by simp) _).setCell (by simp) _⟩
  have HBAD := Lib.hid hbad
  clear hbad
  cases hT : tb (instOk t x)
  · have HR := Lib.hid (mrg_1 (a := a) (b := b) hT)
    clear hT
    go_wp2_with fail
    exact bodyPost_ret (v := .tuple #[.agg #[.int .i64 0, .slice none 0 0], .int .i64 1]) (by simp [results, Try.results26, go_sem, g0, g1]) rfl (HBAD.out _ HR.out)
  obtain ⟨k1, k2⟩ := inst_bd2 hT
  have k3 := (inst_bd hT).2.2
  have K2 := Lib.hid k2
  have K4 := Lib.hid (inst_vals hT)
  clear k2
  go_wp2_with fail
  refine (within_any _ _ _ _).mono ?_
  rintro e _ ⟨rfl, rfl⟩
  cases hA : inB a 0 (x.1 - 1)
  · have HR := Lib.hid (mrg_2 (b := b) hT hA)
    clear hT hA
    go_wp2_with fail
    exact bodyPost_ret (v := .tuple #[.agg #[.int .i64 0, .slice none 0 0], .int .i64 2]) (by simp [results, Try.results26, go_sem, g0, g1]) rfl (HBAD.out _ HR.out)
  go_wp2_with fail
  refine (within_any _ _ _ _).mono ?_
  rintro e _ ⟨rfl, rfl⟩
  cases hB : inB b 0 (x.1 - 1)
  · have HR := Lib.hid (mrg_3 hT hA hB)
    clear hT hA hB
    go_wp2_with fail
    exact bodyPost_ret (v := .tuple #[.agg #[.int .i64 0, .slice none 0 0], .int .i64 2]) (by simp [results, Try.results26, go_sem, g0, g1]) rfl (HBAD.out _ HR.out)
  cases hE : (a == b)
  rotate_left
  · have HR := Lib.hid (mrg_4 hT hA hB hE)
    clear hT hA hB
    go_wp2_with fail
    exact bodyPost_ret (v := .tuple #[.agg #[.int .i64 0, .slice none 0 0], .int .i64 2]) (by simp [results, Try.results26, go_sem, g0, g1]) rfl (HBAD.out _ HR.out)
  have HR := Lib.hid (mrg_0 hT hA hB hE)
  have hA2 := inB_true.1 hA
  have hB2 := inB_true.1 hB
  have hlt1 : w.heap.size + 1 < w1.heap.size := by omega
  have hne : a ≠ b := by simpa using hE
  clear hT hA hB HBAD g0 g1 hE
  rcases (show a < b ∨ b < a by omega) with hab | hab
  have HF : Hid (mrgF x a b = (x.1 - 1, rnL (mergeTo a b) x.2)) := by unfold Hid; rw [mrgF, show min a b = a by omega, show max a b = b by omega]
  obtain ⟨lo, rfl⟩ : ∃ lo, lo = a := ⟨_, rfl⟩
  obtain ⟨hi, rfl⟩ : ∃ hi, hi = b := ⟨_, rfl⟩
  rotate_left
  have HF : Hid (mrgF x a b = (x.1 - 1, rnL (mergeTo b a) x.2)) := by unfold Hid; rw [mrgF, show min a b = b by omega, show max a b = a by omega]
  obtain ⟨lo, rfl⟩ : ∃ lo, lo = b := ⟨_, rfl⟩
  obtain ⟨hi, rfl⟩ : ∃ hi, hi = a := ⟨_, rfl⟩
  all_goals
    rw [HF.out] at HR
    clear hne HF
    go_wp2_with fail
    refine (ownInstance_any _ (cs := #[.int .i64 x.1, .slice ax nx cx]) (HX0.out.below hB1) (by omega) K2.out).mono ?_
    rintro e w2 ⟨cs2, rfl, hf2, hb2⟩
    obtain ⟨ua, uc, fp, rfl, hrd, hnd, hbs, hun⟩ : ∃ ua uc fp, cs2 = [.int .i64 x.1, .slice ua x.2.length uc] ∧ opsT.rd w2 [.slice ua x.2.length uc] x.2 fp ∧ fp.Nodup ∧ (∀ b ∈ fp, w1.heap.size ≤ b) ∧ Unf w2 fp := by
      obtain ⟨fp, ⟨cs', rfl, _, hr⟩, h1, h2, h3⟩ := hf2
      obtain ⟨ua, uc, rfl, _⟩ := id hr
      exact ⟨ua, uc, fp, rfl, hr, h1, h2, h3⟩
    have hz2 := hb2.size
    have hB2 := bthen hB1 hb2
    have hfl : ∀ k ∈ fp, k < w2.heap.size := Ty.lt _ hrd
    have HRD := Lib.hid hrd
    have HND := Lib.hid hnd
    have HBS := Lib.hid hbs
    have HUN := Lib.hid hun
    have HFL := Lib.hid hfl
    replace r0 := (cellB hb2 (by omega)).trans r0
    replace r1 := (cellB hb2 (by omega)).trans r1
    replace m0 := (frozenB hb2 (by omega)).trans m0
    replace m1 := (frozenB hb2 (by omega)).trans m1
    clear hf2 hrd hnd hbs hun hfl x0 x1
    go_wp2_with fail
    generalize hW : World.alloc w2 _ = w3
    have hb3 : Below w2.heap.size w2 w3 := hW ▸ bA
    have hs3 : w3.heap.size = w2.heap.size + 1 := by rw [← hW]; simp
    have y0 : w3.cell? ⟨w2.heap.size, 0, none⟩ = some (.int .i64 (x.1 - 1)) := by rw [← hW]; simp
    have y1 : w3.cell? ⟨w2.heap.size, 1, none⟩ = some (.slice ua x.2.length uc) := by rw [← hW]; simp
    replace r0 := (cellB hb3 (by omega)).trans r0
    replace r1 := (cellB hb3 (by omega)).trans r1
    replace m0 := (frozenB hb3 (by omega)).trans m0
    replace m1 := (frozenB hb3 (by omega)).trans m1
    clear hW
    go_loopw [59] (fun i wr => ∃ k : Nat, k ≤ x.2.length ∧ i = .int .i64 k ∧ opsT.rd wr [.slice ua x.2.length uc] (mixL (fun c => (c.1, c.2.map (mergeTo lo hi))) x.2 k) fp ∧ Unf wr fp ∧ TchF fp w3 wr) (fun i _ => x.2.length - (intOf i).toNat)
    case atStart => exact ⟨0, Nat.zero_le _, rfl, by rw [mixL_zero]; exact Ty.same _ HRD.out (Same.below hb3 HFL.out), HUN.out.same (Same.below hb3 HFL.out), TchF.refl _ _⟩
    case round =>
      obtain ⟨k, hk, rfl, hrk, huk, htk⟩ := hrel
      have HRK := Lib.hid hrk
      have HUK := Lib.hid huk
      have HTK := Lib.hid htk
      have hzr := htk.size
      clear hrk huk htk
      by_cases hkl : k < x.2.length
      · obtain ⟨b, o, cap, a, n, c, f, hv, hbl, hbf, c0, c1, hrf, hnl, hnf, huf, hbnf, hsub, hfin⟩ := mix_sub HRK.out HND.out HUK.out hkl rfl
        simp only [Value.slice.injEq, true_and] at hv
        obtain ⟨rfl, rfl⟩ := hv
        subst hnl
        have HRF := Lib.hid hrf
        have HNF := Lib.hid hnf
        have HUF := Lib.hid huf
        have HSUB := Lib.hid hsub
        have HFIN := Lib.hid hfin
        have hlk := K2.out _ (List.getElem_mem hkl)
        clear hrf hnf huf hsub hfin hbnf hbf
        go_wp2_with fail
        generalize hWa : World.alloc wr _ = wa
        have hba : Below wr.heap.size wr wa := hWa ▸ bA
        have hsa : wa.heap.size = wr.heap.size + 1 := by rw [← hWa]; simp
        have e1 : wa.cell? ⟨wr.heap.size, 1, none⟩ = some (.slice a (x.2[k]).2.length c) := by rw [← hWa]; simp
        have hfw : ∀ k ∈ f, k < wr.heap.size := Ty.lt _ HRF.out
        have HFW := Lib.hid hfw
        clear hWa c0 c1 hfw
        obtain ⟨wo, rfl⟩ : ∃ wo : World, wo = wr := ⟨_, rfl⟩
        go_loopw [66] (fun i wr => ∃ j : Nat, j ≤ (x.2[k]).2.length ∧ i = .int .i64 j ∧ intsT.rd wr [.slice a (x.2[k]).2.length c] (mixL (mergeTo lo hi) (x.2[k]).2 j) f ∧ Unf wr f ∧ TchF f wa wr) (fun i _ => (x.2[k]).2.length - (intOf i).toNat)
        case atStart => exact ⟨0, Nat.zero_le _, rfl, by rw [mixL_zero]; exact Ty.same _ HRF.out (Same.below hba HFW.out), HUF.out.same (Same.below hba HFW.out), TchF.refl _ _⟩
        case round =>
          obtain ⟨j, hj, rfl, hrj, huj, htj⟩ := hrel
          have HRJ := Lib.hid hrj
          have HUJ := Lib.hid huj
          have HTJ := Lib.hid htj
          have hzi := htj.size
          have hnw : wo.heap.size ∉ f := fun hm => Nat.lt_irrefl _ (HFW.out _ hm)
          have e2 := (htj.cell (by omega) hnw).trans e1
          clear hrj huj htj
          by_cases hjl : j < (x.2[k]).2.length
          · have hjl' : j < (mixL (mergeTo lo hi) (x.2[k]).2 j).length := by rw [mixL_len]; exact hjl
            obtain ⟨b2, o2, cap2, hv2, hb2l, hc2, hfz2, hset⟩ := ints_mark HRJ.out HNF.out HUJ.out hjl'
            rw [mixL_len] at hv2
            simp only [Value.slice.injEq, true_and] at hv2
            obtain ⟨rfl, rfl⟩ := hv2
            rw [mixL_get hjl] at hc2
            have hvl := K4.out _ (List.getElem_mem hkl) _ (List.getElem_mem hjl)
            have HSET := Lib.hid hset
            have HMS := Lib.hid (mixL_set (g := mergeTo lo hi) hjl)
            clear hset
            rcases Int.lt_trichotomy ((x.2[k]).2[j]) hi with hc | hc | hc
            · have HK := Lib.hid (mix_keep (g := mergeTo lo hi) hjl (merge_lt hc))
              go_wp2_with fail
              go_roundw
              case rel => exact ⟨j + 1, by omega, by go_num, by rw [← HK.out]; exact HRJ.out, HUJ.out, HTJ.out⟩
              case measure => simp [intOf]; omega
            · have HE := Lib.hid (merge_eq (lo := lo) hc)
              obtain ⟨s1, s2, s3⟩ := HSET.out lo (I64.small (by omega) (by omega))
              have HS1 := Lib.hid s1
              have HS2 := Lib.hid s2
              have HS3 := Lib.hid s3
              have hc' : ((x.2[k]).2[j] == hi) = true := by simpa using hc
              clear s1 s2 s3 hc
              go_wp2_with fail
              go_roundw
              case rel => exact ⟨j + 1, by omega, by go_num, by rw [← HMS.out, HE.out]; exact HS1.out, HS2.out, HTJ.out.trans HS3.out⟩
              case measure => simp [intOf]; omega
            · have HE := Lib.hid (merge_gt (lo := lo) hc)
              obtain ⟨s1, s2, s3⟩ := HSET.out ((x.2[k]).2[j] - 1) (I64.small (by omega) (by omega))
              have HS1 := Lib.hid s1
              have HS2 := Lib.hid s2
              have HS3 := Lib.hid s3
              clear s1 s2 s3
              go_wp2_with fail
              go_roundw
              case rel => exact ⟨j + 1, by omega, by go_num, by rw [← HMS.out, HE.out]; exact HS1.out, HS2.out, HTJ.out.trans HS3.out⟩
              case measure => simp [intOf]; omega
          · obtain rfl : j = (x.2[k]).2.length := by omega
            rw [mixL_full] at HRJ
            obtain ⟨s1, s2, s3⟩ := HFIN.out wr ((Below.tchF hba f).trans HTJ.out) HRJ.out HUJ.out
            have HS1 := Lib.hid s1
            have HS2 := Lib.hid s2
            have HS3 := Lib.hid s3
            clear s1 s2 s3
            go_wp2_with fail
            go_roundw
            case rel => exact ⟨k + 1, by omega, by go_num, HS1.out, HS2.out, HTK.out.trans HS3.out⟩
            case measure => simp [intOf]; omega
      · obtain rfl : k = x.2.length := by omega
        rw [mixL_full] at HRK
        have hb3r : Below w1.heap.size w3 wr := HTK.out.belowB HBS.out (by omega)
        have hnB : w2.heap.size ∉ fp := fun hm => Nat.lt_irrefl _ (HFL.out _ hm)
        have z0 := (HTK.out.cell (by omega) hnB).trans y0
        have z1 := (HTK.out.cell (by omega) hnB).trans y1
        replace r0 := (cellB hb3r (by omega)).trans r0
        replace r1 := (cellB hb3r (by omega)).trans r1
        replace m0 := (frozenB hb3r (by omega)).trans m0
        replace m1 := (frozenB hb3r (by omega)).trans m1
        have hBr : Below w.heap.size w wr := (bthen hB2 hb3).trans (hb3r.mono (by omega))
        have hl3 : w.heap.size + 2 < wr.heap.size := by omega
        obtain ⟨g0, g1⟩ := set2_cells (x := .int .i64 (x.1 - 1)) (y := .slice ua x.2.length uc) r0 r1
        have HFR : Hid (instT.Fr w1.heap.size wr [.int .i64 (x.1 - 1), .slice ua x.2.length uc] (x.1 - 1, rnL (mergeTo lo hi) x.2)) := fr_cons (I64.small (by omega) (by omega)) ⟨fp, HRK.out, HND.out, HBS.out, HUK.out⟩
        clear y0 y1
        go_wp2_with fail
        refine bodyPost_ret (v := .tuple #[.agg #[.int .i64 (x.1 - 1), .slice ua x.2.length uc], .int .i64 0]) (by simp [results, Try.results26, go_sem, g0, g1]) rfl ⟨[.int .i64 (x.1 - 1), .slice ua x.2.length uc], by rw [HR.out.2], ?_, (hBr.setCell (by simp; omega) _).setCell (by simp; omega) _⟩
        rw [HR.out.1]
        exact (fr_set2 HFR.out (by omega)).mono (by omega)
end Go.Proofs.Ytigclobkmocfkaa
