/-
Contracts: how many lists a finder looks at; the code of a template and an arity; polymorphisms counted, the program's.
 Contracts: the reference's search for operations, begun. (The orders of its region are printed by gen_bg.py.)
 Contracts: polymorphisms counted, the reference's; whether there is but one, both sides.
 Contracts: whether there is but one polymorphism of one place, both sides.
 Contracts: the operations that a search finds, listed: the program's listener, and the reference's.
-/
import Derived.Test.YtajmjfbejfiipaaGreatQAF
import Derived.Test.YtajmjfbejfiipaaGreatQAG
namespace Go.Proofs.YtajmjfbejfiipaaGreat
open Go.RowKit Go.Sort
noncomputable def askC (t : Tpl) (ar : Int) : Int := match tb (tplOk t), inB ar 1 3 with
 | false, _ => 1
 | true, false => 2
 | true, true => 0
theorem ask_1 {t : Tpl} {ar : Int} (h : tb (tplOk t) = false) : askC t ar = 1 := by simp [askC, h]
theorem ask_2 {t : Tpl} {ar : Int} (h : tb (tplOk t) = true) (h' : inB ar 1 3 = false) : askC t ar = 2 := by simp [askC, h, h']
theorem ask_0 {t : Tpl} {ar : Int} (h : tb (tplOk t) = true) (h' : inB ar 1 3 = true) : askC t ar = 0 := by simp [askC, h, h']
theorem ask_ok {t : Tpl} {ar : Int} (h : askC t ar = 0) : tplOk t ∧ 1 ≤ ar ∧ ar ≤ 3 := by
 cases h1 : tb (tplOk t)
 ·rw [ask_1 h1] at h; cases h
 ·cases h2 : inB ar 1 3
  ·rw [ask_2 h1 h2] at h; cases h
  ·exact ⟨tb_iff.1 h1, inB_true.1 h2⟩
/-- a whole search -/
def tabL (t : Tpl) (ar : Int) : Nat := (t.1 ^ ar.toNat).toNat
noncomputable def okF (t : Tpl) (ar : Int) : List Int → Bool := goesF t (duesF (looksA t ar.toNat) (tabL t ar))
noncomputable def polyF (t : Tpl) (ar : Int) (fx : List Int) (yc : List (List Int) → Int) : FR := srch t.1.toNat (okF t ar) fx yc (tabL t ar) [] (0, 0, [])
def fxN (t : Tpl) (ar : Int) : List Int := List.replicate (tabL t ar) (-1)
theorem tabL_of {t : Tpl} {ar : Int} (h : tplOk t) : t.1 ^ ar.toNat = ((tabL t ar : Nat) : Int) := by
 have := pow_nn (s := t.1) (by have := h.1; unfold sizeOk at this; omega) ar.toNat
 unfold tabL
 omega
section
variable {t : Tpl} {ar : Int}
end
theorem tpl_looks {t : Tpl} {ar : Int} (hT : tplOk t) (har : 1 ≤ ar ∧ ar ≤ 3) (hl : limF t ar.toNat = false) : ldueOk t (duesF (looksA t ar.toNat) (tabL t ar)) ∧ (duesF (looksA t ar.toNat) (tabL t ar)).length = tabL t ar ∧ ∀ d ∈ duesF (looksA t ar.toNat) (tabL t ar), d.length ≤ 1000000 := by
 refine ⟨duesF_ok (looksA_ok hT (tabL_of hT) (by omega) _ (Nat.le_refl _)), duesF_len, fun d hd => ?_⟩
 obtain ⟨v, _, rfl⟩ := List.mem_map.1 hd
 have h1 := List.length_filter_le (fun a : Int × List Int => topI a.2 == (v : Int)) (looksA t ar.toNat)
 have h2 := looksA_len hl
 have h3 : (dueF (looksA t ar.toNat) v).length ≤ (looksA t ar.toNat).length := h1
 omega
/-- a row of -1s -/
theorem IR.of_mone {e base : Nat} {w : World} {g N : Nat} (h : w.heap[g]? = some (.cells (mone N N).toArray e (0, 0))) (hb : base ≤ g) (hN : N ≤ 1000) : IR e base w g N N (List.replicate N (-1)) := by
 refine ⟨by simp, fun a ha => by rw [List.eq_of_mem_replicate ha]; exact I64.small (by omega) (by omega), hb, by simp, .inr ⟨g, N, _, rfl, hb, h, Nat.le_refl _, by unfold maxLen; omega, ?_, ?_⟩⟩
 ·rw [mone_full]; simp
 ·rw [mone_full]; simp
theorem IR.fp {e base : Nat} {w : World} {g n cap : Nat} {L : List Int} (_h : IR e base w g n cap L) {fp : List Nat} (h2 : intsT.rd w [.slice (some ⟨g, 0, none⟩) n cap] L fp) : ∀ k ∈ fp, k = g := fun k hk => by
 obtain ⟨ad, cap', hv, -, -, h3⟩ := h2
 rcases h3 with ⟨_, rfl⟩ | ⟨_, b, o, fps, rfl, _, rfl, h4⟩
 ·cases hk
 ·simp only [List.cons.injEq, Value.slice.injEq, Option.some.injEq, Addr.mk.injEq, and_true] at hv
  obtain ⟨⟨rfl, rfl⟩, -, -⟩ := hv
  rcases List.mem_cons.1 hk with rfl | hk
  ·rfl
  ·obtain ⟨i, hi, hk⟩ := List.mem_flatMap.1 hk
   obtain ⟨cs, ⟨_, _, hf⟩, _⟩ := h4 i (by simpa using hi)
   rw [hf] at hk
   cases hk
set_option maxHeartbeats 800000 in
theorem searchFault_any (w : World) {cs : Array Value} {t : Tpl} (h : tplT.Rd w cs.toList t) (ar : Int) :
  Calls Tryz.prog 55 #[.agg cs, .int .i64 ar] w fun e w' => e = .returned (.int .i64 (askC t ar)) ∧ Below w.heap.size w w' := by
 have HT := Lib.hid h
 obtain ⟨v1, hv, -, -⟩ := pair_ex h
 obtain rfl := agg_of hv
 clear h hv
 go_enter Tryz.func55, Tryz.ntmps55
 go_wp2_with fail
 generalize hW : World.alloc _ _ = W
 have hbW : Below w.heap.size w W := hW ▸ bA
 clear hW
 refine (ValidTemplate_any _ (HT.out.below hbW)).mono ?_
 rintro e w1 ⟨rfl, hb1⟩
 have hB1 := bthen hbW hb1
 cases h1 : tb (tplOk t)
 ·have HA := Lib.hid (ask_1 (ar := ar) h1)
  clear h1
  go_wp2_with fail
  go_ret
  exact ⟨ret_int HA.out.symm, hB1⟩
 ·go_wp2_with fail
  refine (isOpArity_any ar _).mono ?_
  rintro e _ ⟨rfl, rfl⟩
  cases h2 : inB ar 1 3
  ·have HA := Lib.hid (ask_2 h1 h2)
   clear h1 h2
   go_wp2_with fail
   go_ret
   exact ⟨ret_int HA.out.symm, hB1⟩
  ·have HA := Lib.hid (ask_0 h1 h2)
   clear h1 h2
   go_wp2_with fail
   go_ret
   exact ⟨ret_int HA.out.symm, hB1⟩
def minP (ar : Nat) (r : Int × List (List Int)) : Int := min 4001 ((r.2.length : Int) ^ ar)
theorem minP_bd {ar : Nat} (r : Int × List (List Int)) : 0 ≤ minP ar r ∧ minP ar r ≤ 4001 := by
 unfold minP
 have := pow0 (n := r.2.length) (ar := ar)
 omega
theorem minS_bd {ar : Nat} : ∀ {xs : List (Int × List (List Int))}, 0 ≤ sumL (minP ar) xs ∧ sumL (minP ar) xs ≤ xs.length * 4001
 | [] => by simp [sumL]
 | x :: r => by
  have h1 := minP_bd (ar := ar) x
  have h2 := minS_bd (ar := ar) (xs := r)
  simp only [sumL, List.length_cons]
  omega
set_option maxHeartbeats 1600000 in
set_option maxRecDepth 100000 in
theorem manyLooks_any (w : World) {cs : Array Value} {t : Tpl} (h : tplT.Rd w cs.toList t) (hT : tplOk t) {ar : Int} (har : 1 ≤ ar ∧ ar ≤ 3) :
  Calls Tryz.prog 56 #[.agg cs, .int .i64 ar] w fun e w' => e = .returned (.int .i64 (sumL (minP ar.toNat) t.2)) ∧ Below w.heap.size w w' := by
 obtain ⟨v1, hv, -, hx⟩ := pair_ex h
 obtain rfl := agg_of hv
 obtain ⟨ra, rc, hv1, -, -, hrce⟩ := pairs_ex hx
 obtain rfl : v1 = _ := by simpa using hv1
 have HRC := Lib.hid hrce
 have HT := Lib.hid hT
 have hl6 := hT.2.1
 clear h hv hx hv1 hrce hT
 go_enter Tryz.func56, Tryz.ntmps56
 go_wp2_with fail
 generalize hW : World.alloc _ _ = W
 have hbW : Below w.heap.size w W := hW ▸ bA
 have t1 : W.cell? ⟨w.heap.size, 1, none⟩ = some (.slice ra t.2.length rc) := by rw [← hW]; simp
 clear hW
 go_wp2_with fail
 clear t1
 go_loopw [11, 5] (fun i s wr => ∃ k : Nat, k ≤ t.2.length ∧ i = .int .i64 k ∧ s = .int .i64 (sumL (minP ar.toNat) (t.2.take k)) ∧ Below w.heap.size w wr) (fun i _ _ => t.2.length - (intOf i).toNat)
 case atStart => exact ⟨0, Nat.zero_le _, rfl, by simp [sumL], hbW⟩
 case round =>
  obtain ⟨k, hk, rfl, rfl, hbe⟩ := hrel
  have hze := hbe.size
  clear hbW
  by_cases hkl : k < t.2.length
  ·obtain ⟨b, o, rfl, hb, hce⟩ := HRC.out (by omega)
   obtain ⟨u, hu, -, g0, g1⟩ := hce k hkl
   obtain ⟨ua, uc, rfl⟩ := rd_slice hu
   have hr := HT.out.2.2 _ (List.getElem_mem hkl)
   have hrl := rel_len_le hr
   have d0 := (cellB hbe hb).trans g0
   have d1 := (cellB hbe hb).trans g1
   have HS := Lib.hid (sumL_succ (minP ar.toNat) hkl)
   have hm1 := minP_bd (ar := ar.toNat) t.2[k]
   have hm2 := minS_bd (ar := ar.toNat) (xs := t.2.take k)
   rw [List.length_take] at hm2
   have HMP : Hid (min 4001 (((t.2[k]).2.length : Int) ^ ar.toNat) = minP ar.toNat t.2[k]) := rfl
   have hl256 : (t.2[k]).2.length ≤ 1000 := by omega
   have hwr : IntKind.i64.wrap (sumL (minP ar.toNat) (t.2.take k) + minP ar.toNat t.2[k]) = sumL (minP ar.toNat) (t.2.take k) + minP ar.toNat t.2[k] := wrap_small (by omega) (by omega)
   have HW := Lib.hid hwr
   clear hce hu g0 g1 hr hrl hwr
   go_wp2_with fail
   refine (power_any _ ((t.2[k]).2.length : Int) ar (by omega) (by omega) (by omega)).mono ?_
   rintro e w2 ⟨rfl, hw2⟩
   have hb2 : Below w.heap.size w w2 := by rw [← hw2]; exact hbe.alloc (by omega) _
   clear hw2
   have HMX : Hid (∃ x, ((t.2[k]).2.length : Int) ^ ar.toNat = x) := ⟨_, rfl⟩
   generalize hx : ((t.2[k]).2.length : Int) ^ ar.toNat = x
   have HX : Hid (minP ar.toNat t.2[k] = min 4001 x) := by unfold Hid minP; rw [hx]
   rw [HX.out] at hm1 HW
   have hx0 : 0 ≤ min 4001 x ∧ min 4001 x ≤ 4001 := hm1
   have hS0 : 0 ≤ sumL (minP ar.toNat) (t.2.take k) ∧ sumL (minP ar.toNat) (t.2.take k) ≤ 30000 := by omega
   clear hx HMX HMP hm1
   generalize sumL (minP ar.toNat) (t.2.take k) = S at *
   go_wp2_with fail
   go_roundw
   case rel => exact ⟨k + 1, by omega, by go_num, by rw [HS.out, HX.out]; first | rfl | exact congrArg _ HW.out | exact congrArg _ (by split <;> omega), hb2⟩
   case measure => simp [intOf]; omega
  ·obtain rfl : k = t.2.length := by omega
   rw [List.take_length]
   go_wp2_with fail
   go_ret
   exact ⟨rfl, hbe⟩
theorem infoCondS : (Tryz.prog.info? 289).map (fun i => (i.zero, i.size, i.bytes)) = some (some (.slice none 0 0), 1, 24) := by kernel_rfl
theorem elSetS : ElT Tryz.prog 242 140 1 8 := .mk (z := .pointer none) Tryz.underlying242 (by kernel_rfl) rfl (by decide)
/-- a make of n numbers, in a region -/
theorem step_mkI {P : Program} {K : Act → World → Prop} {Ee : Prop} (w : World) {ops : Array Oper} {o : Oper} {a : Act} {Q : Exit → Act → World → Prop} (hg : o.guard = none) (l c : Operand) (t e : TypeId) {bytes : Nat}
  (hop : o.op = Op.makeSlice t l c) (ht : P.underlying t = some (.slice e)) (hinfo : (P.info? e).map (fun i => (i.zero, i.size, i.bytes)) = some (some (.int .i64 0), 1, bytes)) (base : Nat) (n : Nat) (hl : a.eval l = .int .i64 (n : Int)) (hc : a.eval c = .int .i64 (n : Int)) (hn : n ≤ 1000000000) (hby : bytes ≤ 100000) (hb : base ≤ w.heap.size)
  (hK : ∀ w', IR e base w' w.heap.size n n (List.replicate n 0) → Below w.heap.size w w' → w'.heap.size = w.heap.size + 1 → K (a.put o.dst (.slice (some ⟨w.heap.size, 0, none⟩) n n)) w') :
  if Region.wanted o (yielded ops a.tmps) = true then Oper.wp P o a w K Q else Ee := by
 rw [if_pos (by simp [Region.wanted, hg])]
 obtain ⟨i, hi, hz, hsz, hbt'⟩ := info_parts hinfo
 have hlen' : bytes * n ≤ 281474976710656 := Nat.le_trans (Nat.mul_le_mul hby hn) (by decide)
 have hb48 : (i.bytes : Int) * (n : Int) ≤ 281474976710656 := by
  have h : ((bytes * n : Nat) : Int) ≤ 281474976710656 := by omega
  rw [hbt']
  rwa [Int.natCast_mul] at h
 have hr := run_make (P := P) w t e i (.int .i64 0) ht hi hz .i64 .i64 (n : Int) (n : Int) (by omega) (Int.le_refl _) hb48 (by omega)
 simp only [Int.toNat_natCast] at hr
 unfold Oper.wp
 simp only [execOp, hop, hl, hc, hr, Result.andThen_ok, Sem.run_bind, Sem.run_pure]
 have hown := World.ownsRow_lit (base := base) (e := e) (size := 1) w (madeCells (Value.int .i64 0).cells (n * i.size)) n hb (by unfold maxLen; omega) (by rw [size_madeCells, hsz])
 refine hK _ ⟨by simp, fun a ha => ?_, hb, ?_⟩ ((Below.refl _ w).alloc (Nat.le_refl _) _) (by simp)
 ·rw [List.eq_of_mem_replicate ha]; exact I64.small (by omega) (by omega)
 ·have e1 : (madeCells (Value.int .i64 0).cells (n * i.size)).toList = (List.replicate n (0 : Int)).map (Value.int .i64) := by
   rw [hsz, Nat.mul_one, List.map_replicate]
   have hc0 : (Value.int .i64 0).cells = #[.int .i64 0] := by simp [Value.cells]
   rw [hc0]
   exact toList_madeCells_one (.int .i64 0) n
  rw [← e1]
  exact hown
/-- what a search that has begun is -/
def BgR (w : World) (t : Tpl) (ar : Int) (e : Ending) (w' : World) : Prop :=
 Below w.heap.size w w' ∧ ((limF t ar.toNat = true ∧ e = .returned (.tuple #[.pointer none, .int .i64 3])) ∨
  (limF t ar.toNat = false ∧ ∃ br gt, e = .returned (.tuple #[.pointer (some ⟨br, 0, none⟩), .int .i64 0]) ∧ w.heap.size ≤ br ∧ w.heap.size ≤ gt ∧ gt ≠ br ∧ w'.frozen? ⟨br, 4, none⟩ = false ∧
   Ru (fun k => k ≠ br ∧ k ≠ gt) w' br t ar (duesF (looksA t ar.toNat) (tabL t ar)) (fxN t ar) ∧ Mc 2 w.heap.size w' br gt (tabL t ar) (List.replicate (tabL t ar) (-1)) 0 false))
def minus (n N : Nat) : List Int := List.replicate n (-1) ++ List.replicate (N - n) 0
theorem minus_set {n N : Nat} (h : n < N) : (minus n N).set n (-1) = minus (n + 1) N := by
 unfold minus
 rw [List.set_append, if_neg (by simp), List.length_replicate, Nat.sub_self, show N - n = N - (n + 1) + 1 by omega, List.replicate_succ, List.set_cons_zero, List.replicate_succ', List.append_assoc]
 rfl
theorem minus_zero {N : Nat} : minus 0 N = List.replicate N 0 := by simp [minus]
theorem minus_full {N : Nat} : minus N N = List.replicate N (-1) := by simp [minus]
def BfR (W : World) (tq tf : Nat) (ar : Int) (N : Nat) (v9 : Value) (wx : World) : Prop :=
 ∃ br gd gf gt, v9 = .pointer (some ⟨br, 0, none⟩) ∧ BxR wx br (.pointer (some ⟨tq, tf, none⟩)) ar gd gf gt N (.slice none 0 0) ∧ IR 2 W.heap.size wx gf N N (List.replicate N 0) ∧ IR 2 W.heap.size wx gt N N (List.replicate N 0) ∧
  (∀ eA top, DU eA 289 wx.heap.size top wx gd N (fun _ => .slice none 0 0) (fun _ => [])) ∧ Below W.heap.size W wx ∧ W.heap.size ≤ br ∧ W.heap.size ≤ gd ∧ br ≠ gd ∧ gf ≠ gd ∧ gt ≠ gd ∧ gf ≠ br ∧ gt ≠ br ∧ gf ≠ gt
set_option maxHeartbeats 12800000 in
set_option maxRecDepth 100000 in
theorem l04Begin_any (w : World) {vt : Value} {t : Tpl} (hPt : tplT.Pt w vt t) (hT : tplOk t) {ar : Int} (har : 1 ≤ ar ∧ ar ≤ 3) :
  Calls Tryz.prog 201 #[vt, .int .i64 ar] w (BgR w t ar) := by
 have HPT := Lib.hid hPt
 obtain ⟨tq, tf, ra, rc, rfl, htq, -, p0, p1, hrls⟩ := pt_pair hPt
 obtain ⟨_, _, he, -, -, hrce⟩ := pairs_ex hrls
 simp only [List.cons.injEq, Value.slice.injEq, and_true, true_and] at he
 obtain ⟨rfl, rfl⟩ := he
 have HRC := Lib.hid hrce
 have HT := Lib.hid hT
 have hs := hT.1
 unfold sizeOk at hs
 have hl6 := hT.2.1
 have hN := tabL_of (ar := ar) hT
 have HNN := Lib.hid hN
 have hNb := tabN_bd (tabN_of hs (ar := ar.toNat) (by omega) hN)
 have HTB : Hid (tabL t ar = tabL t ar) := rfl
 clear hPt hrls hrce hT hN
 go_enter Tryz.func201, Tryz.ntmps201
 go_wp2_with fail
 go_loop [7, 6] (fun i s => ∃ k : Nat, k ≤ t.2.length ∧ i = .int .i64 k ∧ s = .int .i64 (sumL (fun r : Int × List (List Int) => (r.2.length : Int) ^ ar.toNat) (t.2.take k))) (fun i _ => t.2.length - (intOf i).toNat)
 case atStart => exact ⟨0, Nat.zero_le _, rfl, by simp [sumL]⟩
 case round =>
  obtain ⟨k, hk, rfl, rfl⟩ := hrel
  by_cases hkl : k < t.2.length
  ·obtain ⟨b, o, rfl, hb, hce⟩ := HRC.out (by omega)
   obtain ⟨u, hu, -, g0, g1⟩ := hce k hkl
   obtain ⟨ua, uc, rfl⟩ := rd_slice hu
   have hr := HT.out.2.2 _ (List.getElem_mem hkl)
   have hrl := rel_len_le hr
   have HS := Lib.hid (sumL_succ (fun r : Int × List (List Int) => (r.2.length : Int) ^ ar.toNat) hkl)
   have hp0 := pow_le (s := ((t.2[k]).2.length : Int)) (by omega) (by omega) (k := ar.toNat) (by omega)
   have hp1 := pow0 (n := (t.2[k]).2.length) (ar := ar.toNat)
   have hsb : sumL (fun r : Int × List (List Int) => (r.2.length : Int) ^ ar.toNat) (t.2.take k) ≤ ((t.2.take k).length : Int) * 1000000000000000 := sumL_bd (fun r hr => by
    have h1 := rel_len_le (HT.out.2.2 r (List.mem_of_mem_take hr))
    exact pow_le (by omega) (by omega) (by omega))
   have hs0 : 0 ≤ sumL (fun r : Int × List (List Int) => (r.2.length : Int) ^ ar.toNat) (t.2.take k) := sumL_nonneg (fun r => pow0) _
   rw [List.length_take] at hsb
   have hn1 : (t.2[k]).2.length ≤ 1000 := by omega
   have hsb2 : sumL (fun r : Int × List (List Int) => (r.2.length : Int) ^ ar.toNat) (t.2.take k) ≤ 6000000000000000 := by omega
   clear hce hu g0 hr hrl hsb
   go_wp2_with fail
   refine (l01Power_any _ ((t.2[k]).2.length : Int) ar (by omega) (by omega) (by omega)).mono ?_
   rintro e _ ⟨rfl, rfl⟩
   generalize hx : ((t.2[k]).2.length : Int) ^ ar.toNat = x at *
   have HX : Hid (sumL (fun r : Int × List (List Int) => (r.2.length : Int) ^ ar.toNat) (t.2.take (k + 1)) = sumL (fun r : Int × List (List Int) => (r.2.length : Int) ^ ar.toNat) (t.2.take k) + x) := HS.out
   clear hx HS
   generalize sumL (fun r : Int × List (List Int) => (r.2.length : Int) ^ ar.toNat) (t.2.take k) = S at *
   have hwr : IntKind.i64.wrap (S + x) = S + x := wrap_small (by omega) (by omega)
   go_wp2_with fail
   clear hwr
   go_round
   case rel => exact ⟨k + 1, by omega, by go_num, by rw [HX.out]⟩
   case measure => simp [intOf]; omega
  ·obtain rfl : k = t.2.length := by omega
   have HLM : Hid (decide (4000 < sumL (fun r : Int × List (List Int) => (r.2.length : Int) ^ ar.toNat) t.2) = limF t ar.toNat) := rfl
   rw [List.take_length]
   generalize sumL (fun r : Int × List (List Int) => (r.2.length : Int) ^ ar.toNat) t.2 = S at *
   cases hl : decide (4000 < S)
   ·have HLF : Hid (limF t ar.toNat = false) := by unfold Hid; rw [← HLM.out]; exact hl
    go_wp2_with fail
    refine (l01Power_any _ t.1 ar (by omega) (by omega) (by omega)).mono ?_
    rintro e _ ⟨rfl, rfl⟩
    rw [HNN.out]
    obtain ⟨N, hNe⟩ : ∃ N, tabL t ar = N := ⟨_, rfl⟩
    have HNE := Lib.hid hNe
    rw [hNe]
    have hN64 : 1 ≤ N ∧ N ≤ 64 := by rw [← hNe]; exact hNb
    clear hNe hl HTB
    obtain ⟨W, rfl⟩ : ∃ W : World, W = w := ⟨_, rfl⟩
    go_wp2_with fail
    go_cut [9] from 42 to 51 (fun v9 wx => BfR W tq tf ar N v9 wx)
    case rest =>
     obtain ⟨br, gd, gf, gt, rfl, hbx, hif, hit, hdu, hbc, hbrl, hgdl, n1, n2, n3, n4, n5, n6⟩ := hcut
     have HBX := Lib.hid hbx
     have hbr0 := hbx.1
     have hgd0 := (hdu 0 0).lt
     have hgf0 := hif.lt
     have hgt0 := hit.lt
     have hgfl : W.heap.size ≤ gf := hif.2.2.1
     have hgtl : W.heap.size ≤ gt := hit.2.2.1
     have HF := Lib.hid (minus_zero (N := N) ▸ hif)
     have HTT := Lib.hid (minus_zero (N := N) ▸ hit)
     have HDU := Lib.hid hdu
     have hzc := hbc.size
     have c0 := (cellB hbc htq).trans p0
     have c1 := (cellB hbc htq).trans p1
     clear hbx hif hit hdu
     go_wp2_with fail
     go_loopw [10] (fun i wr => ∃ j : Nat, j ≤ N ∧ i = .int .i64 j ∧ IR 2 W.heap.size wr gf N N (minus j N) ∧ IR 2 W.heap.size wr gt N N (minus j N) ∧ TchP (fun k => k = gf ∨ k = gt) wc wr ∧ wr.heap.size = wc.heap.size) (fun i _ => N - (intOf i).toNat)
     case atStart => exact ⟨0, Nat.zero_le _, rfl, HF.out, HTT.out, TchP.refl _ _, rfl⟩
     case round =>
      obtain ⟨j, hj, rfl, hif, hit, htc, hzz⟩ := hrel
      have HIF := Lib.hid hif
      have HIT := Lib.hid hit
      have hzr := htc.size
      have HZZ := Lib.hid hzz
      have hB4 := HBX.out.same (htc.block br hbr0 (fun h => by omega)) hzr
      have HB4 := Lib.hid hB4
      obtain ⟨k0, x0, x1, x2, x3, x4, x5, x6, x7, y2, y4, y6, y7⟩ := hB4
      clear hzz
      by_cases hjl : j < N
      ·obtain ⟨fu, f0⟩ := hif.cell hjl
       have f1 := hif.free j
       obtain ⟨tu, t0⟩ := hit.cell hjl
       have t1 := hit.free j
       have hne1 : ¬ (gf = gt) := n6
       have hne2 : ¬ (gt = gf) := fun h => n6 h.symm
       have hne3 : ¬ (gf = br) := n4
       have hne4 : ¬ (gt = br) := n5
       have hne5 : ¬ (br = gf) := fun h => n4 h.symm
       have hne6 : ¬ (br = gt) := fun h => n5 h.symm
       have HSF := Lib.hid ((hif.set j (a := -1) (I64.small (by omega) (by omega))).same (w' := (wr.setCell ⟨gf, j, none⟩ (.int .i64 (-1))).setCell ⟨gt, j, none⟩ (.int .i64 (-1))) (Below.heap_setCell _ _ _ _ (by simpa using hne1)))
       have HST := Lib.hid ((IR.same (w' := wr.setCell ⟨gf, j, none⟩ (.int .i64 (-1))) hit (Below.heap_setCell _ _ _ _ (by simpa using hne2))).set j (a := -1) (I64.small (by omega) (by omega)))
       have HMS := Lib.hid (minus_set hjl)
       have htc2 : TchP (fun k => k = gf ∨ k = gt) wc ((wr.setCell ⟨gf, j, none⟩ (.int .i64 (-1))).setCell ⟨gt, j, none⟩ (.int .i64 (-1))) := (htc.then (TchP.set (O := fun k => k = gf) rfl) (fun q _ h => .inl h)).then (TchP.set (O := fun k => k = gt) rfl) (fun q _ h => .inr h)
       clear hif hit
       go_wp2_with fail
       go_roundw
       case rel => exact ⟨j + 1, by omega, by go_num, by rw [← HMS.out]; exact HSF.out, by rw [← HMS.out]; exact HST.out, htc2, by simp only [World.setCell]; simpa [World.setCell] using HZZ.out⟩
       case measure => simp [intOf]; omega
      ·obtain rfl : j = N := by omega
       obtain ⟨wd, rfl⟩ : ∃ wd : World, wd = wr := ⟨_, rfl⟩
       have hRN : RnI wc.heap.size W (.pointer (some ⟨tq, tf, none⟩)) ar j br gd gf gt (wd.heap[gf]?) (wd.heap[gt]?) (looksT t ar.toNat 0) ((insF t).take 0) (fun _ => .slice none 0 0) (.slice none 0 0) [] [] wd := by
        refine ⟨FinS.start (fun eA top => (HDU.out eA wc.heap.size).nils (by omega) (htc.block gd hgd0 (fun h => by omega))), rfl, HBX.out.same (htc.block br hbr0 (fun h => by omega)) hzr, ⟨by omega, by omega, rfl, rfl⟩, hbc.trans (htc.below (B := W.heap.size) (by omega) (fun q hq h => by omega)), by omega⟩
       rw [minus_full] at hif hit
       have HIF := Lib.hid hif
       have HIT := Lib.hid hit
       have HRN := Lib.hid hRN
       clear hif hit hRN htc
       go_wp2_with fail
       go_loopw [11] (fun i wr => ∃ (k : Nat) (us : Nat → Value) (vin : Value) (Z : List ZP) (vs : List Value), k ≤ t.2.length ∧ i = .int .i64 k ∧ RnI wc.heap.size W (.pointer (some ⟨tq, tf, none⟩)) ar j br gd gf gt (wd.heap[gf]?) (wd.heap[gt]?) (looksT t ar.toNat k) ((insF t).take k) us vin Z vs wr) (fun i _ => t.2.length - (intOf i).toNat)
       case atStart => exact ⟨0, _, _, [], [], Nat.zero_le _, rfl, HRN.out⟩
       case round =>
        obtain ⟨k, us, vin, Z, vs, hk, rfl, hRn⟩ := hrel
        have HRN2 := Lib.hid hRn
        obtain ⟨k0, x0, x1, x2, x3, x4, x5, x6, x7, y2, y4, y6, y7⟩ := hRn.2.2.1
        have hbW := hRn.2.2.2.2.1
        have hz6 := hRn.2.2.2.2.2
        have c0 := (cellB hbW htq).trans p0
        have c1 := (cellB hbW htq).trans p1
        have hzw := hbW.size
        have htqr : tq < wr.heap.size := by omega
        clear hRn HRN
        by_cases hkl : k < t.2.length
        ·obtain ⟨b, o, rfl, hb, hce⟩ := HRC.out (by omega)
         have hr := HT.out.2.2 _ (List.getElem_mem hkl)
         have hrl3 := (rel_len_le hr).2
         obtain ⟨Nr, hNr⟩ : ∃ Nr : Nat, t.1 ^ (t.2[k]).1.toNat = (Nr : Int) := ⟨(t.1 ^ (t.2[k]).1.toNat).toNat, by have := pow_nn (s := t.1) (by omega) (t.2[k]).1.toNat; omega⟩
         have hNr256 : Nr ≤ 256 := by omega
         have HR := Lib.hid hr
         have HNr := Lib.hid hNr
         have HITK : Hid ((insF t).take k ++ [seenL t.1 Nr (t.2[k]).2] = (insF t).take (k + 1)) := by have h := ins_take hkl; rw [hNr, Int.toNat_natCast] at h; exact h
         have hPW := HPT.out.below hbW
         obtain ⟨tq2, tf2, ra2, rc2, he2, -, -, -, e1, hrels⟩ := pt_pair hPW
         simp only [Value.pointer.injEq, Option.some.injEq, Addr.mk.injEq, and_true] at he2
         obtain ⟨rfl, rfl⟩ := he2
         rw [e1] at c1
         simp only [Option.some.injEq, Value.slice.injEq, true_and] at c1
         obtain ⟨rfl, rfl⟩ := c1
         have HPE := Lib.hid (pt_tpl_elem hrels hkl)
         obtain ⟨va4, vn4, vc4, rfl⟩ := ex_slice (HRN2.out.1.vi.fr (by rw [HRN2.out.1.bl, List.length_take, insF_len]; unfold capMax; omega))
         have HVI := Lib.hid HRN2.out.1.vi
         have hvsl : vs.length ≤ 6 := by rw [HRN2.out.1.bl, List.length_take, insF_len]; omega
         have hown4 : Hid ((Value.slice va4 vn4 vc4).ownBlock ≠ some br) := fun e => by have := HVI.out.ge e; omega
         obtain ⟨wv, rfl⟩ : ∃ wv : World, wv = wr := ⟨_, rfl⟩
         clear hce hr hrl3 hNr hPW hrels
         go_wp2_with fail
         refine wp_region_T (fun w' => w'.cell? ⟨br, 2, none⟩ = some (.slice va4 vn4 vc4) ∧ w'.cell? ⟨tq, tf, none⟩ = some (.int .i64 t.1) ∧ w'.cell? ⟨tq, tf + 1, none⟩ = some (.slice (some ⟨b, o, none⟩) t.2.length rc2)) [20] (by kernel_rfl) ⟨x2, c0, e1⟩ (fun hHeld => ?_)
         refine wpAnyT_take (i := 0) (v := ?_) rfl (by kernel_rfl) (fun _ _ _ h => h) (Or.inl ⟨by rfl, ?_⟩) (by assumption) ?_
         rotate_left
         ·(intro w hSw; (try dsimp only at hSw); go_simp <;> with_reducible rfl)
         go_simp
         refine wpAnyT_take (i := 1) (v := ?_) rfl (by kernel_rfl) (fun _ _ _ h => h) (Or.inl ⟨by rfl, ?_⟩) (by assumption) ?_
         rotate_left
         ·(intro w hSw; (try dsimp only at hSw); go_simp <;> with_reducible rfl)
         go_simp
         refine wpAnyT_take (i := 2) (v := ?_) rfl (by kernel_rfl) (fun _ _ _ h => h) (Or.inl ⟨by rfl, ?_⟩) (by assumption) ?_
         rotate_left
         ·(intro w hSw; (try dsimp only at hSw); go_simp <;> with_reducible rfl)
         go_simp
         refine wpAnyT_take (i := 3) (v := ?_) rfl (by kernel_rfl) (fun _ _ _ h => h) (Or.inl ⟨by rfl, ?_⟩) (by assumption) ?_
         rotate_left
         ·(intro w hSw; (try dsimp only at hSw); go_simp <;> with_reducible rfl)
         go_simp
         refine wpAnyT_take (i := 4) (v := ?_) rfl (by kernel_rfl) (fun _ _ _ h => h) (Or.inl ⟨by rfl, ?_⟩) (by assumption) ?_
         rotate_left
         ·(intro w hSw; (try dsimp only at hSw); go_simp <;> with_reducible rfl)
         go_simp
         refine wpAnyT_take (i := 5) (v := ?_) rfl (by kernel_rfl) (fun _ _ _ h => h) (Or.inl ⟨by rfl, ?_⟩) (by assumption) ?_
         rotate_left
         ·(intro w hSw; (try dsimp only at hSw); go_simp <;> with_reducible rfl)
         go_simp
         refine wpAnyT_take (i := 6) (v := ?_) rfl (by kernel_rfl) (fun _ _ _ h => h) (Or.inl ⟨by rfl, ?_⟩) (by assumption) ?_
         rotate_left
         ·(intro w hSw; (try dsimp only at hSw); go_simp <;> with_reducible rfl)
         go_simp
         refine wpAnyT_take (i := 7) (v := ?_) rfl (by kernel_rfl) (fun _ _ _ h => h) (Or.inl ⟨by rfl, ?_⟩) (by assumption) ?_
         rotate_left
         ·(intro w hSw; (try dsimp only at hSw); go_simp <;> with_reducible rfl)
         go_simp
         refine wpAnyT_take (i := 8) (v := ?_) rfl (by kernel_rfl) (fun _ _ _ h => h) (Or.inl ⟨by rfl, ?_⟩) (by assumption) ?_
         rotate_left
         ·(intro w hSw; (try dsimp only at hSw); go_simp <;> with_reducible rfl)
         go_simp
         refine wpAnyT_take (i := 9) (v := ?_) rfl (by kernel_rfl) (fun _ _ _ h => h) (Or.inl ⟨by rfl, ?_⟩) (by assumption) ?_
         rotate_left
         ·(intro w hSw; (try dsimp only at hSw); go_simp <;> with_reducible rfl)
         go_simp
         refine wpAnyT_take (i := 10) (v := ?_) rfl (by kernel_rfl) (fun _ _ _ h => h) (Or.inl ⟨by rfl, ?_⟩) (by assumption) ?_
         rotate_left
         ·(intro w hSw; (try dsimp only at hSw); go_simp <;> with_reducible rfl)
         go_simp
         refine wpAnyT_take (i := 11) (v := ?_) rfl (by kernel_rfl) (fun _ _ _ h => h) (Or.inl ⟨by rfl, ?_⟩) (by assumption) ?_
         rotate_left
         ·(intro w hSw; (try dsimp only at hSw); go_simp <;> with_reducible rfl)
         go_simp
         refine wpAnyT_take (i := 12) (v := ?_) rfl (by kernel_rfl) (fun _ _ _ h => h) (Or.inl ⟨by rfl, ?_⟩) (by assumption) ?_
         rotate_left
         ·(intro w hSw; (try dsimp only at hSw); go_simp <;> with_reducible rfl)
         go_simp
         refine wpAnyT_take (i := 13) (v := ?_) rfl (by kernel_rfl) (fun _ _ _ h => h) (Or.inl ⟨by rfl, ?_⟩) (by assumption) ?_
         rotate_left
         ·(intro w hSw; (try dsimp only at hSw); go_simp <;> with_reducible rfl)
         go_simp
         refine wpAnyT_take (i := 14) (v := ?_) rfl (by kernel_rfl) (fun _ _ _ h => h) (Or.inl ⟨by rfl, ?_⟩) (by assumption) ?_
         rotate_left
         ·(intro w hSw; (try dsimp only at hSw); go_simp <;> with_reducible rfl)
         go_simp
         refine wpAnyT_one (i := 15) rfl (by kernel_rfl) (fun K hK => ?_)
         go_simp
         go_at_call 98
         refine (l01SetOf_any _ (HPE.out.below bD) HR.out Nr HNr.out).mono ?_
         rintro e w2 ⟨bx, gx, rfl, hset, hgx, hb2⟩
         have hb2' : Below wv.heap.size wv w2 := bthen bD hb2
         have hgx' : wv.heap.size ≤ gx := hgx
         have hbx' : wv.heap.size ≤ bx := hset.1
         have hz2 := hb2'.size
         have HSET := Lib.hid hset
         have HRN3 := Lib.hid (HRN2.out.below hb2')
         replace x2 := (cellB hb2' (by omega)).trans x2
         replace c0 := (cellB hb2' (by omega)).trans c0
         replace e1 := (cellB hb2' (by omega)).trans e1
         replace y2 := (frozenB hb2' (by omega)).trans y2
         have hbr2 : br < w2.heap.size := by omega
         clear hset hgx hb2
         dsimp only
         refine hK.out _ _ ⟨x2, c0, e1⟩ (fun hHeld => ?_)
         clear hK K
         refine wpAnyT_one (i := 16) rfl (by kernel_rfl) (fun K hK => ?_)
         go_simp
         have hbA : ∀ ob : Obj, Below w2.heap.size w2 (w2.alloc ob) := fun _ => bA
         refine hK.out _ _ ⟨(cellB (hbA _) hbr2).trans x2, (cellB (hbA _) (by omega)).trans c0, (cellB (hbA _) (by omega)).trans e1⟩ (fun hHeld => ?_)
         clear hK K
         refine wpAnyT_one (i := 17) rfl (by kernel_rfl) (fun K hK => ?_)
         have HV2 := Lib.hid HRN3.out.1.vi
         have HX : Hid (Ty.setp.RdP (okN wc.heap.size j us (.slice va4 vn4 vc4)) w2 [.pointer (some ⟨bx, 0, none⟩)] (seenL t.1 Nr (t.2[k]).2)) := setp_of HSET.out (by unfold capMax; omega) ⟨by omega, fun v hv e => by have := (HRN2.out.1.du.2.2.1 v hv).lt_top e; omega, fun e => by have := HVI.out.lt_top e; omega⟩ ⟨by omega, fun v hv e => by have := (HRN2.out.1.du.2.2.1 v hv).lt_top e; omega, fun e => by have := HVI.out.lt_top e; omega⟩
         refine step_push (E := Ty.val) _ rfl _ _ 242 140 rfl elSetS rfl (HV2.out.below (hbA _) (Nat.le_refl _)) rfl news1 (fr_val rfl) (show vs.length ≤ 1000000000 by omega) (by decide) (show wc.heap.size ≤ w2.heap.size by omega) (by first | (simp; done) | (simp; omega)) ?_
         intro v5 w5 hB5 hg5 hown
         obtain ⟨aa5, nn5, cc5, rfl⟩ := ex_slice (hB5.fr (by rw [List.length_append]; unfold capMax; simp only [List.length_singleton]; omega))
         have hg6 : (w2.alloc (.cells #[.pointer (some ⟨bx, 0, none⟩)] 140)).grownBy w5 (Value.slice va4 vn4 vc4).ownBlock := hg5
         have hown6 : (Value.slice aa5 nn5 cc5).ownBlock = (Value.slice va4 vn4 vc4).ownBlock ∨ (Value.slice aa5 nn5 cc5).ownBlock = some (w2.alloc (.cells #[.pointer (some ⟨bx, 0, none⟩)] 140)).heap.size := hown
         have HX5 := Lib.hid (HX.out.below (hbA (.cells #[.pointer (some ⟨bx, 0, none⟩)] 140)))
         have HF6 := Lib.hid (((HRN3.out.1.below (by omega) (hbA (.cells #[.pointer (some ⟨bx, 0, none⟩)] 140))).pushIn (by simp; omega) hB5 hg6 hown6 HX5.out).set (i := 2) (u := .slice aa5 nn5 cc5) (show br < wc.heap.size by omega) n1)
         have ht5 : TchP (fun q => (Value.slice va4 vn4 vc4).ownBlock = some q) w2 w5 := (TchP.of_below (hbA _) _).then (TchP.grown hg6 (fun q h => h)) (fun q _ h => h)
         have ht6 : TchP (fun q => q = br ∨ (Value.slice va4 vn4 vc4).ownBlock = some q) w2 (w5.setCell ⟨br, 2, none⟩ (.slice aa5 nn5 cc5)) := (ht5.mono (fun q _ h => .inr h)).then (TchP.set (O := fun q => q = br) rfl) (fun q _ h => .inl h)
         have hnO : ∀ q, q < wc.heap.size → (Value.slice va4 vn4 vc4).ownBlock ≠ some q := fun q hq e => by have := HVI.out.ge e; omega
         have i2 := (ht5.cell (i := 2) hbr2 hown4.out).trans x2
         have i3 := (ht5.cell (i := tf) (show tq < w2.heap.size by omega) (hnO tq (by omega))).trans c0
         have i4 := (ht5.cell (i := tf + 1) (show tq < w2.heap.size by omega) (hnO tq (by omega))).trans e1
         have i5 := (ht5.frozen (i := 2) hbr2 hown4.out).trans y2
         have HN6 : Hid (RnI wc.heap.size W (.pointer (some ⟨tq, tf, none⟩)) ar j br gd gf gt (wd.heap[gf]?) (wd.heap[gt]?) (looksT t ar.toNat k) ((insF t).take (k + 1)) us (.slice aa5 nn5 cc5) Z (vs ++ [.pointer (some ⟨bx, 0, none⟩)]) (w5.setCell ⟨br, 2, none⟩ (.slice aa5 nn5 cc5))) := by
          obtain ⟨z1, z2, z3, z4⟩ := HRN3.out.2.2.2.1
          have hzz := ht6.size
          refine ⟨?_, HRN3.out.2.1, (HRN3.out.2.2.1.same (ht5.block br hbr2 hown4.out) ht5.size).set, ⟨by omega, by omega, (ht6.block gf z1 (fun h => by rcases h with h | h; exact n4 h; exact hnO gf (by omega) h)).trans z3, (ht6.block gt z2 (fun h => by rcases h with h | h; exact n5 h; exact hnO gt (by omega) h)).trans z4⟩, HRN3.out.2.2.2.2.1.trans (ht6.below (by have := HRN3.out.2.2.2.2.1.size; omega) (fun q hq h => by
           rcases h with h | h
           ·omega
           ·have := HVI.out.ge h; omega)), by omega⟩
          rw [← HITK.out]
          exact HF6.out
         have hz7 := ht6.size
         clear hB5 hg5 hown hg6 hown6 HX HX5 HF6 ht5 ht6 hnO
         refine hK.out _ _ ⟨i2, i3, i4⟩ (fun hHeld => ?_)
         clear hK K
         refine wpAnyT_take (i := 18) (v := ?_) rfl (by kernel_rfl) (fun _ _ _ h => h) (Or.inl ⟨by rfl, ?_⟩) (by assumption) ?_
         rotate_left
         ·(intro w hSw; (try dsimp only at hSw); go_simp <;> with_reducible rfl)
         go_simp
         refine wpAnyT_take (i := 19) (v := ?_) rfl (by kernel_rfl) (fun _ _ _ h => h) (Or.inl ⟨by rfl, ?_⟩) (by assumption) ?_
         rotate_left
         ·(intro w hSw; (try dsimp only at hSw); go_simp <;> with_reducible rfl)
         go_simp
         refine wpAnyT_last (i := 20) rfl (by kernel_rfl) (by kernel_rfl) (fun K hK => ?_)
         go_simp
         refine hK.out _ _ ?_
         clear hK K
         refine wpAnyT_done (by kernel_rfl) ?_ _
         go_simp
         clear i2 i3 i4 i5 hHeld
         generalize w5.setCell ⟨br, 2, none⟩ (.slice aa5 nn5 cc5) = w6 at *
         go_wp2_with fail
         refine (add_any w6 HPT.out HT.out har HLF.out (by rw [HNN.out, HNE.out]) (by omega) hkl (by omega) ⟨n1, by omega, hgdl⟩ ⟨n2, by omega⟩ ⟨n3, by omega⟩ HN6.out).mono ?_
         rintro e w7 ⟨rfl, us7, Z7, hR7⟩
         have HR7 := Lib.hid hR7
         clear hR7
         go_wp2_with fail
         go_roundw
         case rel => exact ⟨k + 1, us7, .slice aa5 nn5 cc5, Z7, _, by omega, by go_num, HR7.out⟩
         case measure => simp [intOf]; omega
        ·obtain rfl : k = t.2.length := by omega
         have HRES : Hid (BgR W t ar (.returned (.tuple #[.pointer (some ⟨br, 0, none⟩), .int .i64 0])) wr) := by
          obtain ⟨h1, h2, -, ⟨z1, z2, z3, z4⟩, -, -⟩ := HRN2.out
          rw [List.take_of_length_le (by rw [insF_len]; exact Nat.le_refl _)] at h1
          have hZl : Z.length ≤ 4000 := by
           have := congrArg List.length h2
           rw [List.length_map] at this
           rw [this]
           exact looksT_le HLF.out (Nat.le_refl _)
          have hvl : vs.length ≤ 6 := by rw [h1.bl, insF_len]; exact hl6
          have hok : ∀ q, (q = gd ∨ wc.heap.size ≤ q) → q ≠ br ∧ q ≠ gt := fun q hq => by
           rcases hq with rfl | hq
           ·exact ⟨Ne.symm n1, Ne.symm n3⟩
           ·exact ⟨by omega, by omega⟩
          have hd := h1.dues (by omega) (by omega)
          rw [h2] at hd
          have hif := HIF.out.same z3
          obtain ⟨fp, g1, -, -, -⟩ := hif.fr (by unfold capMax; omega)
          refine ⟨hbW, .inr ⟨HLF.out, br, gt, rfl, hbrl, hgtl, n5, y4, ?_, ?_⟩⟩
          ·rw [HNE.out, show fxN t ar = List.replicate j (-1) by rw [fxN, HNE.out]]
           exact ⟨k0, tq, tf, vin, _, _, x0, htqr, ⟨by omega, by omega⟩, c0, x1, x2, x3, x4, (h1.sets rfl (by omega)).mono (fun q _ hq => hok q hq), hd.mono (fun q _ hq => hok q hq), fp, g1, fun q hq => by rw [IR.fp hif g1 q hq]; exact ⟨n4, n6⟩⟩
          ·rw [HNE.out]
           exact ⟨k0, x5, HIT.out.same z4, x6, x7, y6, y7⟩
         go_wp2_with fail
         go_ret2
         exact HRES.out
    refine wp_region_T (fun _ => True) [] (by kernel_rfl) trivial (fun hHeld => ?_)
    refine wpAnyT_take (i := 0) (v := ?_) rfl (by kernel_rfl) (fun _ _ _ h => h) (Or.inl ⟨by rfl, ?_⟩) (by assumption) ?_
    rotate_left
    ·(intro w hSw; (try dsimp only at hSw); go_simp <;> with_reducible rfl)
    go_simp
    refine wpAnyT_take (i := 1) (v := ?_) rfl (by kernel_rfl) (fun _ _ _ h => h) (Or.inl ⟨by rfl, ?_⟩) (by assumption) ?_
    rotate_left
    ·(intro w hSw; (try dsimp only at hSw); go_simp <;> with_reducible rfl)
    go_simp
    refine wpAnyT_take (i := 2) (v := ?_) rfl (by kernel_rfl) (fun _ _ _ h => h) (Or.inl ⟨by rfl, ?_⟩) (by assumption) ?_
    rotate_left
    ·(intro w hSw; (try dsimp only at hSw); go_simp <;> with_reducible rfl)
    go_simp
    refine wpAnyT_take (i := 4) (v := ?_) rfl (by kernel_rfl) (fun _ _ _ h => h) (Or.inl ⟨by rfl, ?_⟩) (by assumption) ?_
    rotate_left
    ·(intro w hSw; (try dsimp only at hSw); go_simp <;> with_reducible rfl)
    go_simp
    refine wpAnyT_take (i := 6) (v := ?_) rfl (by kernel_rfl) (fun _ _ _ h => h) (Or.inl ⟨by rfl, ?_⟩) (by assumption) ?_
    rotate_left
    ·(intro w hSw; (try dsimp only at hSw); go_simp <;> with_reducible rfl)
    go_simp
    have hv0 : Below W.heap.size W W.drew := bD
    clear hHeld
    generalize W.drew = x0 at hv0 ⊢
    have hz0 := hv0.size
    refine wpAnyT_three (i := 3) (j := 5) (k := 7) rfl rfl rfl (by kernel_rfl) (fun K hK => ?_) (fun K hK => ?_) (fun K hK => ?_)
    ·refine step_mkN _ rfl _ _ 243 289 rfl Tryz.underlying243 infoCondS N rfl rfl (by omega) (by decide) ?_
     intro x1 hDU hb1 hs1
     have hld : x0.heap.size < x1.heap.size := by omega
     clear hs1
     have hv1 : Below W.heap.size W x1 := bthen hv0 hb1
     have hz1 := hb1.size
     refine hK.out _ _ trivial (fun hHeld => ?_)
     clear hK K hHeld
     refine wpAnyT_two (i := 5) (j := 7) rfl rfl (by kernel_rfl) (fun K hK => ?_) (fun K hK => ?_)
     ·refine step_mkI _ rfl _ _ 38 2 rfl Tryz.underlying38 infoInt W.heap.size N rfl rfl (by omega) (by decide) (by omega) ?_
      intro x2 hIf hb2 hs2
      have hlf : x1.heap.size < x2.heap.size := by omega
      clear hs2
      have hv2 : Below W.heap.size W x2 := bthen hv1 hb2
      have hz2 := hb2.size
      refine hK.out _ _ trivial (fun hHeld => ?_)
      clear hK K hHeld
      refine wpAnyT_one (i := 7) rfl (by kernel_rfl) (fun K hK => ?_)
      refine step_mkI _ rfl _ _ 38 2 rfl Tryz.underlying38 infoInt W.heap.size N rfl rfl (by omega) (by decide) (by omega) ?_
      intro x3 hIt hb3 hs3
      have hlt : x2.heap.size < x3.heap.size := by omega
      clear hs3
      have hv3 : Below W.heap.size W x3 := bthen hv2 hb3
      have hz3 := hb3.size
      refine hK.out _ _ trivial (fun hHeld => ?_)
      clear hK K hHeld
      refine wpAnyT_take (i := 8) (v := ?_) rfl (by kernel_rfl) (fun _ _ _ h => h) (Or.inl ⟨by rfl, ?_⟩) (by assumption) ?_
      rotate_left
      ·(intro w hSw; (try dsimp only at hSw); go_simp <;> with_reducible rfl)
      go_simp
      refine wpAnyT_one (i := 9) rfl (by kernel_rfl) (fun K hK => ?_)
      go_simp
      generalize hWb : World.alloc x3 _ = wb
      have hbb : Below x3.heap.size x3 wb := by rw [← hWb]; exact bA
      have hsb : x3.heap.size + 1 ≤ wb.heap.size := by rw [← hWb]; simp
      have c0 : wb.cell? ⟨x3.heap.size, 0, none⟩ = some (.pointer (some ⟨tq, tf, none⟩)) := by rw [← hWb]; simp [go_sem]
      have c1 : wb.cell? ⟨x3.heap.size, 1, none⟩ = some (.int .i64 ar) := by rw [← hWb]; simp [go_sem]
      have c2 : wb.cell? ⟨x3.heap.size, 2, none⟩ = some (.slice none 0 0) := by rw [← hWb]; simp [go_sem]
      have c3 : wb.cell? ⟨x3.heap.size, 3, none⟩ = some (.slice (some ⟨x0.heap.size, 0, none⟩) N N) := by rw [← hWb]; simp [go_sem]
      have c4 : wb.cell? ⟨x3.heap.size, 4, none⟩ = some (.slice (some ⟨x1.heap.size, 0, none⟩) N N) := by rw [← hWb]; simp [go_sem]
      have c5 : wb.cell? ⟨x3.heap.size, 5, none⟩ = some (.slice (some ⟨x2.heap.size, 0, none⟩) N N) := by rw [← hWb]; simp [go_sem]
      have c6 : wb.cell? ⟨x3.heap.size, 6, none⟩ = some (.int .i64 0) := by rw [← hWb]; simp [go_sem]
      have c7 : wb.cell? ⟨x3.heap.size, 7, none⟩ = some (.bool false) := by rw [← hWb]; simp [go_sem]
      have m2 : wb.frozen? ⟨x3.heap.size, 2, none⟩ = false := by rw [← hWb]; simp [go_sem]
      have m4 : wb.frozen? ⟨x3.heap.size, 4, none⟩ = false := by rw [← hWb]; simp [go_sem]
      have m6 : wb.frozen? ⟨x3.heap.size, 6, none⟩ = false := by rw [← hWb]; simp [go_sem]
      have m7 : wb.frozen? ⟨x3.heap.size, 7, none⟩ = false := by rw [← hWb]; simp [go_sem]
      have hJf := IR.same (IR.same hIf (hb3.block _ (by omega))) (hbb.block _ (by omega))
      have hJt := IR.same hIt (hbb.block _ (by omega))
      have hD : ∀ eA top, DU eA 289 wb.heap.size top wb x0.heap.size N (fun _ => .slice none 0 0) (fun _ => []) := fun eA top => (hDU eA wb.heap.size top (by omega)).nils (by omega) (by rw [hbb.block _ (by omega)]; rw [hb3.block _ (by omega)]; rw [hb2.block _ (by omega)])
      have hbw := bthen hv3 hbb
      clear hWb
      refine hK.out _ _ trivial (fun hHeld => ?_)
      clear hK K hHeld
      refine wpAnyT_take (i := 10) (v := ?_) rfl (by kernel_rfl) (fun _ _ _ h => h) (Or.inl ⟨by rfl, ?_⟩) (by assumption) ?_
      rotate_left
      ·(intro w hSw; (try dsimp only at hSw); go_simp <;> with_reducible rfl)
      go_simp
      refine wpAnyT_done (by kernel_rfl) ?_ _
      go_simp
      go_wp2_with fail
      go_meet
      case rel => exact ⟨x3.heap.size, x0.heap.size, x1.heap.size, x2.heap.size, rfl, ⟨by omega, c0, c1, c2, c3, c4, c5, c6, c7, m2, m4, m6, m7⟩, hJf, hJt, hD, hbw, by omega, by omega, by omega, by omega, by omega, by omega, by omega, by omega⟩
     ·refine step_mkI _ rfl _ _ 38 2 rfl Tryz.underlying38 infoInt W.heap.size N rfl rfl (by omega) (by decide) (by omega) ?_
      intro x2 hIt hb2 hs2
      have hlt : x1.heap.size < x2.heap.size := by omega
      clear hs2
      have hv2 : Below W.heap.size W x2 := bthen hv1 hb2
      have hz2 := hb2.size
      refine hK.out _ _ trivial (fun hHeld => ?_)
      clear hK K hHeld
      refine wpAnyT_one (i := 5) rfl (by kernel_rfl) (fun K hK => ?_)
      refine step_mkI _ rfl _ _ 38 2 rfl Tryz.underlying38 infoInt W.heap.size N rfl rfl (by omega) (by decide) (by omega) ?_
      intro x3 hIf hb3 hs3
      have hlf : x2.heap.size < x3.heap.size := by omega
      clear hs3
      have hv3 : Below W.heap.size W x3 := bthen hv2 hb3
      have hz3 := hb3.size
      refine hK.out _ _ trivial (fun hHeld => ?_)
      clear hK K hHeld
      refine wpAnyT_take (i := 8) (v := ?_) rfl (by kernel_rfl) (fun _ _ _ h => h) (Or.inl ⟨by rfl, ?_⟩) (by assumption) ?_
      rotate_left
      ·(intro w hSw; (try dsimp only at hSw); go_simp <;> with_reducible rfl)
      go_simp
      refine wpAnyT_one (i := 9) rfl (by kernel_rfl) (fun K hK => ?_)
      go_simp
      generalize hWb : World.alloc x3 _ = wb
      have hbb : Below x3.heap.size x3 wb := by rw [← hWb]; exact bA
      have hsb : x3.heap.size + 1 ≤ wb.heap.size := by rw [← hWb]; simp
      have c0 : wb.cell? ⟨x3.heap.size, 0, none⟩ = some (.pointer (some ⟨tq, tf, none⟩)) := by rw [← hWb]; simp [go_sem]
      have c1 : wb.cell? ⟨x3.heap.size, 1, none⟩ = some (.int .i64 ar) := by rw [← hWb]; simp [go_sem]
      have c2 : wb.cell? ⟨x3.heap.size, 2, none⟩ = some (.slice none 0 0) := by rw [← hWb]; simp [go_sem]
      have c3 : wb.cell? ⟨x3.heap.size, 3, none⟩ = some (.slice (some ⟨x0.heap.size, 0, none⟩) N N) := by rw [← hWb]; simp [go_sem]
      have c4 : wb.cell? ⟨x3.heap.size, 4, none⟩ = some (.slice (some ⟨x2.heap.size, 0, none⟩) N N) := by rw [← hWb]; simp [go_sem]
      have c5 : wb.cell? ⟨x3.heap.size, 5, none⟩ = some (.slice (some ⟨x1.heap.size, 0, none⟩) N N) := by rw [← hWb]; simp [go_sem]
      have c6 : wb.cell? ⟨x3.heap.size, 6, none⟩ = some (.int .i64 0) := by rw [← hWb]; simp [go_sem]
      have c7 : wb.cell? ⟨x3.heap.size, 7, none⟩ = some (.bool false) := by rw [← hWb]; simp [go_sem]
      have m2 : wb.frozen? ⟨x3.heap.size, 2, none⟩ = false := by rw [← hWb]; simp [go_sem]
      have m4 : wb.frozen? ⟨x3.heap.size, 4, none⟩ = false := by rw [← hWb]; simp [go_sem]
      have m6 : wb.frozen? ⟨x3.heap.size, 6, none⟩ = false := by rw [← hWb]; simp [go_sem]
      have m7 : wb.frozen? ⟨x3.heap.size, 7, none⟩ = false := by rw [← hWb]; simp [go_sem]
      have hJf := IR.same hIf (hbb.block _ (by omega))
      have hJt := IR.same (IR.same hIt (hb3.block _ (by omega))) (hbb.block _ (by omega))
      have hD : ∀ eA top, DU eA 289 wb.heap.size top wb x0.heap.size N (fun _ => .slice none 0 0) (fun _ => []) := fun eA top => (hDU eA wb.heap.size top (by omega)).nils (by omega) (by rw [hbb.block _ (by omega)]; rw [hb3.block _ (by omega)]; rw [hb2.block _ (by omega)])
      have hbw := bthen hv3 hbb
      clear hWb
      refine hK.out _ _ trivial (fun hHeld => ?_)
      clear hK K hHeld
      refine wpAnyT_take (i := 10) (v := ?_) rfl (by kernel_rfl) (fun _ _ _ h => h) (Or.inl ⟨by rfl, ?_⟩) (by assumption) ?_
      rotate_left
      ·(intro w hSw; (try dsimp only at hSw); go_simp <;> with_reducible rfl)
      go_simp
      refine wpAnyT_done (by kernel_rfl) ?_ _
      go_simp
      go_wp2_with fail
      go_meet
      case rel => exact ⟨x3.heap.size, x0.heap.size, x2.heap.size, x1.heap.size, rfl, ⟨by omega, c0, c1, c2, c3, c4, c5, c6, c7, m2, m4, m6, m7⟩, hJf, hJt, hD, hbw, by omega, by omega, by omega, by omega, by omega, by omega, by omega, by omega⟩
    ·refine step_mkI _ rfl _ _ 38 2 rfl Tryz.underlying38 infoInt W.heap.size N rfl rfl (by omega) (by decide) (by omega) ?_
     intro x1 hIf hb1 hs1
     have hlf : x0.heap.size < x1.heap.size := by omega
     clear hs1
     have hv1 : Below W.heap.size W x1 := bthen hv0 hb1
     have hz1 := hb1.size
     refine hK.out _ _ trivial (fun hHeld => ?_)
     clear hK K hHeld
     refine wpAnyT_two (i := 3) (j := 7) rfl rfl (by kernel_rfl) (fun K hK => ?_) (fun K hK => ?_)
     ·refine step_mkN _ rfl _ _ 243 289 rfl Tryz.underlying243 infoCondS N rfl rfl (by omega) (by decide) ?_
      intro x2 hDU hb2 hs2
      have hld : x1.heap.size < x2.heap.size := by omega
      clear hs2
      have hv2 : Below W.heap.size W x2 := bthen hv1 hb2
      have hz2 := hb2.size
      refine hK.out _ _ trivial (fun hHeld => ?_)
      clear hK K hHeld
      refine wpAnyT_one (i := 7) rfl (by kernel_rfl) (fun K hK => ?_)
      refine step_mkI _ rfl _ _ 38 2 rfl Tryz.underlying38 infoInt W.heap.size N rfl rfl (by omega) (by decide) (by omega) ?_
      intro x3 hIt hb3 hs3
      have hlt : x2.heap.size < x3.heap.size := by omega
      clear hs3
      have hv3 : Below W.heap.size W x3 := bthen hv2 hb3
      have hz3 := hb3.size
      refine hK.out _ _ trivial (fun hHeld => ?_)
      clear hK K hHeld
      refine wpAnyT_take (i := 8) (v := ?_) rfl (by kernel_rfl) (fun _ _ _ h => h) (Or.inl ⟨by rfl, ?_⟩) (by assumption) ?_
      rotate_left
      ·(intro w hSw; (try dsimp only at hSw); go_simp <;> with_reducible rfl)
      go_simp
      refine wpAnyT_one (i := 9) rfl (by kernel_rfl) (fun K hK => ?_)
      go_simp
      generalize hWb : World.alloc x3 _ = wb
      have hbb : Below x3.heap.size x3 wb := by rw [← hWb]; exact bA
      have hsb : x3.heap.size + 1 ≤ wb.heap.size := by rw [← hWb]; simp
      have c0 : wb.cell? ⟨x3.heap.size, 0, none⟩ = some (.pointer (some ⟨tq, tf, none⟩)) := by rw [← hWb]; simp [go_sem]
      have c1 : wb.cell? ⟨x3.heap.size, 1, none⟩ = some (.int .i64 ar) := by rw [← hWb]; simp [go_sem]
      have c2 : wb.cell? ⟨x3.heap.size, 2, none⟩ = some (.slice none 0 0) := by rw [← hWb]; simp [go_sem]
      have c3 : wb.cell? ⟨x3.heap.size, 3, none⟩ = some (.slice (some ⟨x1.heap.size, 0, none⟩) N N) := by rw [← hWb]; simp [go_sem]
      have c4 : wb.cell? ⟨x3.heap.size, 4, none⟩ = some (.slice (some ⟨x0.heap.size, 0, none⟩) N N) := by rw [← hWb]; simp [go_sem]
      have c5 : wb.cell? ⟨x3.heap.size, 5, none⟩ = some (.slice (some ⟨x2.heap.size, 0, none⟩) N N) := by rw [← hWb]; simp [go_sem]
      have c6 : wb.cell? ⟨x3.heap.size, 6, none⟩ = some (.int .i64 0) := by rw [← hWb]; simp [go_sem]
      have c7 : wb.cell? ⟨x3.heap.size, 7, none⟩ = some (.bool false) := by rw [← hWb]; simp [go_sem]
      have m2 : wb.frozen? ⟨x3.heap.size, 2, none⟩ = false := by rw [← hWb]; simp [go_sem]
      have m4 : wb.frozen? ⟨x3.heap.size, 4, none⟩ = false := by rw [← hWb]; simp [go_sem]
      have m6 : wb.frozen? ⟨x3.heap.size, 6, none⟩ = false := by rw [← hWb]; simp [go_sem]
      have m7 : wb.frozen? ⟨x3.heap.size, 7, none⟩ = false := by rw [← hWb]; simp [go_sem]
      have hJf := IR.same (IR.same (IR.same hIf (hb2.block _ (by omega))) (hb3.block _ (by omega))) (hbb.block _ (by omega))
      have hJt := IR.same hIt (hbb.block _ (by omega))
      have hD : ∀ eA top, DU eA 289 wb.heap.size top wb x1.heap.size N (fun _ => .slice none 0 0) (fun _ => []) := fun eA top => (hDU eA wb.heap.size top (by omega)).nils (by omega) (by rw [hbb.block _ (by omega)]; rw [hb3.block _ (by omega)])
      have hbw := bthen hv3 hbb
      clear hWb
      refine hK.out _ _ trivial (fun hHeld => ?_)
      clear hK K hHeld
      refine wpAnyT_take (i := 10) (v := ?_) rfl (by kernel_rfl) (fun _ _ _ h => h) (Or.inl ⟨by rfl, ?_⟩) (by assumption) ?_
      rotate_left
      ·(intro w hSw; (try dsimp only at hSw); go_simp <;> with_reducible rfl)
      go_simp
      refine wpAnyT_done (by kernel_rfl) ?_ _
      go_simp
      go_wp2_with fail
      go_meet
      case rel => exact ⟨x3.heap.size, x1.heap.size, x0.heap.size, x2.heap.size, rfl, ⟨by omega, c0, c1, c2, c3, c4, c5, c6, c7, m2, m4, m6, m7⟩, hJf, hJt, hD, hbw, by omega, by omega, by omega, by omega, by omega, by omega, by omega, by omega⟩
     ·refine step_mkI _ rfl _ _ 38 2 rfl Tryz.underlying38 infoInt W.heap.size N rfl rfl (by omega) (by decide) (by omega) ?_
      intro x2 hIt hb2 hs2
      have hlt : x1.heap.size < x2.heap.size := by omega
      clear hs2
      have hv2 : Below W.heap.size W x2 := bthen hv1 hb2
      have hz2 := hb2.size
      refine hK.out _ _ trivial (fun hHeld => ?_)
      clear hK K hHeld
      refine wpAnyT_one (i := 3) rfl (by kernel_rfl) (fun K hK => ?_)
      refine step_mkN _ rfl _ _ 243 289 rfl Tryz.underlying243 infoCondS N rfl rfl (by omega) (by decide) ?_
      intro x3 hDU hb3 hs3
      have hld : x2.heap.size < x3.heap.size := by omega
      clear hs3
      have hv3 : Below W.heap.size W x3 := bthen hv2 hb3
      have hz3 := hb3.size
      refine hK.out _ _ trivial (fun hHeld => ?_)
      clear hK K hHeld
      refine wpAnyT_take (i := 8) (v := ?_) rfl (by kernel_rfl) (fun _ _ _ h => h) (Or.inl ⟨by rfl, ?_⟩) (by assumption) ?_
      rotate_left
      ·(intro w hSw; (try dsimp only at hSw); go_simp <;> with_reducible rfl)
      go_simp
      refine wpAnyT_one (i := 9) rfl (by kernel_rfl) (fun K hK => ?_)
      go_simp
      generalize hWb : World.alloc x3 _ = wb
      have hbb : Below x3.heap.size x3 wb := by rw [← hWb]; exact bA
      have hsb : x3.heap.size + 1 ≤ wb.heap.size := by rw [← hWb]; simp
      have c0 : wb.cell? ⟨x3.heap.size, 0, none⟩ = some (.pointer (some ⟨tq, tf, none⟩)) := by rw [← hWb]; simp [go_sem]
      have c1 : wb.cell? ⟨x3.heap.size, 1, none⟩ = some (.int .i64 ar) := by rw [← hWb]; simp [go_sem]
      have c2 : wb.cell? ⟨x3.heap.size, 2, none⟩ = some (.slice none 0 0) := by rw [← hWb]; simp [go_sem]
      have c3 : wb.cell? ⟨x3.heap.size, 3, none⟩ = some (.slice (some ⟨x2.heap.size, 0, none⟩) N N) := by rw [← hWb]; simp [go_sem]
      have c4 : wb.cell? ⟨x3.heap.size, 4, none⟩ = some (.slice (some ⟨x0.heap.size, 0, none⟩) N N) := by rw [← hWb]; simp [go_sem]
      have c5 : wb.cell? ⟨x3.heap.size, 5, none⟩ = some (.slice (some ⟨x1.heap.size, 0, none⟩) N N) := by rw [← hWb]; simp [go_sem]
      have c6 : wb.cell? ⟨x3.heap.size, 6, none⟩ = some (.int .i64 0) := by rw [← hWb]; simp [go_sem]
      have c7 : wb.cell? ⟨x3.heap.size, 7, none⟩ = some (.bool false) := by rw [← hWb]; simp [go_sem]
      have m2 : wb.frozen? ⟨x3.heap.size, 2, none⟩ = false := by rw [← hWb]; simp [go_sem]
      have m4 : wb.frozen? ⟨x3.heap.size, 4, none⟩ = false := by rw [← hWb]; simp [go_sem]
      have m6 : wb.frozen? ⟨x3.heap.size, 6, none⟩ = false := by rw [← hWb]; simp [go_sem]
      have m7 : wb.frozen? ⟨x3.heap.size, 7, none⟩ = false := by rw [← hWb]; simp [go_sem]
      have hJf := IR.same (IR.same (IR.same hIf (hb2.block _ (by omega))) (hb3.block _ (by omega))) (hbb.block _ (by omega))
      have hJt := IR.same (IR.same hIt (hb3.block _ (by omega))) (hbb.block _ (by omega))
      have hD : ∀ eA top, DU eA 289 wb.heap.size top wb x2.heap.size N (fun _ => .slice none 0 0) (fun _ => []) := fun eA top => (hDU eA wb.heap.size top (by omega)).nils (by omega) (by rw [hbb.block _ (by omega)])
      have hbw := bthen hv3 hbb
      clear hWb
      refine hK.out _ _ trivial (fun hHeld => ?_)
      clear hK K hHeld
      refine wpAnyT_take (i := 10) (v := ?_) rfl (by kernel_rfl) (fun _ _ _ h => h) (Or.inl ⟨by rfl, ?_⟩) (by assumption) ?_
      rotate_left
      ·(intro w hSw; (try dsimp only at hSw); go_simp <;> with_reducible rfl)
      go_simp
      refine wpAnyT_done (by kernel_rfl) ?_ _
      go_simp
      go_wp2_with fail
      go_meet
      case rel => exact ⟨x3.heap.size, x2.heap.size, x0.heap.size, x1.heap.size, rfl, ⟨by omega, c0, c1, c2, c3, c4, c5, c6, c7, m2, m4, m6, m7⟩, hJf, hJt, hD, hbw, by omega, by omega, by omega, by omega, by omega, by omega, by omega, by omega⟩
    ·refine step_mkI _ rfl _ _ 38 2 rfl Tryz.underlying38 infoInt W.heap.size N rfl rfl (by omega) (by decide) (by omega) ?_
     intro x1 hIt hb1 hs1
     have hlt : x0.heap.size < x1.heap.size := by omega
     clear hs1
     have hv1 : Below W.heap.size W x1 := bthen hv0 hb1
     have hz1 := hb1.size
     refine hK.out _ _ trivial (fun hHeld => ?_)
     clear hK K hHeld
     refine wpAnyT_two (i := 3) (j := 5) rfl rfl (by kernel_rfl) (fun K hK => ?_) (fun K hK => ?_)
     ·refine step_mkN _ rfl _ _ 243 289 rfl Tryz.underlying243 infoCondS N rfl rfl (by omega) (by decide) ?_
      intro x2 hDU hb2 hs2
      have hld : x1.heap.size < x2.heap.size := by omega
      clear hs2
      have hv2 : Below W.heap.size W x2 := bthen hv1 hb2
      have hz2 := hb2.size
      refine hK.out _ _ trivial (fun hHeld => ?_)
      clear hK K hHeld
      refine wpAnyT_one (i := 5) rfl (by kernel_rfl) (fun K hK => ?_)
      refine step_mkI _ rfl _ _ 38 2 rfl Tryz.underlying38 infoInt W.heap.size N rfl rfl (by omega) (by decide) (by omega) ?_
      intro x3 hIf hb3 hs3
      have hlf : x2.heap.size < x3.heap.size := by omega
      clear hs3
      have hv3 : Below W.heap.size W x3 := bthen hv2 hb3
      have hz3 := hb3.size
      refine hK.out _ _ trivial (fun hHeld => ?_)
      clear hK K hHeld
      refine wpAnyT_take (i := 8) (v := ?_) rfl (by kernel_rfl) (fun _ _ _ h => h) (Or.inl ⟨by rfl, ?_⟩) (by assumption) ?_
      rotate_left
      ·(intro w hSw; (try dsimp only at hSw); go_simp <;> with_reducible rfl)
      go_simp
      refine wpAnyT_one (i := 9) rfl (by kernel_rfl) (fun K hK => ?_)
      go_simp
      generalize hWb : World.alloc x3 _ = wb
      have hbb : Below x3.heap.size x3 wb := by rw [← hWb]; exact bA
      have hsb : x3.heap.size + 1 ≤ wb.heap.size := by rw [← hWb]; simp
      have c0 : wb.cell? ⟨x3.heap.size, 0, none⟩ = some (.pointer (some ⟨tq, tf, none⟩)) := by rw [← hWb]; simp [go_sem]
      have c1 : wb.cell? ⟨x3.heap.size, 1, none⟩ = some (.int .i64 ar) := by rw [← hWb]; simp [go_sem]
      have c2 : wb.cell? ⟨x3.heap.size, 2, none⟩ = some (.slice none 0 0) := by rw [← hWb]; simp [go_sem]
      have c3 : wb.cell? ⟨x3.heap.size, 3, none⟩ = some (.slice (some ⟨x1.heap.size, 0, none⟩) N N) := by rw [← hWb]; simp [go_sem]
      have c4 : wb.cell? ⟨x3.heap.size, 4, none⟩ = some (.slice (some ⟨x2.heap.size, 0, none⟩) N N) := by rw [← hWb]; simp [go_sem]
      have c5 : wb.cell? ⟨x3.heap.size, 5, none⟩ = some (.slice (some ⟨x0.heap.size, 0, none⟩) N N) := by rw [← hWb]; simp [go_sem]
      have c6 : wb.cell? ⟨x3.heap.size, 6, none⟩ = some (.int .i64 0) := by rw [← hWb]; simp [go_sem]
      have c7 : wb.cell? ⟨x3.heap.size, 7, none⟩ = some (.bool false) := by rw [← hWb]; simp [go_sem]
      have m2 : wb.frozen? ⟨x3.heap.size, 2, none⟩ = false := by rw [← hWb]; simp [go_sem]
      have m4 : wb.frozen? ⟨x3.heap.size, 4, none⟩ = false := by rw [← hWb]; simp [go_sem]
      have m6 : wb.frozen? ⟨x3.heap.size, 6, none⟩ = false := by rw [← hWb]; simp [go_sem]
      have m7 : wb.frozen? ⟨x3.heap.size, 7, none⟩ = false := by rw [← hWb]; simp [go_sem]
      have hJf := IR.same hIf (hbb.block _ (by omega))
      have hJt := IR.same (IR.same (IR.same hIt (hb2.block _ (by omega))) (hb3.block _ (by omega))) (hbb.block _ (by omega))
      have hD : ∀ eA top, DU eA 289 wb.heap.size top wb x1.heap.size N (fun _ => .slice none 0 0) (fun _ => []) := fun eA top => (hDU eA wb.heap.size top (by omega)).nils (by omega) (by rw [hbb.block _ (by omega)]; rw [hb3.block _ (by omega)])
      have hbw := bthen hv3 hbb
      clear hWb
      refine hK.out _ _ trivial (fun hHeld => ?_)
      clear hK K hHeld
      refine wpAnyT_take (i := 10) (v := ?_) rfl (by kernel_rfl) (fun _ _ _ h => h) (Or.inl ⟨by rfl, ?_⟩) (by assumption) ?_
      rotate_left
      ·(intro w hSw; (try dsimp only at hSw); go_simp <;> with_reducible rfl)
      go_simp
      refine wpAnyT_done (by kernel_rfl) ?_ _
      go_simp
      go_wp2_with fail
      go_meet
      case rel => exact ⟨x3.heap.size, x1.heap.size, x2.heap.size, x0.heap.size, rfl, ⟨by omega, c0, c1, c2, c3, c4, c5, c6, c7, m2, m4, m6, m7⟩, hJf, hJt, hD, hbw, by omega, by omega, by omega, by omega, by omega, by omega, by omega, by omega⟩
     ·refine step_mkI _ rfl _ _ 38 2 rfl Tryz.underlying38 infoInt W.heap.size N rfl rfl (by omega) (by decide) (by omega) ?_
      intro x2 hIf hb2 hs2
      have hlf : x1.heap.size < x2.heap.size := by omega
      clear hs2
      have hv2 : Below W.heap.size W x2 := bthen hv1 hb2
      have hz2 := hb2.size
      refine hK.out _ _ trivial (fun hHeld => ?_)
      clear hK K hHeld
      refine wpAnyT_one (i := 3) rfl (by kernel_rfl) (fun K hK => ?_)
      refine step_mkN _ rfl _ _ 243 289 rfl Tryz.underlying243 infoCondS N rfl rfl (by omega) (by decide) ?_
      intro x3 hDU hb3 hs3
      have hld : x2.heap.size < x3.heap.size := by omega
      clear hs3
      have hv3 : Below W.heap.size W x3 := bthen hv2 hb3
      have hz3 := hb3.size
      refine hK.out _ _ trivial (fun hHeld => ?_)
      clear hK K hHeld
      refine wpAnyT_take (i := 8) (v := ?_) rfl (by kernel_rfl) (fun _ _ _ h => h) (Or.inl ⟨by rfl, ?_⟩) (by assumption) ?_
      rotate_left
      ·(intro w hSw; (try dsimp only at hSw); go_simp <;> with_reducible rfl)
      go_simp
      refine wpAnyT_one (i := 9) rfl (by kernel_rfl) (fun K hK => ?_)
      go_simp
      generalize hWb : World.alloc x3 _ = wb
      have hbb : Below x3.heap.size x3 wb := by rw [← hWb]; exact bA
      have hsb : x3.heap.size + 1 ≤ wb.heap.size := by rw [← hWb]; simp
      have c0 : wb.cell? ⟨x3.heap.size, 0, none⟩ = some (.pointer (some ⟨tq, tf, none⟩)) := by rw [← hWb]; simp [go_sem]
      have c1 : wb.cell? ⟨x3.heap.size, 1, none⟩ = some (.int .i64 ar) := by rw [← hWb]; simp [go_sem]
      have c2 : wb.cell? ⟨x3.heap.size, 2, none⟩ = some (.slice none 0 0) := by rw [← hWb]; simp [go_sem]
      have c3 : wb.cell? ⟨x3.heap.size, 3, none⟩ = some (.slice (some ⟨x2.heap.size, 0, none⟩) N N) := by rw [← hWb]; simp [go_sem]
      have c4 : wb.cell? ⟨x3.heap.size, 4, none⟩ = some (.slice (some ⟨x1.heap.size, 0, none⟩) N N) := by rw [← hWb]; simp [go_sem]
      have c5 : wb.cell? ⟨x3.heap.size, 5, none⟩ = some (.slice (some ⟨x0.heap.size, 0, none⟩) N N) := by rw [← hWb]; simp [go_sem]
      have c6 : wb.cell? ⟨x3.heap.size, 6, none⟩ = some (.int .i64 0) := by rw [← hWb]; simp [go_sem]
      have c7 : wb.cell? ⟨x3.heap.size, 7, none⟩ = some (.bool false) := by rw [← hWb]; simp [go_sem]
      have m2 : wb.frozen? ⟨x3.heap.size, 2, none⟩ = false := by rw [← hWb]; simp [go_sem]
      have m4 : wb.frozen? ⟨x3.heap.size, 4, none⟩ = false := by rw [← hWb]; simp [go_sem]
      have m6 : wb.frozen? ⟨x3.heap.size, 6, none⟩ = false := by rw [← hWb]; simp [go_sem]
      have m7 : wb.frozen? ⟨x3.heap.size, 7, none⟩ = false := by rw [← hWb]; simp [go_sem]
      have hJf := IR.same (IR.same hIf (hb3.block _ (by omega))) (hbb.block _ (by omega))
      have hJt := IR.same (IR.same (IR.same hIt (hb2.block _ (by omega))) (hb3.block _ (by omega))) (hbb.block _ (by omega))
      have hD : ∀ eA top, DU eA 289 wb.heap.size top wb x2.heap.size N (fun _ => .slice none 0 0) (fun _ => []) := fun eA top => (hDU eA wb.heap.size top (by omega)).nils (by omega) (by rw [hbb.block _ (by omega)])
      have hbw := bthen hv3 hbb
      clear hWb
      refine hK.out _ _ trivial (fun hHeld => ?_)
      clear hK K hHeld
      refine wpAnyT_take (i := 10) (v := ?_) rfl (by kernel_rfl) (fun _ _ _ h => h) (Or.inl ⟨by rfl, ?_⟩) (by assumption) ?_
      rotate_left
      ·(intro w hSw; (try dsimp only at hSw); go_simp <;> with_reducible rfl)
      go_simp
      refine wpAnyT_done (by kernel_rfl) ?_ _
      go_simp
      go_wp2_with fail
      go_meet
      case rel => exact ⟨x3.heap.size, x2.heap.size, x1.heap.size, x0.heap.size, rfl, ⟨by omega, c0, c1, c2, c3, c4, c5, c6, c7, m2, m4, m6, m7⟩, hJf, hJt, hD, hbw, by omega, by omega, by omega, by omega, by omega, by omega, by omega, by omega⟩
   ·have HRES : Hid (BgR w t ar (.returned (.tuple #[.pointer none, .int .i64 3])) w) := ⟨Below.refl _ _, .inl ⟨by rw [← HLM.out]; exact hl, rfl⟩⟩
    go_wp2_with fail
    go_ret2
    exact HRES.out
/-- a listener of at most 64 -/
def po3 (L : List (List Int)) : Int := if 64 < L.length then 3 else 0
theorem po3_0 {L : List (List Int)} : po3 L = 0 ↔ L.length ≤ 64 := by
 unfold po3
 split <;> constructor <;> intro h <;> first | omega | rfl
/-- where a search ends well, nothing was told or its listener was content with what was told last -/
theorem srch_last {s : Nat} {okT : List Int → Bool} {fx : List Int} {yc : List (List Int) → Int} : ∀ (m : Nat) (vals : List Int) (r : FR), (srch s okT fx yc m vals r).1 = 0 → (srch s okT fx yc m vals r).2.2 = r.2.2 ∨ yc (srch s okT fx yc m vals r).2.2 = 0
 | 0, vals, r, h => .inr h
 | m + 1, vals, r, h => by
  have key : ∀ (l : List Nat) (q : FR), (q.2.2 = r.2.2 ∨ yc q.2.2 = 0) → (l.foldl (stepA (srch s okT fx yc m) okT fx vals) q).1 = 0 → (l.foldl (stepA (srch s okT fx yc m) okT fx vals) q).2.2 = r.2.2 ∨ yc (l.foldl (stepA (srch s okT fx yc m) okT fx vals) q).2.2 = 0 := by
   intro l
   induction l with
   | nil => exact fun q h _ => h
   | cons a l ih =>
    intro q hq
    rw [List.foldl_cons]
    by_cases h0 : q.1 = 0
    ·cases h1 : skipB fx vals.length a
     ·by_cases h2 : q.2.1 = 6000
      ·rw [step_bud h0 h1 h2, fold_stop (by show (7 : Int) ≠ 0; decide)]
       intro h7
       exact absurd h7 (by show ¬ (7 : Int) = 0; decide)
      ·cases h3 : okT (vals ++ [(a : Int)])
       ·rw [step_no h0 h1 h2 h3]; exact ih _ hq
       ·rw [step_yes h0 h1 h2 h3]
        by_cases h4 : (srch s okT fx yc m (vals ++ [(a : Int)]) (0, q.2.1 + 1, q.2.2)).1 = 0
        ·refine ih _ ?_
         rcases srch_last m _ _ h4 with h5 | h5
         ·rw [h5]; exact hq
         ·exact .inr h5
        ·rw [fold_stop h4]
         exact fun h => absurd h h4
     ·rw [step_skip h1]; exact ih q hq
    ·rw [step_stop h0, fold_stop h0]
     exact fun h => absurd h h0
  exact key _ r (.inl rfl) h
noncomputable def poR (t : Tpl) (ar : Int) : FR := srch t.1.toNat (okF t ar) (fxN t ar) po3 (tabL t ar) [] (0, 0, [])
noncomputable def poC (t : Tpl) (ar : Int) : Int := match askC t ar == 0, limF t ar.toNat with
 | false, _ => askC t ar
 | true, true => 3
 | true, false => (poR t ar).1
noncomputable def poV (t : Tpl) (ar : Int) : List (Int × List Int) := match askC t ar == 0, limF t ar.toNat, (poR t ar).1 == 0 with
 | true, false, true => (poR t ar).2.2.map fun x => (ar, x)
 | _, _, _ => []
section
variable {t : Tpl} {ar : Int}
theorem po_ask (h : askC t ar ≠ 0) : poV t ar = [] ∧ poC t ar = askC t ar := by
 have : (askC t ar == 0) = false := by simpa using h
 simp [poV, poC, this]
theorem po_lim (h : askC t ar = 0) (h1 : limF t ar.toNat = true) : poV t ar = [] ∧ poC t ar = 3 := by simp [poV, poC, h, h1]
theorem po_no (h : askC t ar = 0) (h1 : limF t ar.toNat = false) (h2 : (poR t ar).1 ≠ 0) : poV t ar = [] ∧ poC t ar = (poR t ar).1 := by
 have : ((poR t ar).1 == 0) = false := by simpa using h2
 simp [poV, poC, h, h1, this]
theorem po_yes (h : askC t ar = 0) (h1 : limF t ar.toNat = false) (h2 : (poR t ar).1 = 0) : poV t ar = ((poR t ar).2.2.map fun x => (ar, x)) ∧ poC t ar = 0 := by simp [poV, poC, h, h1, h2]
theorem po_len (h2 : (poR t ar).1 = 0) : (poR t ar).2.2.length ≤ 64 := by
 rcases srch_last _ _ _ h2 with h | h
 ·unfold poR
  rw [h]
  exact Nat.zero_le _
 ·exact po3_0.1 h
end
theorem srch_lens {s : Nat} {okT : List Int → Bool} {fx : List Int} {yc : List (List Int) → Int} {x : List Int} : ∀ (m : Nat) (vals : List Int) (r : FR), x ∈ (srch s okT fx yc m vals r).2.2 → x ∈ r.2.2 ∨ x.length = vals.length + m
 | 0, vals, r, h => (List.mem_append.1 h).imp id (fun h => by rw [List.mem_singleton.1 h]; rfl)
 | m + 1, vals, r, h => by
  have key : ∀ (l : List Nat) (q : FR), x ∈ (l.foldl (stepA (srch s okT fx yc m) okT fx vals) q).2.2 → x ∈ q.2.2 ∨ x.length = vals.length + (m + 1) := by
   intro l
   induction l with
   | nil => exact fun q h => .inl h
   | cons a l ih =>
    intro q hq
    rw [List.foldl_cons] at hq
    by_cases h0 : q.1 = 0
    ·cases h1 : skipB fx vals.length a
     ·by_cases h2 : q.2.1 = 6000
      ·rw [step_bud h0 h1 h2] at hq; have h9 := ih _ hq; exact h9
      ·cases h3 : okT (vals ++ [(a : Int)])
       ·rw [step_no h0 h1 h2 h3] at hq; have h9 := ih _ hq; exact h9
       ·rw [step_yes h0 h1 h2 h3] at hq
        rcases ih _ hq with h4 | h4
        ·rcases srch_lens m _ _ h4 with h5 | h5
         ·exact .inl h5
         ·rw [List.length_append, List.length_singleton] at h5
          exact .inr (by omega)
        ·exact .inr h4
     ·rw [step_skip h1] at hq; exact ih q hq
    ·rw [step_stop h0] at hq; exact ih q hq
  exact key _ r h
theorem on_lt {α : Type} {E : Ty α} {O : Nat → Prop} {e base top : Nat} {w : World} {v : Value} {ys : List α} (h : Bl (E.on O) e base top w v ys) : Bl (E.on (fun k => O k ∧ k < w.heap.size)) e base top w v ys := by
 obtain ⟨L, fps, h1, h2, h3⟩ := h
 exact ⟨L, fps, h1, fun i hi => let ⟨cs, h7, h8⟩ := h2 i hi; ⟨cs, ⟨h7.1, fun k hk => ⟨h7.2 k hk, E.lt h7.1 k hk⟩⟩, h8⟩, h3⟩
/-- what the listener keeps: a slice at block bx, of operations in blocks of its own -/
def outF (ar : Int) (bx base : Nat) (told : List (List Int)) (O : Nat → Prop) (w : World) : Prop :=
 (∀ k, O k → k < w.heap.size ∧ base ≤ k) ∧ O bx ∧ w.frozen? ⟨bx, 0, none⟩ = false ∧ ∃ v, w.cell? ⟨bx, 0, none⟩ = some v ∧ (∀ g, v.ownBlock = some g → O g ∧ g ≠ bx) ∧ Bl (opT.on fun k => O k ∧ k ≠ bx) 44 base w.heap.size w v ((told.take 64).map fun x => (ar, x))
theorem outF.stable {ar : Int} {bx base : Nat} {told : List (List Int)} {O : Nat → Prop} {w w' : World} (h : outF ar bx base told O w) (hs : ∀ k, k < w.heap.size → O k → w'.heap[k]? = w.heap[k]?) (hz : w.heap.size ≤ w'.heap.size) : outF ar bx base told O w' := by
 obtain ⟨h1, h2, h3, v, h4, h5, h6⟩ := h
 have hb := hs bx (h1 bx h2).1 h2
 exact ⟨fun k hk => ⟨Nat.lt_of_lt_of_le (h1 k hk).1 hz, (h1 k hk).2⟩, h2, (World.frozen?_of_block (a := ⟨bx, 0, none⟩) hb).trans h3, v, (World.cell?_of_block (a := ⟨bx, 0, none⟩) hb).trans h4, h5, (on_same h6 h5 (fun k hk ho => hs k hk ho.1)).mono hz⟩
theorem take64 {told : List (List Int)} {x : List Int} (h : 64 ≤ told.length) : (told ++ [x]).take 64 = told.take 64 := List.take_append_of_le_length h
theorem elOp : ElT Tryz.prog 39 44 2 32 := .mk (z := .agg #[.int .i64 0, .slice none 0 0]) Tryz.underlying39 (by kernel_rfl) rfl (by decide)
set_option maxHeartbeats 1600000 in
theorem pol1_yf {ar : Int} (har : 1 ≤ ar ∧ ar ≤ 3) (bx base : Nat) : Yf Tryz.prog ar 59 #[.pointer (some ⟨bx, 0, none⟩)] po3 (outF ar bx base) := by
 refine ⟨fun h hs hz => h.stable hs hz, fun h k hk => (h.1 k hk).1, ?_⟩
 rintro told O w0 w u x hI hb hf - hln
 obtain ⟨ua, uc, rfl⟩ := fr_slice hf
 have hI' : outF ar bx base told O w := hI.stable (fun k hk _ => hb.block k hk) hb.size
 obtain ⟨-, -, -, v, h4, h5, h6⟩ := hI
 have hl0 := (hI'.1 bx hI'.2.1).1
 have hA := hI'
 obtain ⟨h1, h2, f0, v', c0, -, -⟩ := hA
 have hbb := (hI'.1 bx hI'.2.1).2
 have hl00 : bx < w0.heap.size := by
  rcases Nat.lt_or_ge bx w0.heap.size with h | h
  ·exact h
  ·have : w0.heap[bx]? = none := Array.getElem?_eq_none h
   simp [World.cell?, this] at h4
 obtain rfl : v' = v := by
  have := (cellB hb hl00).trans h4
  rw [c0] at this
  exact Option.some.inj this
 have hBw := h6.below hb (Nat.le_refl _)
 have hlen : ((told.take 64).map fun x => (ar, x)).length ≤ 64 := by simp; omega
 obtain ⟨va, vc, rfl⟩ := rd_slice (hBw.fr (by unfold capMax; omega)).rd
 have hIa : I64 ar := I64.small (by omega) (by omega)
 have HI := Lib.hid hI'
 have HF := Lib.hid hf
 have HO5 := Lib.hid h5
 have HBW := Lib.hid hBw
 have H1 := Lib.hid h1
 have hz0 := hb.size
 clear hI' hf h6 hBw h4 h1 h5
 by_cases h64 : 64 ≤ told.length
 ·have HL : Hid (((told.take 64).map fun x => (ar, x)).length = 64) := by simp [Hid]; omega
  have HY : Hid (po3 (told ++ [x]) = 3) := by unfold Hid po3; rw [if_pos (by simp; omega)]
  rw [HL.out] at c0
  clear hlen
  show Calls Tryz.prog 59 #[.agg #[.int .i64 ar, .slice ua x.length uc], .pointer (some ⟨bx, 0, none⟩)] w _
  go_enter Tryz.func59, Tryz.ntmps59
  go_wp2_with fail
  go_ret
  refine ⟨ret_int HY.out.symm, O, ?_, TchP.of_below bA O, fun k hk => .inl hk⟩
  have := HI.out.stable (w' := w.alloc (.cells #[.int .i64 ar, .slice ua x.length uc] 44)) (fun k hk _ => bA.block k hk) bA.size
  unfold outF at this ⊢
  rw [take64 h64]
  exact this
 ·have HT : Hid (told.take 64 = told) := List.take_of_length_le (by omega)
  have HY : Hid (po3 (told ++ [x]) = 0) := po3_0.2 (by simp; omega)
  have HT1 : Hid ((told ++ [x]).take 64 = told ++ [x]) := List.take_of_length_le (by simp; omega)
  have HIu := Lib.hid hIa
  rw [HT.out, List.length_map] at c0
  rw [HT.out, List.length_map] at HBW HO5
  have hll : ((told.length : Int) == 64) = false := by simp; omega
  have hvb : ∀ q, (Value.slice va told.length vc).ownBlock = some q → q < w0.heap.size := fun q hq => HBW.out.lt_top hq
  have HVN : Hid ((Value.slice va told.length vc).ownBlock ≠ some bx) := fun h => (HO5.out bx h).2 rfl
  have hbw : bx < w.heap.size := hl0
  clear hlen hIa
  show Calls Tryz.prog 59 #[.agg #[.int .i64 ar, .slice ua x.length uc], .pointer (some ⟨bx, 0, none⟩)] w _
  go_enter Tryz.func59, Tryz.ntmps59
  go_wp2_with (at_builtin; go_loud (refine wpList_push (E := opT.on fun k => (O k ∨ w0.heap.size ≤ k) ∧ k ≠ bx) (top := w0.heap.size) _ rfl _ _ 39 44 rfl elOp rfl ((on_mono HBW.out (fun k hk => ⟨.inl hk.1, hk.2⟩)).below (bthen (bA (w := w)) bA) hz0) rfl (news2' (by simp)) (fr_on (fr_cons HIu.out (HF.out.below (bthen (bA (w := w)) bA))) (fun k hk _ => ⟨.inr hk, by omega⟩)) (by rw [List.length_map]; omega) (by decide) (by omega) (by first | (simp; done) | (simp; omega)) ?_; intro v5 w5 hB5 hg5 hown; obtain ⟨a5, n5, c5, rfl⟩ := ex_slice (hB5.fr (by rw [List.length_append, List.length_map]; unfold capMax; simp only [List.length_singleton]; omega)); have i0 := (grown_cell' (i := 0) hg5 (show bx < _ by first | (simp; done) | (simp; omega)) HVN.out).trans ((cellB (bthen (bA (w := w)) bA) hbw).trans c0); have j0 := (World.frozen?_of_block (a := ⟨bx, 0, none⟩) (hg5.block bx (by first | (simp; done) | (simp; omega)) (fun e => HVN.out e.symm))).trans ((frozenB (bthen (bA (w := w)) bA) hbw).trans f0)))
  have hg6 : ((w.alloc (.cells #[.int .i64 ar, .slice ua x.length uc] 44)).alloc (.cells #[.int .i64 ar, .slice ua x.length uc] 44)).grownBy w5 (Value.slice va told.length vc).ownBlock := hg5
  have hown6 : (Value.slice a5 n5 c5).ownBlock = (Value.slice va told.length vc).ownBlock ∨ (Value.slice a5 n5 c5).ownBlock = some ((w.alloc (.cells #[.int .i64 ar, .slice ua x.length uc] 44)).alloc (.cells #[.int .i64 ar, .slice ua x.length uc] 44)).heap.size := hown
  have hB6 : Bl (opT.on fun k => (O k ∨ w0.heap.size ≤ k) ∧ k ≠ bx) 44 base w5.heap.size w5 (.slice a5 n5 c5) ((told.map fun x => (ar, x)) ++ [(ar, x)]) := hB5
  have ht5 : TchP O w w5 := ((TchP.of_below (bA (w := w)) O).then (TchP.of_below bA O) (fun k _ h => h)).then (TchP.grown hg6 (O := O) (fun q hq => (HO5.out q hq).1)) (fun k _ h => h)
  have hsz : ((w.alloc (.cells #[.int .i64 ar, .slice ua x.length uc] 44)).alloc (.cells #[.int .i64 ar, .slice ua x.length uc] 44)).heap.size = w.heap.size + 2 := by simp
  have HG := Lib.hid hg6
  have HW := Lib.hid hown6
  have HB := Lib.hid hB6
  have HT5 := Lib.hid ht5
  have HSZ := Lib.hid hsz
  clear hg5 hg6 hown hown6 hB5 hB6 ht5 hsz
  go_ret
  have hz5 := HT5.out.size
  have hown : ∀ g, (Value.slice a5 n5 c5).ownBlock = some g → ((O g ∨ w0.heap.size ≤ g) ∧ g ≠ bx) ∧ g < w5.heap.size := fun g hg => by
   refine ⟨?_, HB.out.lt_top hg⟩
   rcases HW.out with h | h
   ·have := HO5.out g (h ▸ hg)
    exact ⟨.inl this.1, this.2⟩
   ·rw [h, HSZ.out] at hg
    have hg2 : w.heap.size + 2 = g := Option.some.inj hg
    exact ⟨.inr (by omega), by omega⟩
  refine ⟨ret_int HY.out.symm, fun k => (O k ∨ w0.heap.size ≤ k) ∧ k < w5.heap.size, ⟨fun k hk => ⟨by simpa [World.setCell] using hk.2, ?_⟩, ⟨.inl h2, by omega⟩, (World.frozen?_setCell _ _ _ _).trans j0, _, World.cell?_setCell_same _ _ _ i0, fun g hg => ⟨⟨(hown g hg).1.1, (hown g hg).2⟩, (hown g hg).1.2⟩, ?_⟩, HT5.out.then (TchP.set h2) (fun k _ h => h), fun k hk => hk.1⟩
  ·rcases hk.1 with h | h
   ·exact (H1.out k h).2
   ·omega
  ·rw [HT1.out, List.map_append, List.map_singleton]
   refine (on_mono (on_same (on_lt HB.out) hown (fun k _ hk => Below.heap_setCell _ _ _ _ fun e => hk.1.2 (by simpa using e))) (fun k hk => ⟨⟨hk.1.1, hk.2⟩, hk.1.2⟩)).mono (by simp [World.setCell])
set_option maxHeartbeats 3200000 in
set_option maxRecDepth 100000 in
theorem PolymorphismsOf_any (w : World) {cs : Array Value} {t : Tpl} (h : tplT.Rd w cs.toList t) {ar : Int} :
  Calls Tryz.prog 14 #[.agg cs, .int .i64 ar] w (RetSC opsT w (poV t ar) (poC t ar)) := by
 have HT := Lib.hid h
 obtain ⟨v1, hv, -, -⟩ := pair_ex h
 obtain rfl := agg_of hv
 clear h hv
 go_enter Tryz.func14, Tryz.ntmps14
 go_wp2_with fail
 generalize hW : World.alloc _ _ = W
 have hbW : Below w.heap.size w W := hW ▸ bA
 have t0 : W.cell? ⟨w.heap.size, 0, none⟩ = some (.int .i64 t.1) := by rw [← hW]; simp
 have t1 : W.cell? ⟨w.heap.size, 1, none⟩ = some v1 := by rw [← hW]; simp
 have hsW : w.heap.size + 1 ≤ W.heap.size := by rw [← hW]; simp
 clear hW
 refine (searchFault_any _ (HT.out.below hbW) ar).mono ?_
 rintro e w1 ⟨rfl, hb1⟩
 have hB1 := bthen hbW hb1
 have hz1 := hb1.size
 replace t0 := (cellB hb1 (by omega)).trans t0
 replace t1 := (cellB hb1 (by omega)).trans t1
 have hl1 : w.heap.size < w1.heap.size := by omega
 cases ha : (askC t ar != 0)
 ·have ha0 : askC t ar = 0 := by simpa using ha
  have HAOK := Lib.hid (ask_ok ha0)
  have HA0 := Lib.hid ha0
  have har := (ask_ok ha0).2
  rw [ha0]
  clear ha ha0
  go_wp2_with fail
  refine (manyLooks_any _ (HT.out.below hB1) HAOK.out.1 har).mono ?_
  rintro e w2 ⟨rfl, hb2⟩
  have hB2 := bthen hB1 hb2
  have hz2 := hb2.size
  replace t0 := (cellB hb2 (by omega)).trans t0
  replace t1 := (cellB hb2 (by omega)).trans t1
  have hl2 : w.heap.size < w2.heap.size := by omega
  have HLM : Hid (decide (4000 < sumL (minP ar.toNat) t.2) = limF t ar.toNat) := lim_min
  generalize sumL (minP ar.toNat) t.2 = S at *
  cases hl : decide (4000 < S)
  ·have HLF : Hid (limF t ar.toNat = false) := by unfold Hid; rw [← HLM.out]; exact hl
   go_wp2_with fail
   generalize hWa : World.alloc (World.alloc w2 _) _ = wa
   have hba : Below w2.heap.size w2 wa := hWa ▸ bAA
   have hsa : wa.heap.size = w2.heap.size + 2 := by rw [← hWa]; simp
   have hO0 : outF ar (w2.heap.size + 1) w2.heap.size [] (fun k => k = w2.heap.size ∨ k = w2.heap.size + 1) wa := by
    refine ⟨fun k hk => by omega, .inr rfl, by rw [← hWa]; simp [go_sem], _, by rw [← hWa]; simp [go_sem]; rfl, fun g hg => ?_, ?_⟩
    ·have hg2 : w2.heap.size = g := Option.some.inj hg
     exact ⟨.inl hg2.symm, by omega⟩
    ·rw [← hWa]
     have hl : Bl (opT.on fun k => (k = w2.heap.size ∨ k = w2.heap.size + 1) ∧ k ≠ w2.heap.size + 1) 44 w2.heap.size (w2.heap.size + 1) (w2.alloc (.cells #[] 44)) (.slice (some ⟨w2.heap.size, 0, none⟩) 0 0) [] := Bl.lit0 (Nat.le_refl _)
     exact (hl.below (bA (w := w2.alloc (.cells #[] 44))) (by simp)).mono (by simp)
   have hBa := bthen hB2 hba
   clear hWa hl
   refine (newFinder_any _ (HT.out.below hBa) HAOK.out.1 har HLF.out (tabL_of HAOK.out.1)).mono ?_
   rintro e w3 hnf
   obtain ⟨bs, gd, gt, vin, rfl, hbs, hgt, hne, hbx, hgth, hdu, hin, hb3⟩ := hnf
   have hz3 := hb3.size
   obtain ⟨hbslt, b0, b2, b3, b4, b5, b6, b7, -, e6, e7⟩ := hbx
   have hgtl := lt_of_block hgth
   have hNb := tabN_bd (tabN_of HAOK.out.1.1 (ar := ar.toNat) (by omega) (tabL_of HAOK.out.1))
   have HFD : Hid (Fd (fun k => k < w3.heap.size ∧ k ≠ bs ∧ k ≠ w2.heap.size ∧ k ≠ w2.heap.size + 1) w3 bs t ar (duesF (looksA t ar.toNat) (tabL t ar)) (fxN t ar)) := by
    refine ⟨hbslt, _, _, _, b0, b2, b3, b4, b5, hdu.mono (fun k h1 h2 => ⟨h1, h2.2.1, by omega, by omega⟩), hin.mono (fun k h1 h2 => ⟨h1, h2.2.1, by omega, by omega⟩), ?_⟩
    have h1 : IR 2 wa.heap.size w3 gt (tabL t ar) (tabL t ar) (fxN t ar) := IR.of_mone hgth hgt (by omega)
    obtain ⟨fp, h2, -, h3, -⟩ := h1.fr (by unfold capMax; omega)
    refine ⟨fp, h2, fun k hk => ?_⟩
    have hk1 := intsT.lt h2 k hk
    have hk2 : k = gt := IR.fp h1 h2 k hk
    exact ⟨hk1, by rw [hk2]; exact hne, by have := h3 k hk; omega, by have := h3 k hk; omega⟩
   have HTB : Hid (Tb 2 w3.heap.size w3 bs 0 (.slice none 0 0) []) := ⟨b6, b7, e6, e7, Bl.nil⟩
   have HI : Hid (outF ar (w2.heap.size + 1) w2.heap.size [] (fun k => k = w2.heap.size ∨ k = w2.heap.size + 1) w3) := hO0.stable (fun k hk _ => hb3.block k hk) hz3
   have HLK := Lib.hid (tpl_looks HAOK.out.1 har HLF.out)
   have hB3 := bthen hBa hb3
   have hs0 : t.1 = (t.1.toNat : Int) := by have := HAOK.out.1.1; unfold sizeOk at this; omega
   have HS0 := Lib.hid hs0
   have HFXL : Hid ((fxN t ar).length = tabL t ar) := by simp [Hid, fxN]
   clear b0 b2 b3 b4 b5 b6 b7 e6 e7 hdu hin hgth hs0 hO0
   go_wp2_with fail
   refine (search_any HAOK.out.1 HS0.out (by omega) HLK.out.2.1 HLK.out.1 HLK.out.2.2 HFXL.out 59 #[.pointer (some ⟨w2.heap.size + 1, 0, none⟩)] (enters Tryz.func59 (by kernel_rfl) rfl) po3 (outF ar (w2.heap.size + 1) w2.heap.size) (pol1_yf har _ _) bs w3.heap.size (fun k => k < w3.heap.size ∧ k ≠ bs ∧ k ≠ w2.heap.size ∧ k ≠ w2.heap.size + 1) hbslt (fun k hk => ⟨hk.1, hk.2.1⟩) (tabL t ar) w3 (.slice none 0 0) [] 0 [] (fun k => k = w2.heap.size ∨ k = w2.heap.size + 1) (by simp) (fun a ha => by cases ha) HFD.out HTB.out HI.out (fun k hk h => by have := hk.2.2; omega) (by omega) (fun k hk => by simp [Value.ownBlock] at hk) (by omega) (by simp) (Nat.le_refl _)).mono ?_
   rintro e w4 ⟨rfl, hsr⟩
   obtain ⟨v4, O4, -, -, hI4, -, -, ht4⟩ := hsr
   have HCP : Hid (srch t.1.toNat (goesF t (duesF (looksA t ar.toNat) (tabL t ar))) (fxN t ar) po3 (tabL t ar) [] (0, 0, []) = poR t ar) := rfl
   rw [HCP.out] at hI4 ⊢
   obtain ⟨hO4, hOb, -, v5, c5, -, hB5⟩ := hI4
   have hl5 := (hO4 _ hOb).1
   obtain ⟨va, vc, rfl⟩ := rd_slice (hB5.fr (by simp; unfold capMax; omega)).rd
   have HFR : Hid (opsT.Fr w.heap.size w4 [_] _) := (on_fr (hB5.fr (by simp; unfold capMax; omega))).mono (show w.heap.size ≤ w2.heap.size by omega)
   have hB4 : Below w.heap.size w w4 := hB3.trans (ht4.below (by have := hB3.size; omega) (fun k hk h => by
    rcases h with h | h | h
    ·omega
    ·omega
    ·simp [Value.ownBlock] at h))
   clear ht4 HCP hB5 hO4
   cases hc : ((poR t ar).1 != 0)
   ·have hc0 : (poR t ar).1 = 0 := by simpa using hc
    have HR := Lib.hid (po_yes HA0.out HLF.out hc0)
    have HLE := Lib.hid (po_len hc0)
    clear hc0
    rw [List.take_of_length_le HLE.out, List.length_map] at c5 HFR
    go_wp2_with fail
    go_ret2
    rw [HR.out.1, HR.out.2]
    exact ⟨_, rfl, HFR.out, hB4⟩
   ·have HR := Lib.hid (po_no HA0.out HLF.out (by simpa using hc))
    go_wp2_with fail
    go_ret2
    rw [HR.out.1, HR.out.2]
    exact ⟨_, rfl, fr_nil, hB4⟩
  ·have HR := Lib.hid (po_lim HA0.out (by rw [← HLM.out]; exact hl))
   go_wp2_with fail
   go_ret2
   rw [HR.out.1, HR.out.2]
   exact ⟨_, rfl, fr_nil, hB2⟩
 ·have HR := Lib.hid (po_ask (t := t) (ar := ar) (by simpa using ha))
  go_wp2_with fail
  go_ret2
  rw [HR.out.1, HR.out.2]
  exact ⟨_, rfl, fr_nil, hB1⟩
theorem rdP_lt {α : Type} {E : Ty α} {ok : Nat → Prop} {w : World} {cs : List Value} {x : α} (h : E.RdP ok w cs x) : E.RdP (fun k => ok k ∧ k < w.heap.size) w cs x := let ⟨fp, h1, h2⟩ := h; ⟨fp, h1, fun k hk => ⟨h2 k hk, E.lt h1 k hk⟩⟩
theorem Ru.lt {ok : Nat → Prop} {w : World} {br : Nat} {t : Tpl} {ar : Int} {due : List (List (Int × List Int))} {fx : List Int} (h : Ru ok w br t ar due fx) : Ru (fun k => ok k ∧ k < w.heap.size) w br t ar due fx := by
 obtain ⟨h1, tb, tq, v2, v3, v4, c0, ht, hk, ct, c1, c2, c3, c4, h3, h4, h5⟩ := h
 exact ⟨h1, tb, tq, v2, v3, v4, c0, ht, ⟨hk, ht⟩, ct, c1, c2, c3, c4, rdP_lt h3, rdP_lt h4, rdP_lt h5⟩
set_option maxHeartbeats 1600000 in
theorem op_any (w : World) {br gt N : Nat} {ar : Int} {T : List Int} (hbr : br < w.heap.size) (h1 : w.cell? ⟨br, 1, none⟩ = some (.int .i64 ar)) (h5 : w.cell? ⟨br, 5, none⟩ = some (.slice (some ⟨gt, 0, none⟩) N N)) (hT : intsT.Rd w [.slice (some ⟨gt, 0, none⟩) N N] T) (hl : T.length ≤ 1000000) :
  Calls Tryz.prog 203 #[.pointer (some ⟨br, 0, none⟩)] w fun e w' => ∃ u, e = .returned (.agg #[.int .i64 ar, u]) ∧ intsT.Fr w.heap.size w' [u] T ∧ Below w.heap.size w w' := by
 have HT := Lib.hid hT
 clear hT
 go_enter Tryz.func203, Tryz.ntmps203
 go_wp2_with fail
 have c1 : ∀ o, (w.alloc o).cell? ⟨br, 1, none⟩ = some (.int .i64 ar) := fun o => (cellB bA hbr).trans h1
 have c5 : ∀ o, (w.alloc o).cell? ⟨br, 5, none⟩ = some (.slice (some ⟨gt, 0, none⟩) N N) := fun o => (cellB bA hbr).trans h5
 refine wp_region_T (fun w' => w'.cell? ⟨br, 1, none⟩ = some (.int .i64 ar) ∧ w'.cell? ⟨br, 5, none⟩ = some (.slice (some ⟨gt, 0, none⟩) N N)) [10] (by kernel_rfl) ⟨c1 _, c5 _⟩ (fun hHeld => ?_)
 refine wpAnyT_take (i := 0) (v := ?_) rfl (by kernel_rfl) (fun _ _ _ h => h) (Or.inl ⟨by rfl, ?_⟩) (by assumption) ?_
 rotate_left
 ·(intro w hSw; (try dsimp only at hSw); go_simp <;> with_reducible rfl)
 go_simp
 refine wpAnyT_take (i := 1) (v := ?_) rfl (by kernel_rfl) (fun _ _ _ h => h) (Or.inl ⟨by rfl, ?_⟩) (by assumption) ?_
 rotate_left
 ·(intro w hSw; (try dsimp only at hSw); go_simp <;> with_reducible rfl)
 go_simp
 refine wpAnyT_take (i := 2) (v := ?_) rfl (by kernel_rfl) (fun _ _ _ h => h) (Or.inl ⟨by rfl, ?_⟩) (by assumption) ?_
 rotate_left
 ·(intro w hSw; (try dsimp only at hSw); go_simp <;> with_reducible rfl)
 go_simp
 refine wpAnyT_take (i := 3) (v := ?_) rfl (by kernel_rfl) (fun _ _ _ h => h) (Or.inl ⟨by rfl, ?_⟩) (by assumption) ?_
 rotate_left
 ·(intro w hSw; (try dsimp only at hSw); go_simp <;> with_reducible rfl)
 go_simp
 refine wpAnyT_take (i := 4) (v := ?_) rfl (by kernel_rfl) (fun _ _ _ h => h) (Or.inl ⟨by rfl, ?_⟩) (by assumption) ?_
 rotate_left
 ·(intro w hSw; (try dsimp only at hSw); go_simp <;> with_reducible rfl)
 go_simp
 refine wpAnyT_take (i := 5) (v := ?_) rfl (by kernel_rfl) (fun _ _ _ h => h) (Or.inl ⟨by rfl, ?_⟩) (by assumption) ?_
 rotate_left
 ·(intro w hSw; (try dsimp only at hSw); go_simp <;> with_reducible rfl)
 go_simp
 refine wpAnyT_take (i := 6) (v := ?_) rfl (by kernel_rfl) (fun _ _ _ h => h) (Or.inl ⟨by rfl, ?_⟩) (by assumption) ?_
 rotate_left
 ·(intro w hSw; (try dsimp only at hSw); go_simp <;> with_reducible rfl)
 go_simp
 refine wpAnyT_take (i := 7) (v := ?_) rfl (by kernel_rfl) (fun _ _ _ h => h) (Or.inl ⟨by rfl, ?_⟩) (by assumption) ?_
 rotate_left
 ·(intro w hSw; (try dsimp only at hSw); go_simp <;> with_reducible rfl)
 go_simp
 refine wpAnyT_one (i := 8) rfl (by kernel_rfl) (fun K hK => ?_)
 go_simp
 go_at_call 108
 refine (l00Own_any _ (HT.out.below (bthen (bA (w := w)) bD)) hl).mono ?_
 rintro e w1 ⟨u, rfl, hB, hb1⟩
 have hb1' : Below w.heap.size w w1 := bthen (bthen (bA (w := w)) bD) hb1
 have hf : intsT.Fr (w.heap.size + 1) w1 [u] T := (hB.fr (by unfold capMax; omega)).mono (by simp)
 obtain ⟨ua, un, uc, rfl⟩ := ex_slice hf
 have HF := Lib.hid hf
 have d1 := (cellB hb1' hbr).trans h1
 have d5 := (cellB hb1' hbr).trans h5
 have dz : w1.cell? ⟨w.heap.size, 0, none⟩ = some (.int .i64 0) := (cellB hb1 (by simp)).trans (by simp)
 have dz1 : w1.cell? ⟨w.heap.size, 1, none⟩ = some (.slice none 0 0) := (cellB hb1 (by simp)).trans (by simp)
 have fz : w1.frozen? ⟨w.heap.size, 0, none⟩ = false := (frozenB hb1 (by simp)).trans (by simp)
 have fz1 : w1.frozen? ⟨w.heap.size, 1, none⟩ = false := (frozenB hb1 (by simp)).trans (by simp)
 clear hB hf
 dsimp only
 refine hK.out _ _ ⟨d1, d5⟩ (fun hHeld => ?_)
 clear hK K
 refine wpAnyT_one (i := 9) rfl (by kernel_rfl) (fun K hK => ?_)
 go_simp
 refine hK.out _ _ ⟨d1, d5⟩ (fun hHeld => ?_)
 clear hK K
 refine wpAnyT_last (i := 10) rfl (by kernel_rfl) (by kernel_rfl) (fun K hK => ?_)
 go_simp
 have z0 : ((w1.setCell ⟨w.heap.size, 0, none⟩ (.int .i64 ar)).setCell ⟨w.heap.size, 1, none⟩ (.slice ua un uc)).cell? ⟨w.heap.size, 0, none⟩ = some (.int .i64 ar) := (World.cell?_setCell_other _ _ _ _ (by simp)).trans (World.cell?_setCell_same _ _ _ dz)
 have z1 : ((w1.setCell ⟨w.heap.size, 0, none⟩ (.int .i64 ar)).setCell ⟨w.heap.size, 1, none⟩ (.slice ua un uc)).cell? ⟨w.heap.size, 1, none⟩ = some (.slice ua un uc) := World.cell?_setCell_same _ _ _ ((World.cell?_setCell_other _ _ _ _ (by simp)).trans dz1)
 have HFZ : Hid (intsT.Fr w.heap.size ((w1.setCell ⟨w.heap.size, 0, none⟩ (.int .i64 ar)).setCell ⟨w.heap.size, 1, none⟩ (.slice ua un uc)) [.slice ua un uc] T) := ((HF.out.set (a := ⟨w.heap.size, 0, none⟩) (by simp)).set (a := ⟨w.heap.size, 1, none⟩) (by simp)).mono (by omega)
 have hbz : Below w.heap.size w ((w1.setCell ⟨w.heap.size, 0, none⟩ (.int .i64 ar)).setCell ⟨w.heap.size, 1, none⟩ (.slice ua un uc)) := (((TchP.of_below hb1' (fun k => k = w.heap.size)).then (TchP.set (O := fun k => k = w.heap.size) rfl) (fun k _ h => h)).then (TchP.set (O := fun k => k = w.heap.size) rfl) (fun k _ h => h)).below (Nat.le_refl _) (fun k hk e => by omega)
 generalize (w1.setCell ⟨w.heap.size, 0, none⟩ (.int .i64 ar)).setCell ⟨w.heap.size, 1, none⟩ (.slice ua un uc) = wz at *
 clear dz dz1 fz fz1 d1 d5 c1 c5
 refine hK.out _ _ ?_
 clear hK K
 refine wpAnyT_done (by kernel_rfl) ?_ _
 go_simp
 go_wp2_with fail
 exact bodyPost_ret (v := .agg #[.int .i64 ar, .slice ua un uc]) (by simp [results, Tryz.results203, go_sem, z0, z1]) rfl ⟨_, rfl, HFZ.out, hbz⟩
end Go.Proofs.YtajmjfbejfiipaaGreat
