/-
  Contracts: whether a formula holds at a tuple, and where; both sides.
-/
import Derived.Test.YtbpjejhjlmpcjaaGreatS10
import Derived.Test.YtbpjejhjlmpcjaaGreatS6
import Derived.Test.YtbpjejhjlmpcjaaGreatK7
namespace Go.Proofs.YtbpjejhjlmpcjaaGreat
open Go.RowKit Go.Sort
set_option maxHeartbeats 3200000 in
set_option maxRecDepth 100000 in
theorem l03Witness_any (w : World) {t : Int × List (Int × List (List Int))} {f : Int × Int × List (Int × List Int)} (hok : frmOk t f) {n s : Nat} (hn : f.2.1 = n) (hs : t.1 = s) {vt vf v : Value} {tu : List Int} (ht : tplT.Pt w vt t) (hf : frmT.Pt w vf f) (hv : intsT.Rd w [v] tu) (hl : tu.length ≤ n) :
    Calls Tryz.prog 60 #[vt, vf, v] w fun e w' => ∃ u, e = .returned (.tuple #[u, .bool (headB (witL s (goesB t (duesL f.2.2 n)) n tu))]) ∧ intsT.Fr w.heap.size w' [u] (headV (witL s (goesB t (duesL f.2.2 n)) n tu)) ∧ Below w.heap.size w w' := by
  have HOK := Lib.hid hok
  have HTP := Lib.hid ht
  have HFP := Lib.hid hf
  have HV := Lib.hid hv
  have hn1 := hok.2.1
  have hn10 : n ≤ 10 := by unfold frameOk at hn1; omega
  have HN := Lib.hid hn
  have HS := Lib.hid hs
  obtain ⟨va, vc, rfl⟩ := rd_slice hv
  have hvc : tu.length ≤ vc := by obtain ⟨_, _, he, h, _⟩ := ints_ex hv; simp at he; omega
  clear hok ht hf hv hn1 hn hs
  go_enter Tryz.func60, Tryz.ntmps60
  go_wp2_with fail
  go_loopw [8] (fun i wr => ∃ k : Nat, k ≤ tu.length ∧ i = .int .i64 ((k : Int) + 1) ∧ preTo (goesB t (duesL f.2.2 n)) tu k ∧ Below w.heap.size w wr) (fun i _ => tu.length + 1 - (intOf i).toNat)
  case atStart => exact ⟨0, Nat.zero_le _, rfl, preTo_zero, Below.refl _ _⟩
  case round =>
    obtain ⟨k, hk, rfl, hpre, hbe⟩ := hrel
    have HP := Lib.hid hpre
    have hz := hbe.size
    clear hpre
    by_cases hkl : k < tu.length
    · have hk1 : k + 1 ≤ vc := by omega
      have hNN := HN.out
      have hle : (k : Int) + 1 ≤ (tu.length : Int) := by omega
      go_wp2_with fail
      refine (l03Sure_any _ (HTP.out.below hbe) (HFP.out.below hbe) (rd_prefix (HV.out.below hbe) (show k + 1 ≤ tu.length by omega)) HOK.out (k := k) (take_len (show k + 1 ≤ tu.length by omega)) (by omega)).mono ?_
      rintro e w1 ⟨rfl, hb1⟩
      rw [show f.2.1.toNat = n by omega]
      have hbw1 := bthen hbe hb1
      clear hNN
      cases hg : goesB t (duesL f.2.2 n) (tu.take (k + 1))
      · have HW := Lib.hid (witL_no (s := s) (n := n) hkl hg)
        clear hg
        go_wp2_with fail
        go_ret2
        exact ⟨.slice (some ⟨w1.heap.size, 0, none⟩) 0 0, by rw [HW.out]; rfl, by rw [HW.out]; exact fr_nil, hbw1.alloc hbw1.size _⟩
      · have HP1 := Lib.hid (preTo_succ HP.out hg)
        clear hg
        go_wp2_with fail
        go_roundw
        case rel => exact ⟨k + 1, by omega, by go_num, HP1.out, hbw1⟩
        case measure => simp [intOf]; omega
    · obtain rfl : k = tu.length := by omega
      have HW := Lib.hid (witL_yes (s := s) (n := n) HP.out)
      go_wp2_with fail
      refine (l00Own_any _ (HV.out.below hbe) (by omega)).mono ?_
      rintro e w2 ⟨u2, rfl, hB2, hb2⟩
      have hf2 := hB2.fr (by unfold capMax; omega)
      obtain ⟨a2, n2, c2, rfl⟩ := ex_slice hf2
      have HF2 := Lib.hid hf2
      have hz2 := hb2.size
      have hbw2 := bthen hbe hb2
      clear hB2 hf2
      go_wp2_with fail
      refine (l03Search_any HOK.out HN.out HS.out w.heap.size _ _ (n - tu.length) w2 _ tu (by omega) (by omega) (HTP.out.below hbw2) (HFP.out.below hbw2) (HF2.out.mono hz)).mono ?_
      rintro e w3 ⟨u3, rfl, hf3, hb3⟩
      obtain ⟨a3, n3, c3, rfl⟩ := ex_slice hf3
      rw [← HW.out] at hf3 ⊢
      have HF3 := Lib.hid hf3
      clear hf3
      go_wp2_with fail
      go_ret2
      exact ⟨.slice a3 n3 c3, rfl, HF3.out, bthen hbw2 hb3⟩
/-- the code of a formula and a tuple -/
noncomputable def atC (t : Int × List (Int × List (List Int))) (f : Int × Int × List (Int × List Int)) (tu : List Int) : Int := match tb (frmOk t f), tb (rowOk t.1 f.1 tu) with
  | false, _ => 1
  | true, false => 2
  | true, true => 0
noncomputable def witX (t : Int × List (Int × List (List Int))) (f : Int × Int × List (Int × List Int)) (tu : List Int) : List (List Int) := witL t.1.toNat (goesB t (duesL f.2.2 f.2.1.toNat)) f.2.1.toNat tu
noncomputable def waV (t : Int × List (Int × List (List Int))) (f : Int × Int × List (Int × List Int)) (tu : List Int) : List Int := match tb (frmOk t f), tb (rowOk t.1 f.1 tu) with
  | true, true => headV (witX t f tu)
  | _, _ => []
noncomputable def waC (t : Int × List (Int × List (List Int))) (f : Int × Int × List (Int × List Int)) (tu : List Int) : Int := match tb (frmOk t f), tb (rowOk t.1 f.1 tu), headB (witX t f tu) with
  | false, _, _ => 1
  | true, false, _ => 2
  | true, true, false => 6
  | true, true, true => 0
noncomputable def haB (t : Int × List (Int × List (List Int))) (f : Int × Int × List (Int × List Int)) (tu : List Int) : Bool := match tb (frmOk t f), tb (rowOk t.1 f.1 tu) with
  | true, true => headB (witX t f tu)
  | _, _ => false
section
variable {t : Int × List (Int × List (List Int))} {f : Int × Int × List (Int × List Int)} {tu : List Int}
theorem wa_1 (h : tb (frmOk t f) = false) : atC t f tu = 1 ∧ waV t f tu = [] ∧ waC t f tu = 1 ∧ haB t f tu = false := by simp [atC, waV, waC, haB, h]
theorem wa_2 (h : tb (frmOk t f) = true) (h2 : tb (rowOk t.1 f.1 tu) = false) : atC t f tu = 2 ∧ waV t f tu = [] ∧ waC t f tu = 2 ∧ haB t f tu = false := by simp [atC, waV, waC, haB, h, h2]
theorem wa_6 (h : tb (frmOk t f) = true) (h2 : tb (rowOk t.1 f.1 tu) = true) (h3 : headB (witX t f tu) = false) : atC t f tu = 0 ∧ waV t f tu = [] ∧ waC t f tu = 6 ∧ haB t f tu = false := by
  simp only [atC, waV, waC, haB, h, h2, h3, and_true, true_and]
  rw [head_no h3]
  rfl
theorem wa_0 (h : tb (frmOk t f) = true) (h2 : tb (rowOk t.1 f.1 tu) = true) (h3 : headB (witX t f tu) = true) : atC t f tu = 0 ∧ waV t f tu = headV (witX t f tu) ∧ waC t f tu = 0 ∧ haB t f tu = true := by simp only [atC, waV, waC, haB, h, h2, h3]; exact ⟨trivial, trivial, trivial, trivial⟩
theorem at_ok (h : tb (frmOk t f) = true) (h2 : tb (rowOk t.1 f.1 tu) = true) : atC t f tu = 0 := by simp only [atC, h, h2]
theorem frm_nums (h : frmOk t f) : 1 ≤ t.1 ∧ t.1 ≤ 4 ∧ 1 ≤ f.1 ∧ f.1 ≤ 4 ∧ f.1 ≤ f.2.1 ∧ f.2.1 ≤ 8 ∧ f.2.2.length ≤ 16 := by
  have h1 := h.1.1
  have h2 := h.2.1
  unfold sizeOk at h1
  unfold frameOk at h2
  omega
theorem witL_each {s n : Nat} {sure : List Int → Bool} {b : List Int} (hb : b.length ≤ n) : ∀ y ∈ witL s sure n b, y.length = n := by
  intro y hy
  cases h : tb (preTo sure b b.length)
  · simp only [witL, h] at hy; cases hy
  · simp only [witL, h] at hy
    have := solsL_each y hy
    omega
theorem wa_cnt : cntI (waV t f tu) ≤ 1000000 := by
  cases h : tb (frmOk t f)
  · rw [(wa_1 h).2.1]; simp [cntI]
  cases h2 : tb (rowOk t.1 f.1 tu)
  · rw [(wa_2 h h2).2.1]; simp [cntI]
  cases h3 : headB (witX t f tu)
  · rw [(wa_6 h h2 h3).2.1]; simp [cntI]
  rw [(wa_0 h h2 h3).2.1]
  have h4 := frm_nums (tb_iff.1 h)
  have h5 := (tb_iff.1 h2).1
  cases hw : witX t f tu with
  | nil => simp [headV, cntI]
  | cons y r =>
    have h6 := witL_each (s := t.1.toNat) (n := f.2.1.toNat) (sure := goesB t (duesL f.2.2 f.2.1.toNat)) (b := tu) (by omega) y (by unfold witX at hw; rw [hw]; exact List.mem_cons_self ..)
    simp only [headV, cntI]
    omega
end
end Go.Proofs.YtbpjejhjlmpcjaaGreat
