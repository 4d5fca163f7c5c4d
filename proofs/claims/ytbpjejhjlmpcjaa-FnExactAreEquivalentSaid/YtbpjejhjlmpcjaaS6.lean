/-
  Contracts: a search for an instance; the first values.
-/
import Derived.Test.YtbpjejhjlmpcjaaS5
namespace Go.Proofs.Ytbpjejhjlmpcjaa
open Go.RowKit Go.Sort
theorem consP {α : Type} {E : Ty α} {ok : Nat → Prop} {w : World} {a : Value} {cs : List Value} {x : Int × α} (h : (Ty.cons E).RdP ok w (a :: cs) x) : E.RdP ok w cs x.2 := by
  obtain ⟨fp, ⟨cs', he, _, h⟩, hf⟩ := h
  obtain ⟨_, rfl⟩ : _ ∧ cs = cs' := by simpa using he
  exact ⟨fp, h, hf⟩
theorem Ty.Fr.P {α : Type} {E : Ty α} {base : Nat} {w : World} {cs : List Value} {x : α} (h : E.Fr base w cs x) : E.RdP (fun k => base ≤ k) w cs x := let ⟨fp, h1, _, h3, _⟩ := h; ⟨fp, h1, h3⟩
set_option maxHeartbeats 3200000 in
set_option maxRecDepth 100000 in
theorem solverFor_any (w : World) {ok0 : Nat → Prop} {ct cx : Array Value} {t : Int × List (Int × List (List Int))} {x : Int × List (Int × List Int)} (ht : tplT.RdP ok0 w ct.toList t) (hx : instT.RdP ok0 w cx.toList x) (hok : instOk t x) {n : Nat} (hn : x.1 = n) :
    Calls Try.prog 58 #[.agg ct, .agg cx] w fun e w' => ∃ bs, e = .returned (.pointer (some ⟨bs, 0, none⟩)) ∧ Sv (fun k => ok0 k ∨ w.heap.size ≤ k) w' bs t n (duesL x.2 n) ∧ Below w.heap.size w w' := by
  have HT := Lib.hid ht
  obtain ⟨v1, hct, -, -⟩ := pair_ex ht.rd
  obtain rfl := agg_of hct
  obtain ⟨v2, hcx, -, -⟩ := pair_ex hx.rd
  obtain rfl := agg_of hcx
  obtain ⟨Z, hZ, hZr, hZl, xa, xc, rfl, hZc⟩ := vals_of (consP hx)
  have HZ := Lib.hid hZ
  have HZR := Lib.hid hZr
  have HZL := Lib.hid hZl
  have HZC := Lib.hid hZc
  have hxl := hok.2.2.1
  have hx1 := hok.2.1
  have HOK := Lib.hid hok
  rw [hn] at hx1 ⊢
  clear ht hct hx hcx hZ hZr hZl hZc hok
  have HN := Lib.hid hn
  go_enter Try.func58, Try.ntmps58
  clear hn
  go_wp2_with fail
  generalize hW : World.alloc _ _ = W
  have hbW : Below w.heap.size w W := hW ▸ ((bAA (w := w)).alloc (by simp; omega) _)
  have hsW : w.heap.size + 3 ≤ W.heap.size := by rw [← hW]; simp
  have t0 : W.cell? ⟨w.heap.size, 0, none⟩ = some (.int .i64 t.1) := by rw [← hW]; simp [go_sem]
  have t1 : W.cell? ⟨w.heap.size, 1, none⟩ = some v1 := by rw [← hW]; simp [go_sem]
  have x0 : W.cell? ⟨w.heap.size + 1, 0, none⟩ = some (.int .i64 n) := by rw [← hW]; simp [go_sem]
  have HB0 : Hid (Bl pvT 138 (w.heap.size + 2) W.heap.size W (.slice (some ⟨w.heap.size + 2, 0, none⟩) 0 0) []) := by
    unfold Hid
    rw [← hW]
    simpa using Bl.lit0 (E := pvT) (e := 138) (base := w.heap.size + 2) (w := (w.alloc (.cells #[.int .i64 t.1, v1] 34)).alloc (.cells #[.int .i64 n, .slice xa x.2.length xc] 38)) (by simp)
  clear hW
  go_loopw [12, 5] (fun i o wr => ∃ k : Nat, k ≤ x.2.length ∧ i = .int .i64 k ∧ Bl pvT 138 (w.heap.size + 2) wr.heap.size wr o ((Z.take k).map (·.2)) ∧ Below (w.heap.size + 2) W wr ∧ w.heap.size + 3 ≤ wr.heap.size) (fun i _ _ => x.2.length - (intOf i).toNat)
  case atStart => exact ⟨0, Nat.zero_le _, rfl, by simpa using HB0.out, Below.refl _ _, hsW⟩
  case round =>
    obtain ⟨k, hk, rfl, hB, hbe, hse⟩ := hrel
    have HB := Lib.hid hB
    have hbw : Below w.heap.size w wr := hbW.trans (hbe.mono (by omega))
    clear hB HB0
    by_cases hkl : k < x.2.length
    · obtain ⟨b, o, rfl, hb, hce⟩ := HZC.out (by omega)
      have hkz : k < Z.length := by rw [HZL.out]; exact hkl
      obtain ⟨g0, g1⟩ := hce k hkz
      obtain ⟨q1, q2, q3⟩ := HZR.out _ (List.getElem_mem hkz)
      obtain ⟨qa, qc, hqe⟩ := rdP_slice q3
      have hy : (Z[k]).2 = ((Z[k]).1.1, .slice qa (Z[k]).1.2.length qc) := by rw [← q1, ← hqe]
      rw [hqe] at g1
      have HTK := Lib.hid (take_snoc hkz)
      have HY := Lib.hid hy
      have d0 := (hbw.cell hb).trans g0
      have d1 := (hbw.cell hb).trans g1
      have hI := q2
      have hzl := HZL.out
      generalize hc1 : (Z[k]).1.1 = c1 at *
      clear hce g0 g1 q1 q3 hqe hy hzl
      go_wp2_with (at_builtin; go_loud (refine wpList_push (E := pvT) _ rfl _ _ 65 138 rfl elAtomS rfl (HB.out.below bAA (Nat.le_refl _)) rfl (news2' (by simp)) (fr_pv (x := .slice qa (Z[k]).1.2.length qc) hI rfl) (by rw [List.length_map, List.length_take]; omega) (by decide) (by omega) (by first | (simp; done) | (simp; omega)) ?_; intro v5 w5 hB5 hg5 _; have hb5 : Below (w.heap.size + 2) wr w5 := ((bAA (w := wr)).mono (by omega)).grown hg5 (by first | (simp; done) | (simp; omega)) (fun q hq => HB.out.own hq)))
      have hz5 := hb5.size
      have hB6 : Bl pvT 138 (w.heap.size + 2) w5.heap.size w5 v5 ((Z.take (k + 1)).map (·.2)) := by
        rw [← HTK.out, List.map_append, List.map_cons, List.map_nil, HY.out]
        exact hB5
      have HB6 := Lib.hid hB6
      clear hB5 hB6 hg5
      go_wp2_with fail
      go_roundw
      case rel => exact ⟨k + 1, by omega, by go_num, HB6.out, hbe.trans hb5, by omega⟩
      case measure => simp [intOf]; omega
    · obtain rfl : k = x.2.length := by omega
      have hzl := HZL.out
      have h1 := (HB.out.fr (by rw [List.length_map, List.length_take]; unfold capMax; omega)).P
      rw [← hzl, List.take_length] at h1
      have hrow := ops_of (h1.mono (ok' := fun k => ok0 k ∨ w.heap.size ≤ k) (fun q _ hq => .inr (by omega))) (fun z hz => ((HZR.out z hz).below hbw).mono (fun _ _ h => .inl h))
      rw [HZ.out] at hrow
      clear h1
      obtain ⟨ra, rc, rfl⟩ := rdP_slice hrow
      have HROW := Lib.hid hrow
      have HTP : Hid (tplT.RdP (fun k => ok0 k ∨ w.heap.size ≤ k) wr [.int .i64 t.1, v1] t) := (HT.out.below hbw).mono (fun _ _ h => .inl h)
      replace t0 := (cellB hbe (by omega)).trans t0
      replace t1 := (cellB hbe (by omega)).trans t1
      replace x0 := (cellB hbe (by omega)).trans x0
      clear hrow HZC hzl
      go_wp2_with fail
      refine (solverOf_any (ct := #[.int .i64 t.1, v1]) _ HTP.out (by omega) HROW.out (by omega) (fun a ha => by
        have h1 := HOK.out.2.2.2 a ha
        have h2 := atom_len HOK.out.1 (con_atom HOK.out.1 h1)
        exact ⟨h2.1, fun p hp => by have := h1.2.2 p hp; have := HN.out; omega⟩)).mono ?_
      rintro e w2 ⟨bs, rfl, hs2, hb2⟩
      have HS2 : Hid (Sv (fun k => ok0 k ∨ w.heap.size ≤ k) w2 bs t n (duesL x.2 n)) := hs2.mono (fun q _ h => by
        rcases h with (h | h) | h
        · exact .inl h
        · exact .inr h
        · exact .inr (by omega))
      clear hs2
      go_wp2_with fail
      go_ret
      exact ⟨bs, rfl, HS2.out, bthen hbw hb2⟩
theorem rd_prefix {w : World} {ad : Option Addr} {n c k : Nat} {xs : List Int} (h : intsT.Rd w [.slice ad n c] xs) (hk : k ≤ xs.length) : intsT.Rd w [.slice ad k c] (xs.take k) := by
  obtain ⟨fp, ad', cap, hv, h1, h2, h3⟩ := h
  simp only [List.cons.injEq, Value.slice.injEq, and_true] at hv
  obtain ⟨rfl, rfl, rfl⟩ := hv
  have hl : (xs.take k).length = k := List.length_take_of_le hk
  rcases Nat.eq_zero_or_pos k with h0 | h0
  · subst h0
    exact ⟨[], ad, c, by simp, by simp, by simp, .inl ⟨by simp, rfl⟩⟩
  · rcases h3 with ⟨h3, _⟩ | ⟨h3, b, o, fps, rfl, hb, rfl, h4⟩
    · omega
    · refine ⟨_, some ⟨b, o, none⟩, c, by rw [hl], by rw [hl]; omega, by rw [hl]; unfold capMax at *; omega, .inr ⟨by rw [hl]; exact h0, b, o, fps, rfl, hb, rfl, fun i hi => ?_⟩⟩
      rw [hl] at hi
      obtain ⟨cs, h5, h6⟩ := h4 i (by omega)
      exact ⟨cs, by rw [List.getElem_take]; exact h5, h6⟩
/-- the beginnings go, as far as k of them -/
def preTo (sure : List Int → Bool) (b : List Int) (k : Nat) : Prop := ∀ j, j < k → sure (b.take (j + 1)) = true
theorem preTo_zero {sure : List Int → Bool} {b : List Int} : preTo sure b 0 := fun _ h => absurd h (Nat.not_lt_zero _)
theorem preTo_succ {sure : List Int → Bool} {b : List Int} {k : Nat} (h : preTo sure b k) (h' : sure (b.take (k + 1)) = true) : preTo sure b (k + 1) := fun j hj => by
  by_cases e : j = k
  · subst e; exact h'
  · exact h j (by omega)
/-- all lists of values that begin with some -/
noncomputable def witL (s : Nat) (sure : List Int → Bool) (n : Nat) (b : List Int) : List (List Int) := match tb (preTo sure b b.length) with
  | true => solsL s sure (n - b.length) b
  | false => []
theorem witL_no {s : Nat} {sure : List Int → Bool} {n : Nat} {b : List Int} {k : Nat} (hk : k < b.length) (h : sure (b.take (k + 1)) = false) : witL s sure n b = [] := by
  have : tb (preTo sure b b.length) = false := tb_false (fun hh => by have := hh k hk; rw [h] at this; cases this)
  simp only [witL, this]
theorem witL_yes {s : Nat} {sure : List Int → Bool} {n : Nat} {b : List Int} (h : preTo sure b b.length) : witL s sure n b = solsL s sure (n - b.length) b := by simp only [witL, tb_true h]
def headV (l : List (List Int)) : List Int := match l with
  | [] => []
  | x :: _ => x
def headB (l : List (List Int)) : Bool := match l with
  | [] => false
  | _ :: _ => true
/-- a box that keeps the last that was told -/
def lastI (bx : Nat) (told : List (List Int)) (O : List Nat) (w : World) : Prop :=
  O = [bx] ∧ bx < w.heap.size ∧ w.frozen? ⟨bx, 0, none⟩ = false ∧ ((told = [] ∧ w.cell? ⟨bx, 0, none⟩ = some (.slice none 0 0)) ∨ ∃ x u, told.getLast? = some x ∧ w.cell? ⟨bx, 0, none⟩ = some u ∧ intsT.Fr (bx + 1) w [u] x)
set_option maxHeartbeats 800000 in
theorem first1_yl (bx : Nat) : Yl Try.prog 100 #[.pointer (some ⟨bx, 0, none⟩)] (fun _ => false) (lastI bx) := by
  refine ⟨?_, ?_, ?_⟩
  · rintro told O w w' ⟨rfl, h1, h2, h3⟩ hb
    refine ⟨rfl, Nat.lt_of_lt_of_le h1 hb.size, (frozenB hb h1).trans h2, ?_⟩
    rcases h3 with ⟨h3, h4⟩ | ⟨x, u, h3, h4, h5⟩
    · exact .inl ⟨h3, (cellB hb h1).trans h4⟩
    · exact .inr ⟨x, u, h3, (cellB hb h1).trans h4, h5.below hb⟩
  · rintro told O w ⟨rfl, h1, -, -⟩ k hk
    obtain rfl : k = bx := by simpa using hk
    exact h1
  · rintro told O w0 w u x ⟨rfl, h1, h2, h3⟩ hb hf hlx -
    obtain ⟨a, c, rfl⟩ := fr_slice hf
    have HF := Lib.hid hf
    have hz := hb.size
    have f0 := (frozenB hb h1).trans h2
    obtain ⟨u0, c0⟩ : ∃ u0, w.cell? ⟨bx, 0, none⟩ = some u0 := by
      rcases h3 with ⟨-, h4⟩ | ⟨x, u, -, h4, -⟩
      · exact ⟨_, (cellB hb h1).trans h4⟩
      · exact ⟨_, (cellB hb h1).trans h4⟩
    clear h3 hf h2
    show Calls Try.prog 100 #[.slice a x.length c, .pointer (some ⟨bx, 0, none⟩)] w _
    go_enter Try.func100, Try.ntmps100
    go_wp2_with fail
    go_ret
    refine ⟨rfl, [bx], ⟨rfl, by rw [size_set]; omega, (World.frozen?_setCell _ _ _ _).trans f0, .inr ⟨x, _, by simp, World.cell?_setCell_same _ _ _ c0, (HF.out.mono (by omega)).set (by simp)⟩⟩, TchF.setCell (List.mem_singleton.2 rfl) _ _ _, fun k hk => .inl hk⟩
set_option maxHeartbeats 3200000 in
set_option maxRecDepth 100000 in
theorem first_any (w : World) {t : Int × List (Int × List (List Int))} {n : Nat} {due : List (List (Int × List Int))} (hT : tplOk t) {s : Nat} (hs : t.1 = s) (hn : n ≤ 10) (hdl : due.length = n) (hD : dueOk t n due) {ok : Nat → Prop} {bs : Nat} (hS : Sv ok w bs t n due) {v : Value} {b : List Int} (hv : intsT.Rd w [v] b) (hl : b.length ≤ n) :
    Calls Try.prog 63 #[.pointer (some ⟨bs, 0, none⟩), v] w fun e w' => ∃ u, e = .returned (.tuple #[u, .bool (headB (witL s (goesB t due) n b))]) ∧ intsT.Fr w.heap.size w' [u] (headV (witL s (goesB t due) n b)) ∧ Below w.heap.size w w' := by
  have HT := Lib.hid hT
  have HD := Lib.hid hD
  have HS := Lib.hid hS
  have HV := Lib.hid hv
  obtain ⟨va, vc, rfl⟩ := rd_slice hv
  have hvc : b.length ≤ vc := by obtain ⟨_, _, he, h, _⟩ := ints_ex hv; simp at he; omega
  have hs4 := hT.1
  unfold sizeOk at hs4
  clear hT hD hS hv
  go_enter Try.func63, Try.ntmps63
  go_wp2_with fail
  go_loopw [11] (fun i wr => ∃ k : Nat, k ≤ b.length ∧ i = .int .i64 k ∧ preTo (goesB t due) b k ∧ Below w.heap.size w wr) (fun i _ => b.length - (intOf i).toNat)
  case atStart => exact ⟨0, Nat.zero_le _, rfl, preTo_zero, Below.refl _ _⟩
  case round =>
    obtain ⟨k, hk, rfl, hpre, hbe⟩ := hrel
    have HP := Lib.hid hpre
    clear hpre
    by_cases hkl : k < b.length
    · have hk1 : k + 1 ≤ vc := by omega
      go_wp2_with fail
      refine (goes_any _ (HS.out.below hbe) (rd_prefix (HV.out.below hbe) (show k + 1 ≤ b.length by omega)) HT.out HD.out (by rw [take_len (show k + 1 ≤ b.length by omega)]; omega) (by rw [take_len (show k + 1 ≤ b.length by omega)]; omega)).mono ?_
      rintro e w1 ⟨rfl, hb1⟩
      have hbw1 := bthen hbe hb1
      cases hg : goesB t due (b.take (k + 1))
      · have HW := Lib.hid (witL_no (s := s) (n := n) hkl hg)
        clear hg
        go_wp2_with fail
        go_ret2
        exact ⟨.slice none 0 0, by rw [HW.out]; rfl, by rw [HW.out]; exact fr_nil, hbw1⟩
      · have HP1 := Lib.hid (preTo_succ HP.out hg)
        clear hg
        go_wp2_with fail
        go_roundw
        case rel => exact ⟨k + 1, by omega, by go_num, HP1.out, hbw1⟩
        case measure => simp [intOf]; omega
    · obtain rfl : k = b.length := by omega
      have HW := Lib.hid (witL_yes (s := s) (n := n) HP.out)
      go_wp2_with fail
      generalize hWa : World.alloc wr _ = wa
      have hba : Below wr.heap.size wr wa := hWa ▸ bA
      have hsa : wr.heap.size + 1 ≤ wa.heap.size := by rw [← hWa]; simp
      have hI0 : lastI wr.heap.size [] [wr.heap.size] wa := ⟨rfl, by omega, by rw [← hWa]; simp, .inl ⟨rfl, by rw [← hWa]; simp⟩⟩
      have HI0 := Lib.hid hI0
      have hbwa := bthen hbe hba
      have hSa : Sv (fun q => q < wr.heap.size) wa bs t n due := ((HS.out.below hbe).mono (ok' := fun q => q < wr.heap.size) (fun q hq _ => hq)).below hba
      have HSA := Lib.hid hSa
      obtain ⟨fpv, hrv⟩ := HV.out.below hbe
      have HRV := Lib.hid hrv
      have hfl : ∀ q ∈ fpv, q < wr.heap.size := Ty.lt _ hrv
      have HFL := Lib.hid hfl
      have hsl := solsL_len (s := s) (sure := goesB t due) (m := n - b.length) (vals := b)
      have hpow : s ^ (n - b.length) ≤ 4 ^ 10 := Nat.le_trans (Nat.pow_le_pow_left (by omega) _) (Nat.pow_le_pow_right (by omega) (by omega))
      have HBD : Hid (([] : List (List Int)).length + (solsL s (goesB t due) (n - b.length) b).length ≤ 2000000) := by
        unfold Hid
        have : (4 : Nat) ^ 10 = 1048576 := by decide
        simp only [List.length_nil]
        omega
      clear hWa hI0 hSa hrv hfl hsl hpow
      refine (walk_any HT.out hs hn hdl HD.out 100 #[.pointer (some ⟨wr.heap.size, 0, none⟩)] (enters Try.func100 (by kernel_rfl) rfl) (fun _ => false) (lastI wr.heap.size) (first1_yl _) bs (fun q => q < wr.heap.size) (n - b.length) wa _ b fpv [] [wr.heap.size] (by omega) HSA.out (fun q hq => ⟨by omega, fun hm => by simp at hm; omega⟩) (HRV.out.below hba) (fun q hq hm => by have := HFL.out q hq; simp at hm; omega) HI0.out HBD.out).mono ?_
      rintro e w2 ⟨rfl, O', hI, ht, hO⟩
      have hbw2 : Below w.heap.size w w2 := hbwa.trans (ht.below hbwa.size (fun q hq => by simp at hq; have := hbe.size; omega))
      have hse := hbe.size
      clear ht hO HI0 HSA HRV HFL HBD
      generalize solsL s (goesB t due) (n - b.length) b = L at hI HW ⊢
      rcases L with _ | ⟨x, r⟩
      · obtain ⟨rfl, h1, h2, h3⟩ := hI
        have c0 : w2.cell? ⟨wr.heap.size, 0, none⟩ = some (.slice none 0 0) := by
          rcases h3 with ⟨-, h3⟩ | ⟨x, u, h3, -, -⟩
          · exact h3
          · simp [tellL] at h3
        clear h3
        rw [tellL_nil]
        go_wp2_with fail
        go_ret2
        exact ⟨.slice none 0 0, by rw [HW.out]; rfl, by rw [HW.out]; exact fr_nil, hbw2⟩
      · rw [tellL_first] at hI ⊢
        obtain ⟨rfl, h1, h2, h3⟩ := hI
        obtain ⟨u, c0, hf⟩ : ∃ u, w2.cell? ⟨wr.heap.size, 0, none⟩ = some u ∧ intsT.Fr (wr.heap.size + 1) w2 [u] x := by
          rcases h3 with ⟨h3, -⟩ | ⟨y, u, h3, h4, h5⟩
          · simp at h3
          · obtain rfl : x = y := by simpa using h3
            exact ⟨u, h4, h5⟩
        obtain ⟨ua, uc, rfl⟩ := fr_slice hf
        have HF := Lib.hid hf
        clear h3 hf
        go_wp2_with fail
        go_ret2
        exact ⟨.slice ua x.length uc, by rw [HW.out]; rfl, by rw [HW.out]; exact HF.out.mono (by omega), hbw2⟩
end Go.Proofs.Ytbpjejhjlmpcjaa
