/-
  Contracts: a search for an instance; the first values.
-/
import Derived.Test.YtbpjejhjlmpcjaaGreatS5
namespace Go.Proofs.YtbpjejhjlmpcjaaGreat
open Go.RowKit Go.Sort
theorem consP {α : Type} {E : Ty α} {ok : Nat → Prop} {w : World} {a : Value} {cs : List Value} {x : Int × α} (h : (Ty.cons E).RdP ok w (a :: cs) x) : E.RdP ok w cs x.2 := by
  obtain ⟨fp, ⟨cs', he, _, h⟩, hf⟩ := h
  obtain ⟨_, rfl⟩ : _ ∧ cs = cs' := by simpa using he
  exact ⟨fp, h, hf⟩
theorem Ty.Fr.P {α : Type} {E : Ty α} {base : Nat} {w : World} {cs : List Value} {x : α} (h : E.Fr base w cs x) : E.RdP (fun k => base ≤ k) w cs x := let ⟨fp, h1, _, h3, _⟩ := h; ⟨fp, h1, h3⟩
theorem rd_prefix {w : World} {ad : Option Addr} {n c k : Nat} {xs : List Int} (h : intsT.Rd w [.slice ad n c] xs) (hk : k ≤ xs.length) : intsT.Rd w [.slice ad k c] (xs.take k) := by
  obtain ⟨fp, ad', cap, hv, h1, h2, h3⟩ := h
  simp only [List.cons.injEq, Value.slice.injEq, and_true] at hv
  obtain ⟨rfl, rfl, rfl⟩ := hv
  have hl : (xs.take k).length = k := List.length_take_of_le hk
  rcases Nat.eq_zero_or_pos k with h0 | h0
  · subst h0
    exact ⟨[], ad, c, by simp, by simp, by simp, .inl ⟨by simp, rfl⟩⟩
  · rcases h3 with ⟨h3, _⟩ | ⟨h3, b, o, fps, rfl, hb, rfl, h4⟩
    · omega
    · refine ⟨_, some ⟨b, o, none⟩, c, by rw [hl], by rw [hl]; omega, by rw [hl]; unfold capMax at *; omega, .inr ⟨by rw [hl]; exact h0, b, o, fps, rfl, hb, rfl, fun i hi => ?_⟩⟩
      rw [hl] at hi
      obtain ⟨cs, h5, h6⟩ := h4 i (by omega)
      exact ⟨cs, by rw [List.getElem_take]; exact h5, h6⟩
/-- the beginnings go, as far as k of them -/
def preTo (sure : List Int → Bool) (b : List Int) (k : Nat) : Prop := ∀ j, j < k → sure (b.take (j + 1)) = true
theorem preTo_zero {sure : List Int → Bool} {b : List Int} : preTo sure b 0 := fun _ h => absurd h (Nat.not_lt_zero _)
theorem preTo_succ {sure : List Int → Bool} {b : List Int} {k : Nat} (h : preTo sure b k) (h' : sure (b.take (k + 1)) = true) : preTo sure b (k + 1) := fun j hj => by
  by_cases e : j = k
  · subst e; exact h'
  · exact h j (by omega)
/-- all lists of values that begin with some -/
noncomputable def witL (s : Nat) (sure : List Int → Bool) (n : Nat) (b : List Int) : List (List Int) := match tb (preTo sure b b.length) with
  | true => solsL s sure (n - b.length) b
  | false => []
theorem witL_no {s : Nat} {sure : List Int → Bool} {n : Nat} {b : List Int} {k : Nat} (hk : k < b.length) (h : sure (b.take (k + 1)) = false) : witL s sure n b = [] := by
  have : tb (preTo sure b b.length) = false := tb_false (fun hh => by have := hh k hk; rw [h] at this; cases this)
  simp only [witL, this]
theorem witL_yes {s : Nat} {sure : List Int → Bool} {n : Nat} {b : List Int} (h : preTo sure b b.length) : witL s sure n b = solsL s sure (n - b.length) b := by simp only [witL, tb_true h]
def headV (l : List (List Int)) : List Int := match l with
  | [] => []
  | x :: _ => x
def headB (l : List (List Int)) : Bool := match l with
  | [] => false
  | _ :: _ => true
/-- a box that keeps the last that was told -/
def lastI (bx : Nat) (told : List (List Int)) (O : List Nat) (w : World) : Prop :=
  O = [bx] ∧ bx < w.heap.size ∧ w.frozen? ⟨bx, 0, none⟩ = false ∧ ((told = [] ∧ w.cell? ⟨bx, 0, none⟩ = some (.slice none 0 0)) ∨ ∃ x u, told.getLast? = some x ∧ w.cell? ⟨bx, 0, none⟩ = some u ∧ intsT.Fr (bx + 1) w [u] x)
set_option maxHeartbeats 800000 in
theorem first1_yl (bx : Nat) : Yl Tryz.prog 102 #[.pointer (some ⟨bx, 0, none⟩)] (fun _ => false) (lastI bx) := by
  refine ⟨?_, ?_, ?_⟩
  · rintro told O w w' ⟨rfl, h1, h2, h3⟩ hb
    refine ⟨rfl, Nat.lt_of_lt_of_le h1 hb.size, (frozenB hb h1).trans h2, ?_⟩
    rcases h3 with ⟨h3, h4⟩ | ⟨x, u, h3, h4, h5⟩
    · exact .inl ⟨h3, (cellB hb h1).trans h4⟩
    · exact .inr ⟨x, u, h3, (cellB hb h1).trans h4, h5.below hb⟩
  · rintro told O w ⟨rfl, h1, -, -⟩ k hk
    obtain rfl : k = bx := by simpa using hk
    exact h1
  · rintro told O w0 w u x ⟨rfl, h1, h2, h3⟩ hb hf hlx -
    obtain ⟨a, c, rfl⟩ := fr_slice hf
    have HF := Lib.hid hf
    have hz := hb.size
    have f0 := (frozenB hb h1).trans h2
    obtain ⟨u0, c0⟩ : ∃ u0, w.cell? ⟨bx, 0, none⟩ = some u0 := by
      rcases h3 with ⟨-, h4⟩ | ⟨x, u, -, h4, -⟩
      · exact ⟨_, (cellB hb h1).trans h4⟩
      · exact ⟨_, (cellB hb h1).trans h4⟩
    clear h3 hf h2
    show Calls Tryz.prog 102 #[.slice a x.length c, .pointer (some ⟨bx, 0, none⟩)] w _
    go_enter Tryz.func102, Tryz.ntmps102
    go_wp2_with fail
    go_ret
    refine ⟨rfl, [bx], ⟨rfl, by rw [size_set]; omega, (World.frozen?_setCell _ _ _ _).trans f0, .inr ⟨x, _, by simp, World.cell?_setCell_same _ _ _ c0, (HF.out.mono (by omega)).set (by simp)⟩⟩, TchF.setCell (List.mem_singleton.2 rfl) _ _ _, fun k hk => .inl hk⟩
set_option maxHeartbeats 3200000 in
set_option maxRecDepth 100000 in
theorem first_any (w : World) {t : Int × List (Int × List (List Int))} {n : Nat} {due : List (List (Int × List Int))} (hT : tplOk t) {s : Nat} (hs : t.1 = s) (hn : n ≤ 10) (hdl : due.length = n) (hD : dueOk t n due) {ok : Nat → Prop} {bs : Nat} (hS : Sv ok w bs t n due) {v : Value} {b : List Int} (hv : intsT.Rd w [v] b) (hl : b.length ≤ n) :
    Calls Tryz.prog 71 #[.pointer (some ⟨bs, 0, none⟩), v] w fun e w' => ∃ u, e = .returned (.tuple #[u, .bool (headB (witL s (goesB t due) n b))]) ∧ intsT.Fr w.heap.size w' [u] (headV (witL s (goesB t due) n b)) ∧ Below w.heap.size w w' := by
  have HT := Lib.hid hT
  have HD := Lib.hid hD
  have HS := Lib.hid hS
  have HV := Lib.hid hv
  obtain ⟨va, vc, rfl⟩ := rd_slice hv
  have hvc : b.length ≤ vc := by obtain ⟨_, _, he, h, _⟩ := ints_ex hv; simp at he; omega
  have hs4 := hT.1
  unfold sizeOk at hs4
  clear hT hD hS hv
  go_enter Tryz.func71, Tryz.ntmps71
  go_wp2_with fail
  go_loopw [11] (fun i wr => ∃ k : Nat, k ≤ b.length ∧ i = .int .i64 k ∧ preTo (goesB t due) b k ∧ Below w.heap.size w wr) (fun i _ => b.length - (intOf i).toNat)
  case atStart => exact ⟨0, Nat.zero_le _, rfl, preTo_zero, Below.refl _ _⟩
  case round =>
    obtain ⟨k, hk, rfl, hpre, hbe⟩ := hrel
    have HP := Lib.hid hpre
    clear hpre
    by_cases hkl : k < b.length
    · have hk1 : k + 1 ≤ vc := by omega
      go_wp2_with fail
      refine (goes_any _ (HS.out.below hbe) (rd_prefix (HV.out.below hbe) (show k + 1 ≤ b.length by omega)) HT.out HD.out (by rw [take_len (show k + 1 ≤ b.length by omega)]; omega) (by rw [take_len (show k + 1 ≤ b.length by omega)]; omega)).mono ?_
      rintro e w1 ⟨rfl, hb1⟩
      have hbw1 := bthen hbe hb1
      cases hg : goesB t due (b.take (k + 1))
      · have HW := Lib.hid (witL_no (s := s) (n := n) hkl hg)
        clear hg
        go_wp2_with fail
        go_ret2
        exact ⟨.slice none 0 0, by rw [HW.out]; rfl, by rw [HW.out]; exact fr_nil, hbw1⟩
      · have HP1 := Lib.hid (preTo_succ HP.out hg)
        clear hg
        go_wp2_with fail
        go_roundw
        case rel => exact ⟨k + 1, by omega, by go_num, HP1.out, hbw1⟩
        case measure => simp [intOf]; omega
    · obtain rfl : k = b.length := by omega
      have HW := Lib.hid (witL_yes (s := s) (n := n) HP.out)
      go_wp2_with fail
      generalize hWa : World.alloc wr _ = wa
      have hba : Below wr.heap.size wr wa := hWa ▸ bA
      have hsa : wr.heap.size + 1 ≤ wa.heap.size := by rw [← hWa]; simp
      have hI0 : lastI wr.heap.size [] [wr.heap.size] wa := ⟨rfl, by omega, by rw [← hWa]; simp, .inl ⟨rfl, by rw [← hWa]; simp⟩⟩
      have HI0 := Lib.hid hI0
      have hbwa := bthen hbe hba
      have hSa : Sv (fun q => q < wr.heap.size) wa bs t n due := ((HS.out.below hbe).mono (ok' := fun q => q < wr.heap.size) (fun q hq _ => hq)).below hba
      have HSA := Lib.hid hSa
      obtain ⟨fpv, hrv⟩ := HV.out.below hbe
      have HRV := Lib.hid hrv
      have hfl : ∀ q ∈ fpv, q < wr.heap.size := Ty.lt _ hrv
      have HFL := Lib.hid hfl
      have hsl := solsL_len (s := s) (sure := goesB t due) (m := n - b.length) (vals := b)
      have hpow : s ^ (n - b.length) ≤ 4 ^ 10 := Nat.le_trans (Nat.pow_le_pow_left (by omega) _) (Nat.pow_le_pow_right (by omega) (by omega))
      have HBD : Hid (([] : List (List Int)).length + (solsL s (goesB t due) (n - b.length) b).length ≤ 2000000) := by
        unfold Hid
        have : (4 : Nat) ^ 10 = 1048576 := by decide
        simp only [List.length_nil]
        omega
      clear hWa hI0 hSa hrv hfl hsl hpow
      refine (walk_any HT.out hs hn hdl HD.out 102 #[.pointer (some ⟨wr.heap.size, 0, none⟩)] (enters Tryz.func102 (by kernel_rfl) rfl) (fun _ => false) (lastI wr.heap.size) (first1_yl _) bs (fun q => q < wr.heap.size) (n - b.length) wa _ b fpv [] [wr.heap.size] (by omega) HSA.out (fun q hq => ⟨by omega, fun hm => by simp at hm; omega⟩) (HRV.out.below hba) (fun q hq hm => by have := HFL.out q hq; simp at hm; omega) HI0.out HBD.out).mono ?_
      rintro e w2 ⟨rfl, O', hI, ht, hO⟩
      have hbw2 : Below w.heap.size w w2 := hbwa.trans (ht.below hbwa.size (fun q hq => by simp at hq; have := hbe.size; omega))
      have hse := hbe.size
      clear ht hO HI0 HSA HRV HFL HBD
      generalize solsL s (goesB t due) (n - b.length) b = L at hI HW ⊢
      rcases L with _ | ⟨x, r⟩
      · obtain ⟨rfl, h1, h2, h3⟩ := hI
        have c0 : w2.cell? ⟨wr.heap.size, 0, none⟩ = some (.slice none 0 0) := by
          rcases h3 with ⟨-, h3⟩ | ⟨x, u, h3, -, -⟩
          · exact h3
          · simp [tellL] at h3
        clear h3
        rw [tellL_nil]
        go_wp2_with fail
        go_ret2
        exact ⟨.slice none 0 0, by rw [HW.out]; rfl, by rw [HW.out]; exact fr_nil, hbw2⟩
      · rw [tellL_first] at hI ⊢
        obtain ⟨rfl, h1, h2, h3⟩ := hI
        obtain ⟨u, c0, hf⟩ : ∃ u, w2.cell? ⟨wr.heap.size, 0, none⟩ = some u ∧ intsT.Fr (wr.heap.size + 1) w2 [u] x := by
          rcases h3 with ⟨h3, -⟩ | ⟨y, u, h3, h4, h5⟩
          · simp at h3
          · obtain rfl : x = y := by simpa using h3
            exact ⟨u, h4, h5⟩
        obtain ⟨ua, uc, rfl⟩ := fr_slice hf
        have HF := Lib.hid hf
        clear h3 hf
        go_wp2_with fail
        go_ret2
        exact ⟨.slice ua x.length uc, by rw [HW.out]; rfl, by rw [HW.out]; exact HF.out.mono (by omega), hbw2⟩
end Go.Proofs.YtbpjejhjlmpcjaaGreat
