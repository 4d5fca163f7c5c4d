/-
  Contracts: the search, told to a listener.
-/
import Derived.Test.YtbpjejhjlmpcjaaGreatS3
namespace Go.Proofs.YtbpjejhjlmpcjaaGreat
open Go.RowKit Go.Sort
set_option maxHeartbeats 800000 in
theorem Clip_any (w : World) {ad : Option Addr} {n c : Nat} (hn : n ≤ c) (h0 : ad = none → n = 0) (hl : n ≤ 140737488351232) :
    Calls Tryz.prog 114 #[.slice ad n c] w fun e w' => e = .returned (.slice ad n n) ∧ w = w' := by
  rcases ad with _ | ⟨b, o, fl⟩
  · obtain rfl : n = 0 := h0 rfl
    go_enter Tryz.func114, Tryz.ntmps114
    go_wp2_with fail
    go_ret
    exact ⟨rfl, rfl⟩
  · go_enter Tryz.func114, Tryz.ntmps114
    go_wp2_with fail
    go_ret
    exact ⟨rfl, rfl⟩
theorem rd_clip {w : World} {ad : Option Addr} {n c : Nat} {xs : List Int} {fp : List Nat} (h : intsT.rd w [.slice ad n c] xs fp) : intsT.rd w [.slice ad n n] xs fp ∧ n = xs.length ∧ n ≤ c ∧ (ad = none → n = 0) ∧ n ≤ 140737488351232 := by
  obtain ⟨ad', cap, hv, h1, h2, h3⟩ := h
  simp only [List.cons.injEq, Value.slice.injEq, and_true] at hv
  obtain ⟨rfl, rfl, rfl⟩ := hv
  refine ⟨⟨ad, xs.length, rfl, Nat.le_refl _, h2, h3⟩, rfl, h1, fun ha => ?_, h2⟩
  rcases h3 with ⟨h3, _⟩ | ⟨_, b, o, _, hb, _⟩
  · exact h3
  · rw [ha] at hb; cases hb
set_option maxHeartbeats 6400000 in
set_option maxRecDepth 100000 in
theorem walk_any {t : Int × List (Int × List (List Int))} {vars : Nat} {due : List (List (Int × List Int))} (hT : tplOk t) {s : Nat} (hs : t.1 = s) (hvars : vars ≤ 10) (hdl : due.length = vars) (hD : dueOk t vars due) (g : Nat) (caps : Array Value) (eg : ∀ args w, (callFunc g args).run Tryz.prog w = .ok (.enter g args) w)
    (go : List (List Int) → Bool) (I : List (List Int) → List Nat → World → Prop) (hY : Yl Tryz.prog g caps go I) (bs : Nat) (ok : Nat → Prop) :
    ∀ (m : Nat) (w : World) (v : Value) (vals : List Int) (fpv : List Nat) (told : List (List Int)) (O : List Nat), vals.length + m = vars → Sv ok w bs t vars due → (∀ k, ok k → k < w.heap.size ∧ k ∉ O) → intsT.rd w [v] vals fpv → (∀ k ∈ fpv, k ∉ O) → I told O w →
      told.length + (solsL s (goesB t due) m vals).length ≤ 2000000 →
      Calls Tryz.prog 101 #[.pointer (some ⟨bs, 0, none⟩), v, .func (.func g) #[] caps] w fun e w' => e = .returned (.bool (tellL go told (solsL s (goesB t due) m vals)).2) ∧
        ∃ O', I (tellL go told (solsL s (goesB t due) m vals)).1 O' w' ∧ TchF O w w' ∧ ∀ k ∈ O', k ∈ O ∨ w.heap.size ≤ k := by
  have HT := Lib.hid hT
  have HD := Lib.hid hD
  have HY := Lib.hid hY
  have hs4 := hT.1
  unfold sizeOk at hs4
  have hs41 : 1 ≤ s ∧ s ≤ 4 := by omega
  clear hT hD hY hs4
  intro m
  induction m with
  | zero =>
    intro w v vals fpv told O hlen hS hok hv hfv hI hbd
    have HS := Lib.hid hS
    obtain ⟨hbs, -, v1, v3, c0, c1, c2, c3, -, -⟩ := hS
    obtain ⟨va, vc, rfl⟩ := rd_slice ⟨fpv, hv⟩
    have HV : Hid (intsT.Rd w [.slice va vals.length vc] vals) := ⟨fpv, hv⟩
    have HI := Lib.hid hI
    have hl : vals.length = vars := by omega
    rw [solsL_zero, tellL_one]
    rw [solsL_zero] at hbd
    have hbd' : told.length ≤ 2000000 := by simp at hbd; omega
    clear hv hI hbd c0 c1 c3 hok hfv
    rw [hl] at HV ⊢
    go_enter Tryz.func101, Tryz.ntmps101
    go_wp2_with fail
    refine (Clone_any _ HV.out (by omega)).mono ?_
    rintro e w1 ⟨u, rfl, hf, hb1⟩
    have HF := Lib.hid hf
    clear hf
    go_wp2_with fail
    refine (HY.out.step HI.out hb1 HF.out (by omega) hbd').mono ?_
    rintro e w2 ⟨rfl, O', hI', ht, hO'⟩
    have HI2 := Lib.hid hI'
    have HO := Lib.hid hO'
    have HTC : Hid (TchF O w w2) := (Below.tchF hb1 O).then ht (fun k hk => .inl hk)
    clear hI' ht hO'
    go_wp2_with fail
    go_ret
    exact ⟨rfl, O', HI2.out, HTC.out, HO.out⟩
  | succ m ih =>
    intro w v vals fpv told O hlen hS hok hv hfv hI hbd
    have HS := Lib.hid hS
    obtain ⟨hbs, -, v1, v3, c0, c1, c2, c3, -, -⟩ := hS
    obtain ⟨va, vc, rfl⟩ := rd_slice ⟨fpv, hv⟩
    obtain ⟨hcl, -, hvl, hv0, hvm⟩ := rd_clip hv
    have HV := Lib.hid hcl
    have HI := Lib.hid hI
    have HOK := Lib.hid hok
    have HFV := Lib.hid hfv
    have HIH := Lib.hid ih
    have hl : vals.length < vars := by omega
    have hne : ((vals.length : Int) == (vars : Int)) = false := by simp; omega
    rw [solsL_succ]
    rw [solsL_succ] at hbd
    have HBD := Lib.hid hbd
    rw [hs] at c0
    have hbO := (hok bs HS.out.2.1).2
    clear hv hcl hI hbd hok hfv ih c1 c3
    go_enter Tryz.func101, Tryz.ntmps101
    go_wp2_with fail
    go_loopw [25] (fun i wr => ∃ (k : Nat) (O' : List Nat), k ≤ s ∧ i = .int .i64 k ∧ (tellL go told (solsTo s (goesB t due) m vals k)).2 = true ∧ I (tellL go told (solsTo s (goesB t due) m vals k)).1 O' wr ∧ TchF O w wr ∧ (∀ q ∈ O', q ∈ O ∨ w.heap.size ≤ q)) (fun i _ => s - (intOf i).toNat)
    case atStart => exact ⟨0, O, Nat.zero_le _, rfl, by rw [solsTo_zero]; rfl, by rw [solsTo_zero]; exact HI.out, TchF.refl _ _, fun q hq => .inl hq⟩
    case round =>
      obtain ⟨k, O', hk, rfl, hgo, hI', htc, hO'⟩ := hrel
      have HGO := Lib.hid hgo
      have HI2 := Lib.hid hI'
      have HO := Lib.hid hO'
      have htz := htc.size
      clear hgo hI' hO'
      by_cases hkl : k < s
      · go_wp2_with fail
        refine (Clip_any _ hvl hv0 hvm).mono ?_
        rintro e _ ⟨rfl, rfl⟩
        have HVr : Hid (intsT.Rd wr [.slice va vals.length vals.length] vals) := ⟨fpv, HV.out.tch htc HFV.out⟩
        go_wp2_with (refine wpList_appFull _ rfl _ _ 50 2 rfl elInt rfl (HVr.out.below bA) rfl news1 (I64.small (by omega) (by omega)) (by omega) (by decide) ?_; intro u1 w1 hf1 hb1)
        obtain ⟨fp1, hr1, hnd1, hfb1, hun1⟩ := hf1
        have hb1' : Below wr.heap.size wr w1 := bthen bA hb1
        have HR1 := Lib.hid hr1
        have HFB1 : Hid (∀ q ∈ fp1, wr.heap.size ≤ q) := fun q hq => by have := hfb1 q hq; simp at this; omega
        have HLT := Lib.hid (HY.out.lt HI2.out)
        have hokO : ∀ q, ok q → q < w.heap.size ∧ q ∉ O' := fun q hq => ⟨(HOK.out q hq).1, fun hm => by
          rcases HO.out q hm with h | h
          · exact (HOK.out q hq).2 h
          · have := (HOK.out q hq).1; omega⟩
        have HOKO := Lib.hid hokO
        have HS1 : Hid (Sv ok w1 bs t vars due) := (HS.out.tch htc (fun q _ hq => (HOK.out q hq).2)).below hb1'
        clear hr1 hnd1 hfb1 hun1 hb1 hokO HVr
        have hl1 : (vals ++ [(k : Int)]).length = vals.length + 1 := by simp
        refine (goes_any _ HS1.out ⟨fp1, HR1.out⟩ HT.out HD.out (by omega) (by omega)).mono ?_
        rintro e w2 ⟨rfl, hb2⟩
        have hbw2 := bthen hb1' hb2
        have htc2 : TchF O w w2 := htc.then (Below.tchF hbw2 O) (fun q hq => .inl hq)
        have hz2 := hbw2.size
        have HI3 : Hid (I (tellL go told (solsTo s (goesB t due) m vals k)).1 O' w2) := HY.out.stable HI2.out hbw2
        clear htc HI2
        cases hg : goesB t due (vals ++ [(k : Int)])
        · have HNO := Lib.hid (solsTo_no (s := s) (m := m) hg)
          clear hg
          go_wp2_with fail
          go_roundw
          case rel => exact ⟨k + 1, O', by omega, by go_num, by rw [HNO.out]; exact HGO.out, by rw [HNO.out]; exact HI3.out, htc2, HO.out⟩
          case measure => simp [intOf]; omega
        · have HYES := Lib.hid (solsTo_yes (s := s) (m := m) hg)
          have HBK : Hid ((tellL go told (solsTo s (goesB t due) m vals k)).1.length + (solsL s (goesB t due) m (vals ++ [(k : Int)])).length ≤ 2000000) := by
            unfold Hid
            have h1 := HBD.out
            have h2 := tellL_len (go := go) (told := told) (xs := solsTo s (goesB t due) m vals k)
            obtain ⟨r, hr⟩ := solsTo_append (s := s) (m := m) (sure := goesB t due) (vals := vals) (k := k + 1) (j := s) (by omega)
            rw [hr, HYES.out, List.length_append, List.length_append] at h1
            omega
          have HAPP := Lib.hid (solsTo_append (s := s) (m := m) (sure := goesB t due) (vals := vals) (k := k + 1) (j := s) (by omega))
          clear hg
          go_wp2_with fail
          refine (HIH.out w2 u1 (vals ++ [(k : Int)]) fp1 _ O' (by omega) (HS1.out.below hb2) (fun q hq => ⟨by have := (HOKO.out q hq).1; omega, (HOKO.out q hq).2⟩) (HR1.out.below hb2) (fun q hq hm => by have := HFB1.out q hq; have := HLT.out q hm; omega) HI3.out HBK.out).mono ?_
          rintro e w3 ⟨rfl, O2, hI4, ht3, hO2⟩
          have HTL := Lib.hid (tellL_yes (ys := solsL s (goesB t due) m (vals ++ [(k : Int)])) HGO.out)
          rw [← HTL.out, ← HYES.out] at hI4
          rw [← HTL.out, ← HYES.out]
          have HI4 := Lib.hid hI4
          have htc3 : TchF O w w3 := htc2.then ht3 HO.out
          have HO2 : Hid (∀ q ∈ O2, q ∈ O ∨ w.heap.size ≤ q) := fun q hq => by
            rcases hO2 q hq with h | h
            · exact HO.out q h
            · exact .inr (by omega)
          clear hI4 ht3 hO2
          cases hret : (tellL go told (solsTo s (goesB t due) m vals (k + 1))).2
          · have HRET := Lib.hid (tellL_stop hret HAPP.out)
            have HRF := Lib.hid hret
            clear hret
            go_wp2_with fail
            go_ret
            exact ⟨ret_bool (by rw [HRET.out, HRF.out]), O2, by rw [HRET.out]; exact HI4.out, htc3, HO2.out⟩
          · have HRT := Lib.hid hret
            clear hret
            go_wp2_with fail
            go_roundw
            case rel => exact ⟨k + 1, O2, by omega, by go_num, HRT.out, HI4.out, htc3, HO2.out⟩
            case measure => simp [intOf]; omega
      · obtain rfl : k = s := by omega
        go_wp2_with fail
        go_ret
        exact ⟨ret_bool HGO.out.symm, O', HI2.out, htc, HO.out⟩
end Go.Proofs.YtbpjejhjlmpcjaaGreat
