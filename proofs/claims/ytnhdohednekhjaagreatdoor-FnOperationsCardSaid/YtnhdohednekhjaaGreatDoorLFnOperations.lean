/-
  The law FnOperations returns true for every input, and every argument reads behind the call as before: from the law's contract to the given statement.
-/
import Derived.Test.YtnhdohednekhjaaGreatDoorOpen
import Derived.Test.YtnhdohednekhjaaGreatDoorWFnOperations
import Derived.Test.YtnhdohednekhjaaGreatDoorTie
import Derived.Test.YtnhdohednekhjaaGreatDoorCards
import Derived.Test.YtnhdohednekhjaaGreatDoorQAJ
import Derived.Lib.RowBridge
import Derived.LaidMore
import Derived.Lay
import Derived.Stop.Joined
import Derived.SevenTiedAt
namespace Go.Proofs.YtnhdohednekhjaaGreatDoor.fnOperations
open Go.ChangeShapes Go.WideShapes Go.ChangeAt Go.RowKit

theorem own : ownKnob Tryz.prog.godebug = none := by kernel_rfl
theorem laidOut : laidOutB Tryz.prog = true := by kernel_rfl

theorem opens_byte {P : Program} {t : TypeId} (ht : P.underlying t = some (.int .u8)) : Opens P t Ty.byte := by
  intro H enc W fuel cs d ps h _
  obtain ⟨n, rfl, hx, hw⟩ := DataW.trod_int ht h
  exact ⟨n, [], rfl, by simpa [Lit.wf, IntKind.min, IntKind.max, IntKind.signed, IntKind.bits] using hw, rfl⟩

theorem opens_bytes : Opens Tryz.prog 22 bytesT := (opens_slice (e := 5) Tryz.underlying22 (by kernel_rfl) (by decide) (of_decide_eq_true (by kernel_rfl)) (opens_byte Tryz.underlying5))

set_option maxHeartbeats 1600000 in
set_option maxRecDepth 100000 in
theorem rf_pre {W : World} (hx : laidMetH Tryz.prog Rows.fnOperationsRow.laid W) (hs : W.ShapedOpen Tryz.prog) : RfPre W := by
  have hL : laidMet Tryz.prog Rows.fnOperationsRow.laid W := by rw [← MakeChecks.laidMetH_plain _ _ _ (by kernel_rfl)]; exact hx
  refine rfPre_of hs (Lib.laidMet.reads hL (d := Rows.laid_strconv_ErrSyntax) (by simp [Rows.fnOperationsRow])) (Lib.laidMet.reads hL (d := Rows.laid_strconv_ErrRange) (by simp [Rows.fnOperationsRow])) ?_
  have hF := hL.filter (fun x => x.1 == "internal/strconv.uint64pow10")
  exact Lib.tabIs_of_head (g := 3) (t := 258) (e := 155) (n := 20) (rest := []) (by kernel_rfl) (by kernel_rfl) Tryz.underlying258 Tryz.underlying155 (by kernel_rfl) (by kernel_rfl) hF
theorem door_met (os : Os) (args : Array Value) : laidMetH Tryz.prog Rows.fnOperationsRow.laid ((World.laidAll Tryz.prog os Rows.fnOperationsRow.laid).forCall (fun _ _ => 0) ⟨#[], args, []⟩).memory := by
  rw [MakeChecks.laidMetH_plain _ _ _ (by kernel_rfl)]
  exact laidMet_laidAll _ (by kernel_rfl) (by kernel_rfl)
set_option maxHeartbeats 1600000 in
set_option maxRecDepth 100000 in
theorem lifted (os : Os) (started : os.Started) (H : Type) (enc : TypeId × Value → H) :
    ReturnsInHanded {} Tryz.checked os 4 .any (fun w args => (Rows.fnOperationsSpec.pre enc Tryz.prog Tryz.f4 [] false w args ∧ laidMetH Tryz.prog Rows.fnOperationsRow.laid w) ∧ sizedMet enc Tryz.prog Tryz.f4 (OpenSpec.ofChange Rows.fnOperationsSpec) false w args) (Rows.fnOperationsSpec.post enc Tryz.prog Tryz.f4 false true false false) := by
  refine handed_and_shaped (C := Tryz.checked) (X := fun w _ => laidMetH Tryz.prog Rows.fnOperationsRow.laid w) (fun _ _ _ hh h => h.of_heap hh) own started (by kernel_rfl) Tryz.func4
    (ChangeSpec.witness_shaped (enc := enc) (C := Tryz.checked) (os := os) (X := fun w _ => laidMetH Tryz.prog Rows.fnOperationsRow.laid w) false (World.laidAll Tryz.prog os Rows.fnOperationsRow.laid) #[.slice none 0 0, .slice none 0 0] 8 (World.laidAll_os _ _ _) (World.shaped_of_ZipB (by kernel_rfl) (by kernel_rfl)) (by kernel_rfl) (by kernel_rfl) (by kernel_rfl) (door_met os _)) ?_
  intro W base args ds gs before hval0 hW hsz0 hX hS
  have hsz : (DataW.weightsEach Tryz.prog (Tryz.f4.params.toList ++ Rows.fnOperationsSpec.plain.varTypes Tryz.prog) (ds ++ gs)).all (· ≤ reachBytes) = true := hsz0
  clear hsz0
  have hval : ∀ (j : Nat) t v, Tryz.f4.params[j]? = some t → args[j]? = some v → Value.okWide Tryz.prog W .any base t v := hval0
  have hW' := hW
  obtain ⟨p, q, hA0, hV, rfl, _, _⟩ := hW
  have hA : DataW.TrodAll enc Tryz.prog W 0 (fun _ => true) true Tryz.f4.params.toList args.toList ds p := hA0
  rw [Tryz.params4] at hA hval hsz
  obtain ⟨v0, vs0, d0, ds0, p0, q0, hargs, rfl, rfl, h0, r0⟩ := trodAll_cons hA
  obtain ⟨v1, vs1, d1, ds1, p1, q1, rfl, rfl, rfl, h1, r1⟩ := trodAll_cons r0
  obtain ⟨rfl, rfl, rfl⟩ := trodAll_nil r1
  obtain rfl : args = #[v0, v1] := by cases args; simp_all
  obtain ⟨rfl, rfl⟩ := trodVars_none hV
  clear hA0 hval0
  have h0k := h0
  have h1k := h1
  simp only [List.append_nil] at hW'
  have hlt0 : ∀ y ∈ p0, y.block < W.heap.size := fun y hy => by simpa using hW'.lt y (by simp [hy])
  have harg0 : ∀ W' : World, Below W.heap.size W W' → DataW.Trod enc Tryz.prog W' 0 (fun b => decide (b < W.heap.size)) true 22 v0 d0 p0 :=
    fun W' hn => Below.trod laidOut (by kernel_rfl) (of_decide_eq_true (by kernel_rfl)) h0k hn hlt0
  have hlt1 : ∀ y ∈ p1, y.block < W.heap.size := fun y hy => by simpa using hW'.lt y (by simp [hy])
  have harg1 : ∀ W' : World, Below W.heap.size W W' → DataW.Trod enc Tryz.prog W' 0 (fun b => decide (b < W.heap.size)) true 22 v1 d1 p1 :=
    fun W' hn => Below.trod laidOut (by kernel_rfl) (of_decide_eq_true (by kernel_rfl)) h1k hn hlt1
  obtain ⟨a0, l0, m0, rfl⟩ := okWide_slice Tryz.underlying22 (hval 0 22 v0 rfl rfl)
  obtain ⟨fuel0, hf0⟩ := h0
  obtain ⟨x0, g0⟩ := opens_bytes H enc W fuel0 _ _ _ hf0 (fun k hk => of_decide_eq_true (List.all_eq_true.1 hsz k (DataW.weights_mem_each (j := 0) rfl rfl k hk)))
  obtain ⟨a1, l1, m1, rfl⟩ := okWide_slice Tryz.underlying22 (hval 1 22 v1 rfl rfl)
  obtain ⟨fuel1, hf1⟩ := h1
  obtain ⟨x1, g1⟩ := opens_bytes H enc W fuel1 _ _ _ hf1 (fun k hk => of_decide_eq_true (List.all_eq_true.1 hsz k (DataW.weights_mem_each (j := 1) rfl rfl k hk)))
  refine (fnOperations_any W (rf_pre hX hS) g0 g1).mono fun e W' ⟨he, hn⟩ => ?_
  subst he
  exact ⟨_, rfl, _, _, _, [], _, [], hW', trodAll_mk1 (shut_bool Tryz.underlying4 _), (trodAll_cons_mk (harg0 _ hn) (trodAll_cons_mk (harg1 _ hn) trodAll_mk0)), rfl, hn.frame _, fun h => by cases h⟩

theorem andT {a b : Bool} (ha : a = true) (hb : b = true) : (a && b) = true := by rw [ha, hb]; rfl
set_option maxHeartbeats 8000000 in
theorem facts : joinedFacts Tryz.pinned.checked.prog 4 Tryz.f4 Rows.fnOperationsSpec Rows.fnOperationsRow = true := by
  unfold joinedFacts
  repeat' (with_reducible refine andT ?_ ?_)
  all_goals (as_aux_lemma => kernel_rfl)
theorem over : Rows.fnOperationsRow.holds Tryz.pinned (OpenSpec.ofChange Rows.fnOperationsSpec) :=
  OpenClaim.holds_of_wide 4 Tryz.f4 rfl rfl rfl rfl rfl rfl rfl ⟨rfl, rfl, rfl, rfl, rfl⟩ rfl rfl rfl rfl rfl (by as_aux_lemma => kernel_rfl) Tryz.func4 facts
    (of_decide_eq_true (by kernel_rfl)) (by unfold Func.isWrapper; first | (rw [if_pos (by decide +kernel)]; kernel_rfl) | (rw [if_neg (by decide +kernel)]; exact ⟨rfl, rfl⟩))
    (fun os started H enc _ => lifted os started H enc)

theorem proved : Rows.FnOperationsCardSaid :=
  Claim7.holds_tied_plain_at .later [] _ true _ true
    over (fun _ h => by cases h) (by kernel_rfl) (fun _ h => by cases h) fnOperations_row_tie rfl ⟨rfl, rfl⟩ (by kernel_rfl) rfl
    (fun f fn hf hfn => by
      obtain rfl : f = 4 := Option.some.inj ((show Tryz.prog.funcNamed Rows.fnOperationsRow.func = some 4 by kernel_rfl).symm.trans hf) |>.symm
      obtain rfl : fn = Tryz.f4 := (Option.some.inj (Tryz.func4.symm.trans hfn)).symm
      exact ⟨by kernel_rfl, fun j t ht => by
        rw [Tryz.params4] at ht
        have hm : t ∈ [22, 22] := by simpa using Array.mem_of_getElem? ht
        have hall : ([22, 22].all fun u => !Tryz.prog.wantsStandIn u) = true := by kernel_rfl
        exact (show Tryz.prog.wantsStandIn t = false by simpa using List.all_eq_true.1 hall t hm)⟩)
    (by kernel_rfl)
#print axioms proved
end Go.Proofs.YtnhdohednekhjaaGreatDoor.fnOperations
