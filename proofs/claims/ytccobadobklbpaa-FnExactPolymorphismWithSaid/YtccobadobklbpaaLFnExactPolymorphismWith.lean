/-
  The law FnExactPolymorphismWith returns true for every input, and every argument reads behind the call as before: from the law's contract to the given statement.
-/
import Derived.Test.YtccobadobklbpaaOpen
import Derived.Test.YtccobadobklbpaaWFnExactPolymorphismWith
import Derived.Lib.RowBridge
namespace Go.Proofs.Ytccobadobklbpaa.fnExactPolymorphismWith
open Go.ChangeShapes Go.WideShapes Go.ChangeAt Go.RowKit

theorem own : ownKnob Try.prog.godebug = none := by kernel_rfl
theorem laidOut : laidOutB Try.prog = true := by kernel_rfl

theorem opens_tpl : Opens Try.prog 24 tplT := (opens_cons Try.underlying24 (by kernel_rfl) Try.underlying2 rfl (by kernel_rfl) rfl (by kernel_rfl) (opens_slice (e := 54) Try.underlying22 (by kernel_rfl) (by decide) (of_decide_eq_true (by kernel_rfl)) (opens_cons Try.underlying54 (by kernel_rfl) Try.underlying2 rfl (by kernel_rfl) rfl (by kernel_rfl) (opens_slice (e := 26) Try.underlying25 (by kernel_rfl) (by decide) (of_decide_eq_true (by kernel_rfl)) (opens_slice (e := 2) Try.underlying26 (by kernel_rfl) (by decide) (of_decide_eq_true (by kernel_rfl)) (opens_int Try.underlying2))))))
theorem opens_rows : Opens Try.prog 25 rowsT := (opens_slice (e := 26) Try.underlying25 (by kernel_rfl) (by decide) (of_decide_eq_true (by kernel_rfl)) (opens_slice (e := 2) Try.underlying26 (by kernel_rfl) (by decide) (of_decide_eq_true (by kernel_rfl)) (opens_int Try.underlying2)))
theorem opens_ints : Opens Try.prog 26 intsT := (opens_slice (e := 2) Try.underlying26 (by kernel_rfl) (by decide) (of_decide_eq_true (by kernel_rfl)) (opens_int Try.underlying2))

set_option maxHeartbeats 1600000 in
set_option maxRecDepth 100000 in
theorem lifted (os : Os) (started : os.Started) (H : Type) (enc : TypeId × Value → H) :
    ReturnsInHanded {} Try.checked os 3 .any (Rows.fnExactPolymorphismWithSpec.pre6 enc Try.prog Try.f3 Rows.fnExactPolymorphismWithRow.domain false) (Rows.fnExactPolymorphismWithSpec.post enc Try.prog Try.f3 false true false false) := by
  refine returnsInHanded_of_change_sized (C := Try.checked) own started (by kernel_rfl) Try.func3
    (ChangeSpec.witness6 (enc := enc) (C := Try.checked) false ⟨#[], #[.agg #[.int .i64 0, .slice none 0 0], .int .i64 0, .slice none 0 0, .slice none 0 0], []⟩ 8 (by kernel_rfl) (by kernel_rfl) (by kernel_rfl) (by kernel_rfl)) ?_
  intro W base args ds gs before hval0 hW _ hsz0 _
  have hsz : (DataW.weightsEach Try.prog (Try.f3.params.toList ++ Rows.fnExactPolymorphismWithSpec.plain.varTypes Try.prog) (ds ++ gs)).all (· ≤ reachBytes) = true := hsz0
  clear hsz0
  have hval : ∀ (j : Nat) t v, Try.f3.params[j]? = some t → args[j]? = some v → Value.okWide Try.prog W .any base t v := hval0
  have hW' := hW
  obtain ⟨p, q, hA0, hV, rfl, _, _⟩ := hW
  have hA : DataW.TrodAll enc Try.prog W 0 (fun _ => true) true Try.f3.params.toList args.toList ds p := hA0
  rw [Try.params3] at hA hval hsz
  obtain ⟨v0, vs0, d0, ds0, p0, q0, hargs, rfl, rfl, h0, r0⟩ := trodAll_cons hA
  obtain ⟨v1, vs1, d1, ds1, p1, q1, rfl, rfl, rfl, h1, r1⟩ := trodAll_cons r0
  obtain ⟨v2, vs2, d2, ds2, p2, q2, rfl, rfl, rfl, h2, r2⟩ := trodAll_cons r1
  obtain ⟨v3, vs3, d3, ds3, p3, q3, rfl, rfl, rfl, h3, r3⟩ := trodAll_cons r2
  obtain ⟨rfl, rfl, rfl⟩ := trodAll_nil r3
  obtain rfl : args = #[v0, v1, v2, v3] := by cases args; simp_all
  obtain ⟨rfl, rfl⟩ := trodVars_none hV
  clear hA0 hval0
  have h0k := h0
  have h1k := h1
  have h2k := h2
  have h3k := h3
  simp only [List.append_nil] at hW'
  have hlt0 : ∀ y ∈ p0, y.block < W.heap.size := fun y hy => by simpa using hW'.lt y (by simp [hy])
  have harg0 : ∀ W' : World, Below W.heap.size W W' → DataW.Trod enc Try.prog W' 0 (fun b => decide (b < W.heap.size)) true 24 v0 d0 p0 :=
    fun W' hn => Below.trod laidOut (by kernel_rfl) (of_decide_eq_true (by kernel_rfl)) h0k hn hlt0
  have hlt1 : ∀ y ∈ p1, y.block < W.heap.size := fun y hy => by simpa using hW'.lt y (by simp [hy])
  have harg1 : ∀ W' : World, Below W.heap.size W W' → DataW.Trod enc Try.prog W' 0 (fun b => decide (b < W.heap.size)) true 2 v1 d1 p1 :=
    fun W' hn => Below.trod laidOut (by kernel_rfl) (of_decide_eq_true (by kernel_rfl)) h1k hn hlt1
  have hlt2 : ∀ y ∈ p2, y.block < W.heap.size := fun y hy => by simpa using hW'.lt y (by simp [hy])
  have harg2 : ∀ W' : World, Below W.heap.size W W' → DataW.Trod enc Try.prog W' 0 (fun b => decide (b < W.heap.size)) true 25 v2 d2 p2 :=
    fun W' hn => Below.trod laidOut (by kernel_rfl) (of_decide_eq_true (by kernel_rfl)) h2k hn hlt2
  have hlt3 : ∀ y ∈ p3, y.block < W.heap.size := fun y hy => by simpa using hW'.lt y (by simp [hy])
  have harg3 : ∀ W' : World, Below W.heap.size W W' → DataW.Trod enc Try.prog W' 0 (fun b => decide (b < W.heap.size)) true 26 v3 d3 p3 :=
    fun W' hn => Below.trod laidOut (by kernel_rfl) (of_decide_eq_true (by kernel_rfl)) h3k hn hlt3
  obtain ⟨c0, rfl, _⟩ := okWide_struct Try.underlying24 (hval 0 24 v0 rfl rfl)
  obtain ⟨fuel0, hf0⟩ := h0
  obtain ⟨x0, g0⟩ := opens_tpl H enc W fuel0 _ _ _ hf0 (fun k hk => of_decide_eq_true (List.all_eq_true.1 hsz k (DataW.weights_mem_each (j := 0) rfl rfl k hk)))
  obtain ⟨a1, rfl, _, _, w1⟩ := open_int Try.underlying2 (hval 1 2 v1 rfl rfl) h1
  have g1 : I64 a1 := I64.of w1
  obtain ⟨a2, l2, m2, rfl⟩ := okWide_slice Try.underlying25 (hval 2 25 v2 rfl rfl)
  obtain ⟨fuel2, hf2⟩ := h2
  obtain ⟨x2, g2⟩ := opens_rows H enc W fuel2 _ _ _ hf2 (fun k hk => of_decide_eq_true (List.all_eq_true.1 hsz k (DataW.weights_mem_each (j := 2) rfl rfl k hk)))
  obtain ⟨a3, l3, m3, rfl⟩ := okWide_slice Try.underlying26 (hval 3 26 v3 rfl rfl)
  obtain ⟨fuel3, hf3⟩ := h3
  obtain ⟨x3, g3⟩ := opens_ints H enc W fuel3 _ _ _ hf3 (fun k hk => of_decide_eq_true (List.all_eq_true.1 hsz k (DataW.weights_mem_each (j := 3) rfl rfl k hk)))
  refine (fnExactPolymorphismWith_any W g0 g1 g2 g3).mono fun e W' ⟨he, hn⟩ => ?_
  subst he
  exact ⟨_, rfl, _, _, _, [], _, [], hW', trodAll_mk1 (shut_bool Try.underlying4 _), (trodAll_cons_mk (harg0 _ hn) (trodAll_cons_mk (harg1 _ hn) (trodAll_cons_mk (harg2 _ hn) (trodAll_cons_mk (harg3 _ hn) trodAll_mk0)))), rfl, hn.frame _, fun h => by cases h⟩

theorem andT {a b : Bool} (ha : a = true) (hb : b = true) : (a && b) = true := by rw [ha, hb]; rfl
set_option maxHeartbeats 8000000 in
theorem facts : joinedFacts Try.pinned.checked.prog 3 Try.f3 Rows.fnExactPolymorphismWithSpec Rows.fnExactPolymorphismWithRow = true := by
  unfold joinedFacts
  repeat' (with_reducible refine andT ?_ ?_)
  all_goals (as_aux_lemma => kernel_rfl)
theorem over : Rows.fnExactPolymorphismWithRow.holds Try.pinned (OpenSpec.ofChange Rows.fnExactPolymorphismWithSpec) :=
  OpenClaim.holds_of_wide 3 Try.f3 rfl rfl rfl rfl rfl rfl rfl ⟨rfl, rfl, rfl, rfl, rfl⟩ rfl rfl rfl rfl rfl (by as_aux_lemma => kernel_rfl) Try.func3 facts
    (of_decide_eq_true (by kernel_rfl)) (by unfold Func.isWrapper; first | (rw [if_pos (by decide +kernel)]; kernel_rfl) | (rw [if_neg (by decide +kernel)]; exact ⟨rfl, rfl⟩))
    (fun os started H enc _ => lifted os started H enc)

theorem proved : Rows.FnExactPolymorphismWithSaid := over
#print axioms proved
end Go.Proofs.Ytccobadobklbpaa.fnExactPolymorphismWith
