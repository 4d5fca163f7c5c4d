/-
A region that draws its order, with loads ahead of writes: one condition on the world lets the loads be taken first; it need hold no more once one of the last writes ('tail') has come up. Every load waits for none of these, and these wait for every load. No program is named here.
Contracts: slices.Clone, an instance in new memory.
Contracts: atoms that hold; the greatest number of a row.
Plain mathematics of the search: the lists of values that begin with some and go all the way, in order; what a listener is told of them. No program is named here.
Readings that avoid some blocks; a search's own data; what a listener keeps and touches; an append to a full row. No program is named here.
Contracts: whether the atoms that are due hold.
Contracts: the search, told to a listener.
A row of rows whose elements point into older memory, built by appends to its own elements; what it reads as. No program is named here.
-/
import Derived.Deep.RegionHeld
import Derived.Below
import Derived.Test.YtajmjfbejfiipaaGreatQAC
import Derived.Deep.RegionLaw
import Derived.Test.YtajmjfbejfiipaaGreatQAA
namespace Go.Proofs.YtajmjfbejfiipaaGreat
theorem cellB {B b o : Nat} {w w' : World} (hb : RowKit.Below B w w') (h : b < B) : w'.cell? ⟨b, o, none⟩ = w.cell? ⟨b, o, none⟩ := hb.cell (p := ⟨b, o, none⟩) h
theorem frozenB {B b o : Nat} {w w' : World} (hb : RowKit.Below B w w') (h : b < B) : w'.frozen? ⟨b, o, none⟩ = w.frozen? ⟨b, o, none⟩ := hb.frozen (p := ⟨b, o, none⟩) h


section
variable {P : Program} {ops : Array Oper} {Q : Exit → Act → World → Prop} {md : Region.Mode} {S : World → Prop} {tail : List Nat}

/-- one of the last writes has come up -/
def pastB (tail : List Nat) (listed : Array Bool) : Bool := tail.any fun t => listed.getD t false

def wpAnyT (P : Program) (md : Region.Mode) (ops : Array Oper) (Q : Exit → Act → World → Prop) (S : World → Prop) (tail : List Nat) : Nat → Array Bool → Act → World → Prop
 | 0, listed, a, w => Region.ready md ops listed = [] ∧ Q .normal a w
 | fuel + 1, listed, a, w =>
  (Region.ready md ops listed = [] → Q .normal a w) ∧
  ∀ i ∈ Region.ready md ops listed, wpOp P ops Q i (fun a' w' => (pastB tail (listed.setIfInBounds i true) = false → S w') ∧ wpAnyT P md ops Q S tail fuel (listed.setIfInBounds i true) a' w') a w

theorem wpAny_of_T : ∀ (fuel : Nat) (listed : Array Bool) (a : Act) (w : World), wpAnyT P md ops Q S tail fuel listed a w → wpAny P md ops Q fuel listed a w
 | 0, _, _, _, h => h
 | fuel + 1, _, _, _, h => ⟨h.1, fun i hi => wpOp_mono (fun a' w' h' => wpAny_of_T fuel _ a' w' h'.2) (h.2 i hi)⟩

/-- what can come up while number i has not: all that are in R -/
def lowB (md : Region.Mode) (ops : Array Oper) (i : Nat) (listed R : Array Bool) (tail : List Nat) : Bool :=
 ((List.range ops.size).all fun k => k == i || R.getD k false || match ops[k]? with
  | some o => o.after.any fun e => Region.binds md e && !R.getD e.on false
  | none => true) && ((List.range ops.size).all fun k => !listed.getD k false || R.getD k false) && tail.all fun t => !R.getD t false && decide (t < ops.size) && t != i
/-- these -/
def grow1 (md : Region.Mode) (ops : Array Oper) (i : Nat) (R : Array Bool) : Array Bool :=
 (Array.range ops.size).map fun k => R.getD k false || (k != i && match ops[k]? with
  | some o => o.after.all fun e => !Region.binds md e || R.getD e.on false
  | none => false)
def lowSet (md : Region.Mode) (ops : Array Oper) (i : Nat) (listed : Array Bool) : Nat → Array Bool
 | 0 => listed
 | n + 1 => grow1 md ops i (lowSet md ops i listed n)
def lateB (md : Region.Mode) (ops : Array Oper) (i : Nat) (listed : Array Bool) (tail : List Nat) : Bool := lowB md ops i listed (lowSet md ops i listed ops.size) tail

structure Low (md : Region.Mode) (ops : Array Oper) (i : Nat) (R : Array Bool) (tail : List Nat) : Prop where
 up : ∀ (k : Nat) (o : Oper), ops[k]? = some o → k ≠ i → (∀ e ∈ o.after, Region.binds md e = true → R.getD e.on false = true) → R.getD k false = true
 out : ∀ t ∈ tail, R.getD t false = false
 ne : ∀ t ∈ tail, t ≠ i
theorem lowB_spec {i : Nat} {listed R : Array Bool} (h : lowB md ops i listed R tail = true) : Low md ops i R tail ∧ ∀ k, k < ops.size → listed.getD k false = true → R.getD k false = true := by
 unfold lowB at h
 simp only [Bool.and_eq_true, List.all_eq_true, List.mem_range] at h
 obtain ⟨⟨h1, h2⟩, h3⟩ := h
 refine ⟨⟨fun k o ho hk hd => ?_, fun t ht => by have := (h3 t ht).1.1; simpa using this, fun t ht => by have := (h3 t ht).2; simpa using this⟩, fun k hk hl => ?_⟩
 ·have hks : k < ops.size := by
   rcases Nat.lt_or_ge k ops.size with h' | h'
   ·exact h'
   ·rw [Array.getElem?_eq_none h'] at ho; cases ho
  have := h1 k hks
  rw [ho] at this
  simp only [Bool.or_eq_true, beq_iff_eq] at this
  rcases this with (rfl | h') | h'
  ·exact absurd rfl hk
  ·exact h'
  ·simp only [Array.any_eq_true, Bool.and_eq_true, Bool.not_eq_true'] at h'
   obtain ⟨x, hx, hb⟩ := h'
   rw [hd _ (Array.getElem_mem hx) hb.1] at hb
   cases hb.2
 ·have := h2 k hk
  rw [hl] at this
  simpa using this

theorem low_step {i j : Nat} {listed R : Array Bool} (hL : Low md ops i R tail) (hsub : ∀ k, k < ops.size → listed.getD k false = true → R.getD k false = true) (hbd : ∀ (k : Nat) (o : Oper), ops[k]? = some o → ∀ e ∈ o.after, Region.binds md e = true → e.on < ops.size)
  (hj : j ∈ Region.ready md ops listed) (hji : j ≠ i) : R.getD j false = true ∧ ∀ k, k < ops.size → (listed.setIfInBounds j true).getD k false = true → R.getD k false = true := by
 obtain ⟨-, oj, hoj, hall⟩ := mem_ready.1 hj
 have hR : R.getD j false = true := hL.up j oj hoj hji fun e he hb => hsub e.on (hbd j oj hoj e he hb) (hall e he hb)
 refine ⟨hR, fun k hk hl => ?_⟩
 by_cases e : j = k
 ·subst e; exact hR
 ·rw [getD_set_ne false e] at hl; exact hsub k hk hl

theorem past_false {R listed : Array Bool} {i : Nat} (hL : Low md ops i R tail) (ht : ∀ t ∈ tail, t < ops.size) (hsub : ∀ k, k < ops.size → listed.getD k false = true → R.getD k false = true) : pastB tail listed = false := by
 unfold pastB
 rw [List.any_eq_false]
 intro t htl hh
 have := hsub t (ht t htl) hh
 rw [hL.out t htl] at this
 cases this

theorem wpAnyT_first {i : Nat} {oi : Oper} {v : Value} (hi : ops[i]? = some oi) (hsel : ∀ (j : Nat) (o : Oper) cs b, ops[j]? = some o → o.op ≠ .select cs b)
  (hQ : ∀ c a w, Q (.panic c) (a.put oi.dst v) w → Q (.panic c) a w) {R : Array Bool} (hL : Low md ops i R tail) (ht : ∀ t ∈ tail, t < ops.size) (hbd : ∀ (k : Nat) (o : Oper), ops[k]? = some o → ∀ e ∈ o.after, Region.binds md e = true → e.on < ops.size) :
  ∀ (fuel : Nat) (listed : Array Bool) (a : Act) (w : World),
   (∀ j oj, ops[j]? = some oj → j ≠ i → listed.getD j true = false → (∀ e ∈ oj.after, Region.binds md e = true → e.on ≠ i) → oi.apart ops oj = true) →
   i ∈ Region.ready md ops listed → YieldsIf P ops S oi v a → S w → (∀ k, k < ops.size → listed.getD k false = true → R.getD k false = true) →
   wpAnyT P md ops Q S tail fuel (listed.setIfInBounds i true) (a.put oi.dst v) w → wpAnyT P md ops Q S tail (fuel + 1) listed a w := by
 intro fuel
 induction fuel with
 | zero =>
  intro listed a w _ hr hy hS hsub H
  refine ⟨fun h => (by rw [h] at hr; cases hr), fun j hj => ?_⟩
  by_cases hji : j = i
  ·subst hji; exact hy.wpOp hi hS ⟨fun _ => hS, H⟩
  ·have := ready_mono hj hji
   rw [H.1] at this
   cases this
 | succ fuel ih =>
  intro listed a w hfree hr hy hS hsub H
  refine ⟨fun h => (by rw [h] at hr; cases hr), fun j hj => ?_⟩
  by_cases hji : j = i
  ·subst hji; exact hy.wpOp hi hS ⟨fun _ => hS, H⟩
  ·have h1 := H.2 j (ready_mono hj hji)
   obtain ⟨hjun, oj, hoj, hall⟩ := mem_ready.1 hj
   have hnot : ∀ e ∈ oj.after, Region.binds md e = true → e.on ≠ i := fun e he hb heq => by
    have h1 := hall e he hb
    have h0 := (mem_ready.1 hr).1
    rw [heq] at h1
    rcases Nat.lt_or_ge i listed.size with h' | h'
    ·simp [h'] at h0 h1; rw [h0] at h1; cases h1
    ·simp [Array.getElem?_eq_none h'] at h1
   have h2 := wpOp_putIf hoj (hfree j oj hoj hji hjun hnot) (fun cs b => hsel i oi cs b hi) (fun cs b => hsel j oj cs b hoj) hQ hy h1
   have hfree' : ∀ k ok, ops[k]? = some ok → k ≠ i → (listed.setIfInBounds j true).getD k true = false →
     (∀ e ∈ ok.after, Region.binds md e = true → e.on ≠ i) → oi.apart ops ok = true := fun k ok hk hki hun hno => by
    refine hfree k ok hk hki ?_ hno
    by_cases hjk : j = k
    ·subst hjk; exact hjun
    ·rw [getD_set_ne true hjk] at hun; exact hun
   obtain ⟨-, hsub'⟩ := low_step hL hsub hbd hj hji
   have hp : pastB tail ((listed.setIfInBounds i true).setIfInBounds j true) = false := by
    have h0 := past_false hL ht hsub'
    rw [Array.setIfInBounds_comm _ _ (Ne.symm hji)]
    unfold pastB at h0 ⊢
    rw [List.any_eq_false] at h0 ⊢
    intro t htl hh
    rw [getD_set_ne false (Ne.symm (hL.ne t htl))] at hh
    exact h0 t htl hh
   refine wpOp_mono (fun a' w' h3 => ⟨fun _ => h3.2.1 hp, ih (listed.setIfInBounds j true) a' w' hfree' (ready_mono hr (Ne.symm hji)) h3.1 (h3.2.1 hp) hsub' ?_⟩) h2
   rw [Array.setIfInBounds_comm _ _ hji]
   exact h3.2.2

/-- every edge leads to an operation -/
def edgesB (md : Region.Mode) (ops : Array Oper) : Bool := ops.all fun o => o.after.all fun e => !Region.binds md e || decide (e.on < ops.size)
theorem edgesB_spec (h : edgesB md ops = true) : ∀ (k : Nat) (o : Oper), ops[k]? = some o → ∀ e ∈ o.after, Region.binds md e = true → e.on < ops.size := by
 intro k o ho e he hb
 have h1 := Array.all_eq_true_iff_forall_mem.1 h o (Array.mem_of_getElem? ho)
 have h2 := Array.all_eq_true_iff_forall_mem.1 h1 e he
 simpa [hb] using h2

/-- take number i first -/
theorem wpAnyT_take {i : Nat} {oi : Oper} {v : Value} {fuel : Nat} {listed : Array Bool} {a : Act} {w : World} (hi : ops[i]? = some oi)
  (hs : (Region.noSelect ops && edgesB md ops && Region.free md ops listed i && (Region.ready md ops listed).contains i && lateB md ops i listed tail) = true)
  (hQ : ∀ c a w, Q (.panic c) (a.put oi.dst v) w → Q (.panic c) a w) (hy : YieldsIf P ops S oi v a) (hS : S w)
  (h : wpAnyT P md ops Q S tail fuel (listed.setIfInBounds i true) (a.put oi.dst v) w) : wpAnyT P md ops Q S tail (fuel + 1) listed a w := by
 simp only [Bool.and_eq_true] at hs
 obtain ⟨⟨⟨⟨s1, s2⟩, s3⟩, s4⟩, s5⟩ := hs
 obtain ⟨hL, hsub⟩ := lowB_spec s5
 have ht : ∀ t ∈ tail, t < ops.size := fun t ht => by
  unfold lateB lowB at s5
  simp only [Bool.and_eq_true, List.all_eq_true] at s5
  simpa using (s5.2 t ht).1.2
 exact wpAnyT_first hi (Region.noSelect_spec s1) hQ hL ht (edgesB_spec s2) fuel listed a w (Region.free_spec hi s3) (by simpa using s4) hy hS hsub h

/-- what yields in whatever world: taken first, also where the condition holds no more -/
theorem wpAnyT_free {i : Nat} {oi : Oper} {v : Value} (hi : ops[i]? = some oi) (hsel : ∀ (j : Nat) (o : Oper) cs b, ops[j]? = some o → o.op ≠ .select cs b)
  (hQ : ∀ c a w, Q (.panic c) (a.put oi.dst v) w → Q (.panic c) a w) (hti : i ∉ tail) :
  ∀ (fuel : Nat) (listed : Array Bool) (a : Act) (w : World),
   (∀ j oj, ops[j]? = some oj → j ≠ i → listed.getD j true = false → (∀ e ∈ oj.after, Region.binds md e = true → e.on ≠ i) → oi.apart ops oj = true) →
   i ∈ Region.ready md ops listed → YieldsIf P ops (fun _ => True) oi v a → (pastB tail listed = false → S w) →
   wpAnyT P md ops Q S tail fuel (listed.setIfInBounds i true) (a.put oi.dst v) w → wpAnyT P md ops Q S tail (fuel + 1) listed a w := by
 have hpi : ∀ L : Array Bool, pastB tail (L.setIfInBounds i true) = pastB tail L := fun L => by
  unfold pastB
  rw [Bool.eq_iff_iff]
  simp only [List.any_eq_true]
  constructor
  ·rintro ⟨t, h1, h2⟩; exact ⟨t, h1, by rwa [getD_set_ne false (show i ≠ t from fun e => hti (by rw [e]; exact h1))] at h2⟩
  ·rintro ⟨t, h1, h2⟩; exact ⟨t, h1, by rwa [getD_set_ne false (show i ≠ t from fun e => hti (by rw [e]; exact h1))]⟩
 intro fuel
 induction fuel with
 | zero =>
  intro listed a w _ hr hy hS H
  refine ⟨fun h => (by rw [h] at hr; cases hr), fun j hj => ?_⟩
  by_cases hji : j = i
  ·subst hji; exact hy.wpOp hi trivial ⟨fun hp => hS (by rw [← hpi]; exact hp), H⟩
  ·have := ready_mono hj hji
   rw [H.1] at this
   cases this
 | succ fuel ih =>
  intro listed a w hfree hr hy hS H
  refine ⟨fun h => (by rw [h] at hr; cases hr), fun j hj => ?_⟩
  by_cases hji : j = i
  ·subst hji; exact hy.wpOp hi trivial ⟨fun hp => hS (by rw [← hpi]; exact hp), H⟩
  ·have h1 := H.2 j (ready_mono hj hji)
   obtain ⟨hjun, oj, hoj, hall⟩ := mem_ready.1 hj
   have hnot : ∀ e ∈ oj.after, Region.binds md e = true → e.on ≠ i := fun e he hb heq => by
    have h1 := hall e he hb
    have h0 := (mem_ready.1 hr).1
    rw [heq] at h1
    rcases Nat.lt_or_ge i listed.size with h' | h'
    ·simp [h'] at h0 h1; rw [h0] at h1; cases h1
    ·simp [Array.getElem?_eq_none h'] at h1
   have h2 := wpOp_putIf hoj (hfree j oj hoj hji hjun hnot) (fun cs b => hsel i oi cs b hi) (fun cs b => hsel j oj cs b hoj) hQ hy h1
   have hfree' : ∀ k ok, ops[k]? = some ok → k ≠ i → (listed.setIfInBounds j true).getD k true = false →
     (∀ e ∈ ok.after, Region.binds md e = true → e.on ≠ i) → oi.apart ops ok = true := fun k ok hk hki hun hno => by
    refine hfree k ok hk hki ?_ hno
    by_cases hjk : j = k
    ·subst hjk; exact hjun
    ·rw [getD_set_ne true hjk] at hun; exact hun
   refine wpOp_mono (fun a' w' h3 => ⟨fun hp => h3.2.1 (by rw [Array.setIfInBounds_comm _ _ (Ne.symm hji), hpi]; exact hp), ih (listed.setIfInBounds j true) a' w' hfree' (ready_mono hr (Ne.symm hji)) h3.1 (fun hp => h3.2.1 (by rw [Array.setIfInBounds_comm _ _ (Ne.symm hji), hpi]; exact hp)) ?_⟩) h2
   rw [Array.setIfInBounds_comm _ _ hji]
   exact h3.2.2
theorem wpAnyT_any {i : Nat} {oi : Oper} {v : Value} {fuel : Nat} {listed : Array Bool} {a : Act} {w : World} (hi : ops[i]? = some oi)
  (hs : (Region.noSelect ops && Region.free md ops listed i && (Region.ready md ops listed).contains i && !tail.contains i) = true)
  (hQ : ∀ c a w, Q (.panic c) (a.put oi.dst v) w → Q (.panic c) a w) (hy : YieldsIf P ops (fun _ => True) oi v a) (hS : pastB tail listed = false → S w)
  (h : wpAnyT P md ops Q S tail fuel (listed.setIfInBounds i true) (a.put oi.dst v) w) : wpAnyT P md ops Q S tail (fuel + 1) listed a w := by
 simp only [Bool.and_eq_true] at hs
 obtain ⟨⟨⟨s1, s2⟩, s3⟩, s4⟩ := hs
 exact wpAnyT_free hi (Region.noSelect_spec s1) hQ (by simpa using s4) fuel listed a w (Region.free_spec hi s2) (by simpa using s3) hy hS h

/-- one alone may come up: not one of the last -/
theorem wpAnyT_one {i : Nat} {o : Oper} {fuel : Nat} {listed : Array Bool} {a : Act} {w : World} (ho : ops[i]? = some o) (hr : Region.ready md ops listed = [i])
  (h : ∀ K' : Act → World → Prop, Shut (∀ a w, S w → (S w → wpAnyT P md ops Q S tail fuel (listed.setIfInBounds i true) a w) → K' a w) → if Region.wanted o (yielded ops a.tmps) = true then Oper.wp P o a w K' Q else K' (a.put o.dst undef) w) :
  wpAnyT P md ops Q S tail (fuel + 1) listed a w := by
 refine ⟨fun h0 => (by rw [h0] at hr; cases hr), fun j hj => ?_⟩
 rw [hr] at hj
 obtain rfl : j = i := by simpa using hj
 exact wpOp_step ho (fun K' hK => h K' (fun a w hS hW => hK a w ⟨fun _ => hS, hW hS⟩))
/-- one alone may come up: one of the last, or behind them -/
theorem wpAnyT_last {i : Nat} {o : Oper} {fuel : Nat} {listed : Array Bool} {a : Act} {w : World} (ho : ops[i]? = some o) (hr : Region.ready md ops listed = [i]) (hp : pastB tail (listed.setIfInBounds i true) = true)
  (h : ∀ K' : Act → World → Prop, Shut (∀ a w, wpAnyT P md ops Q S tail fuel (listed.setIfInBounds i true) a w → K' a w) → if Region.wanted o (yielded ops a.tmps) = true then Oper.wp P o a w K' Q else K' (a.put o.dst undef) w) :
  wpAnyT P md ops Q S tail (fuel + 1) listed a w := by
 refine ⟨fun h0 => (by rw [h0] at hr; cases hr), fun j hj => ?_⟩
 rw [hr] at hj
 obtain rfl : j = i := by simpa using hj
 exact wpOp_step ho (fun K' hK => h K' (fun a w hW => hK a w ⟨fun h => (by rw [hp] at h; cases h), hW⟩))
theorem wpAnyT_done {listed : Array Bool} {a : Act} {w : World} (hr : Region.ready md ops listed = []) (h : Q .normal a w) :
  ∀ fuel, wpAnyT P md ops Q S tail fuel listed a w
 | 0 => ⟨hr, h⟩
 | _ + 1 => ⟨fun _ => h, by rw [hr]; simp⟩
theorem wp_region_T (S : World → Prop) (tail : List Nat) {id : Nat} {a : Act} {w : World} (hm : P.follows .mixedOrders = true) (hS : S w.drew)
  (h : S w.drew → wpAnyT P .any ops Q S tail ops.size (Array.replicate ops.size false) a w.drew) : (Code.region id ops true).wp P Q a w :=
 wp_region_any hm (wpAny_of_T _ _ _ _ (h hS))
end
end Go.Proofs.YtajmjfbejfiipaaGreat
namespace Go.Proofs.YtajmjfbejfiipaaGreat
open Go.RowKit Go.Sort
set_option maxHeartbeats 800000 in
theorem Clone_any (w : World) {v : Value} {xs : List Int} (h : intsT.Rd w [v] xs) (hlen : xs.length ≤ 1000000) :
  Calls Tryz.prog 89 #[v] w (RetS intsT w xs) := by
 have hx := h
 obtain ⟨ad, cap, rfl⟩ := rd_slice h
 have HX := Lib.hid hx
 have hnil := fun w o m c => Lib.run_eql_slice_nil (P := Tryz.prog) w 38 2 o m c 0 0 Tryz.underlying38
 rcases Nat.eq_zero_or_pos xs.length with h0 | h0
 ·obtain rfl := List.eq_nil_of_length_eq_zero h0
  clear h hx h0 HX
  cases ad
  ·go_enter Tryz.func89, Tryz.ntmps89
   go_wp2_with fail
   go_ret
   exact ⟨_, rfl, fr_nil, Below.refl _ _⟩
  ·go_enter Tryz.func89, Tryz.ntmps89
   go_wp2_with fail
   go_ret
   exact ⟨_, rfl, fr_nil, bA⟩
 ·obtain ⟨_, _, e1, -, -, hc⟩ := ints_ex h
  simp only [List.cons.injEq, Value.slice.injEq, and_true, true_and] at e1
  obtain ⟨rfl, rfl⟩ := e1
  obtain ⟨b, o, rfl, -⟩ := hc h0
  clear h hx hc
  have HB := Lib.hid (Bl.lit0 (E := Ty.int) (e := 2) (base := w.heap.size) (w := w) (Nat.le_refl _))
  go_enter Tryz.func89, Tryz.ntmps89
  go_wp2_with (refine wpList_appI _ rfl _ _ 38 2 rfl elInt rfl HB.out rfl (HX.out.below bA) h0 (by simp; omega) (by decide) (by omega) (by simp) ?_; intro v1 w1 hB1 hg1 _)
  have HB1 := Lib.hid (hB1.fr (by unfold capMax; simp; omega))
  have hb1 : Below w.heap.size w w1 := (bA (w := w)).grown hg1 (by simp) (fun k hk => HB.out.own hk)
  clear hB1
  go_wp2_with fail
  go_ret
  exact ⟨_, rfl, HB1.out, hb1⟩
theorem set2_cells {w : World} {b : Nat} {x y u v : Value} (h0 : w.cell? ⟨b, 0, none⟩ = some u) (h1 : w.cell? ⟨b, 1, none⟩ = some v) :
  ((w.setCell ⟨b, 0, none⟩ x).setCell ⟨b, 1, none⟩ y).cell? ⟨b, 0, none⟩ = some x ∧ ((w.setCell ⟨b, 0, none⟩ x).setCell ⟨b, 1, none⟩ y).cell? ⟨b, 1, none⟩ = some y :=
 ⟨(World.cell?_setCell_other _ _ _ _ (by simp)).trans (World.cell?_setCell_same _ _ _ h0), World.cell?_setCell_same _ _ _ ((World.cell?_setCell_other _ _ _ _ (by simp)).trans h1)⟩
theorem fr_set2 {α : Type} {E : Ty α} {base : Nat} {w : World} {cs : List Value} {x : α} {b : Nat} {u v : Value} (h : E.Fr base w cs x) (ha : b < base) : E.Fr base ((w.setCell ⟨b, 0, none⟩ u).setCell ⟨b, 1, none⟩ v) cs x := (h.set (a := ⟨b, 0, none⟩) ha).set (a := ⟨b, 1, none⟩) ha
end Go.Proofs.YtajmjfbejfiipaaGreat
namespace Go.Proofs.YtajmjfbejfiipaaGreat
open Go.RowKit Go.Sort
def topI (xs : List Int) : Int := xs.foldl max 0
theorem topI_take {xs : List Int} {k : Nat} (h : k < xs.length) : topI (xs.take (k + 1)) = max (topI (xs.take k)) xs[k] := by
 unfold topI
 rw [List.take_succ_eq_append_getElem h, List.foldl_append]
 rfl
theorem foldl_max_ge : ∀ {xs : List Int} {a : Int}, a ≤ xs.foldl max a ∧ ∀ x ∈ xs, x ≤ xs.foldl max a
 | [], a => ⟨Int.le_refl _, fun x hx => by cases hx⟩
 | y :: r, a => by
  obtain ⟨h1, h2⟩ := foldl_max_ge (xs := r) (a := max a y)
  rw [List.foldl_cons]
  refine ⟨by omega, fun x hx => ?_⟩
  rcases List.mem_cons.1 hx with rfl | hx
  ·omega
  ·exact h2 x hx
theorem topI_ge {xs : List Int} {x : Int} (h : x ∈ xs) : x ≤ topI xs := foldl_max_ge.2 x h
theorem topI_nn {xs : List Int} : 0 ≤ topI xs := foldl_max_ge.1
theorem foldl_max_le {c : Int} : ∀ {xs : List Int} {a : Int}, a ≤ c → (∀ x ∈ xs, x ≤ c) → xs.foldl max a ≤ c
 | [], _, h, _ => h
 | y :: r, a, h, h2 => by
  rw [List.foldl_cons]
  exact foldl_max_le (by have := h2 y (List.mem_cons_self ..); omega) fun x hx => h2 x (List.mem_cons_of_mem _ hx)
theorem topI_le {xs : List Int} {c : Int} (h0 : 0 ≤ c) (h : ∀ x ∈ xs, x ≤ c) : topI xs ≤ c := foldl_max_le h0 h
/-- does an atom hold for values? -/
noncomputable def holdsA (t : Int × List (Int × List (List Int))) (vals : List Int) (a : Int × List Int) : Bool := match (a.1 == -1) with
 | true => (atL vals a.2).getD 0 0 == (atL vals a.2).getD 1 0
 | false => tb (holdsC t vals a)
theorem holdsA_eq {t : Int × List (Int × List (List Int))} {vals : List Int} {a : Int × List Int} (h : (a.1 == -1) = true) : holdsA t vals a = ((atL vals a.2).getD 0 0 == (atL vals a.2).getD 1 0) := by simp only [holdsA, h]
theorem holdsA_rel {t : Int × List (Int × List (List Int))} {vals : List Int} {a : Int × List Int} (h : (a.1 == -1) = false) : holdsA t vals a = tb (holdsC t vals a) := by simp only [holdsA, h]
/-- an atom of a template: what it needs -/
theorem atom_len {t : Int × List (Int × List (List Int))} (hT : tplOk t) {vars : Int} {a : Int × List Int} (h : atomOk t vars a) : 1 ≤ a.2.length ∧ a.2.length ≤ 4 ∧ (a.1 = -1 → a.2.length = 2) ∧ (a.1 ≠ -1 → 0 ≤ a.1 ∧ a.1.toNat < t.2.length) := by
 obtain ⟨h1, h2, -⟩ := h
 by_cases he : a.1 = -1
 ·rw [he, arOf_eq] at h2
  exact ⟨by omega, by omega, fun _ => by omega, fun h => absurd he h⟩
 ·have hin : 0 ≤ a.1 ∧ a.1.toNat < t.2.length := by
   by_cases hin : inB a.1 0 ((t.2.length : Int) - 1) = true
   ·have := inB_true.1 hin; omega
   ·exact absurd (arOf_no he (by simpa using hin)) h1
  obtain ⟨k, hk⟩ : ∃ k : Nat, a.1 = k := ⟨a.1.toNat, by omega⟩
  have hkl : k < t.2.length := by omega
  have h3 := hT.2.2 _ (List.getElem_mem hkl)
  rw [hk, arOf_nat hkl] at h2
  have := h3.2.1
  unfold sizeOk at this
  exact ⟨by omega, by omega, fun h => absurd h he, fun _ => hin⟩
theorem tplT_rd {w : World} {t : Int × List (Int × List (List Int))} {v : Value} (h : tplT.Rd w [.int .i64 t.1, v] t) {k : Nat} (hk : k < t.2.length) :
  ∃ a q cap u, v = .slice (some ⟨a, q, none⟩) t.2.length cap ∧ a < w.heap.size ∧ w.cell? ⟨a, q + k * 2, none⟩ = some (.int .i64 (t.2[k]).1) ∧ w.cell? ⟨a, q + k * 2 + 1, none⟩ = some u ∧ relT.Rd w [.int .i64 (t.2[k]).1, u] t.2[k] := by
 obtain ⟨v', hv, -, hx⟩ := pair_ex h
 obtain rfl : v = v' := by simpa using hv
 obtain ⟨ad, cap, hv2, -, -, hc⟩ := pairs_ex hx
 obtain rfl : v = _ := by simpa using hv2
 obtain ⟨a, q, rfl, ha, hce⟩ := hc (by omega)
 obtain ⟨u, hu, hI, c0, c1⟩ := hce k hk
 exact ⟨a, q, cap, u, rfl, ha, c0, c1, pair_mk hI hu⟩
set_option maxHeartbeats 1600000 in
set_option maxRecDepth 100000 in
theorem holds_any (w : World) {ct ca : Array Value} {t : Int × List (Int × List (List Int))} {a : Int × List Int} {v : Value} {vals : List Int} (ht : tplT.Rd w ct.toList t) (ha : opT.Rd w ca.toList a) (hv : intsT.Rd w [v] vals)
  (hT : tplOk t) {vars : Int} (hA : atomOk t vars a) (hin : ∀ p ∈ a.2, 0 ≤ p ∧ p < (vals.length : Int)) :
  Calls Tryz.prog 237 #[.agg ct, .agg ca, v] w fun e w' => e = .returned (.bool (holdsA t vals a)) ∧ Below w.heap.size w w' := by
 obtain ⟨h1, h4, h5, h6⟩ := atom_len hT hA
 obtain ⟨vt, hct, -, -⟩ := pair_ex ht
 obtain rfl := agg_of hct
 obtain ⟨va, hca, -, hxa⟩ := pair_ex ha
 obtain rfl := agg_of hca
 obtain ⟨xa, xn, xc, rfl⟩ := rd_sl hxa
 have HT := Lib.hid ht
 have HX := Lib.hid hxa
 have HV := Lib.hid hv
 have HIN := Lib.hid hin
 have HTO := Lib.hid hT
 clear ht ha hct hca hxa hv hin hT hA
 go_enter Tryz.func237, Tryz.ntmps237
 go_wp2_with fail
 generalize hW : World.alloc _ _ = W
 have hbW : Below w.heap.size w W := hW ▸ bAA
 have hsW : W.heap.size = w.heap.size + 2 := by rw [← hW]; simp
 have t1 : W.cell? ⟨w.heap.size, 1, none⟩ = some vt := by rw [← hW]; simp [go_sem]
 have a0 : W.cell? ⟨w.heap.size + 1, 0, none⟩ = some (.int .i64 a.1) := by rw [← hW]; simp [go_sem]
 have a1 : W.cell? ⟨w.heap.size + 1, 1, none⟩ = some (.slice xa xn xc) := by rw [← hW]; simp [go_sem]
 clear hW
 refine (chosen_any _ (HV.out.below hbW) (HX.out.below hbW) HIN.out (by omega)).mono ?_
 rintro e w1 ⟨u, rfl, hf, hb1⟩
 obtain ⟨ua, uc, rfl⟩ := fr_slice hf
 have HF := Lib.hid hf.rd
 have hz1 := hb1.size
 have hbw1 := bthen hbW hb1
 replace t1 := (cellB hb1 (by omega)).trans t1
 replace a0 := (cellB hb1 (by omega)).trans a0
 replace a1 := (cellB hb1 (by omega)).trans a1
 clear hf
 cases hq : (a.1 == -1)
 ·have hne : a.1 ≠ -1 := by simpa using hq
  obtain ⟨h7, h8⟩ := h6 hne
  obtain ⟨k, hk⟩ : ∃ k : Nat, a.1 = k := ⟨a.1.toNat, by omega⟩
  have hkl : k < t.2.length := by omega
  obtain ⟨ba, bq, cap, ur, rfl, hba, c0, c1, hr⟩ := tplT_rd HT.out hkl
  have HR := Lib.hid (hr.below hbw1)
  have HSR := Lib.hid (relOk_sorted (HTO.out.2.2 _ (List.getElem_mem hkl)))
  have d0 := (hbw1.cell hba).trans c0
  have d1 := (hbw1.cell hba).trans c1
  have HE : Hid (tb (atL vals a.2 ∈ (t.2[k]).2) = holdsA t vals a) := by
   unfold Hid
   rw [holdsA_rel hq]
   unfold holdsC
   rw [hk, relAt_nat hkl]
  rw [hk] at a0 hq
  clear hr c0 c1 hk hne h5 h6
  go_wp2_with fail
  refine (has_any (cs := #[.int .i64 (t.2[k]).1, ur]) _ HR.out HF.out HSR.out).mono ?_
  rintro e w2 ⟨rfl, hb2⟩
  go_wp2_with fail
  go_ret
  exact ⟨ret_bool HE.out, bthen hbw1 hb2⟩
 ·have he : a.1 = -1 := by simpa using hq
  have h7 := h5 he
  obtain ⟨_, _, e1, -, -, hce⟩ := ints_ex HF.out
  simp only [List.cons.injEq, Value.slice.injEq, and_true, true_and] at e1
  obtain ⟨rfl, rfl⟩ := e1
  have hal : (atL vals a.2).length = 2 := by rw [atL_len]; exact h7
  obtain ⟨b, o, rfl, hb, hcc⟩ := hce (by omega)
  have i0 := (hcc 0 (by omega)).2
  have i1 := (hcc 1 (by omega)).2
  rw [Nat.add_zero] at i0
  have HE : Hid (((atL vals a.2)[0]'(by omega) == (atL vals a.2)[1]'(by omega)) = holdsA t vals a) := by
   unfold Hid
   rw [holdsA_eq hq]
   simp [List.getD_eq_getElem?_getD, hal]
  clear hcc hce h5 h6 he
  rw [hal]
  go_wp2_with fail
  go_quiet (fail)
  go_wp2_with fail
  go_ret
  exact ⟨ret_bool HE.out, bthen hbw1 (Quiet.drewN _ _).below⟩
set_option maxHeartbeats 1600000 in
set_option maxRecDepth 100000 in
theorem MaxI_any (w : World) {v : Value} {xs : List Int} (h : intsT.Rd w [v] xs) (h0 : 1 ≤ xs.length) (hnn : ∀ x ∈ xs, 0 ≤ x) :
  Calls Tryz.prog 146 #[v] w fun e w' => e = .returned (.int .i64 (topI xs)) ∧ w = w' := by
 obtain ⟨ad, cap, hv, -, hcl, hcell⟩ := ints_ex h
 obtain rfl : v = _ := by simpa using hv
 obtain ⟨b, o, rfl, hb, hce⟩ := hcell (by omega)
 have HCE := Lib.hid hce
 have HN := Lib.hid hnn
 have c0 := (hce 0 (by omega)).2
 have ht1 : topI (xs.take 1) = xs[0] := by rw [topI_take (show 0 < xs.length by omega)]; have := hnn _ (List.getElem_mem (show 0 < xs.length by omega)); simp [topI]; omega
 have HT1 := Lib.hid ht1
 have h01 : 1 ≤ (xs.length : Int) := by omega
 rw [Nat.add_zero] at c0
 clear h hv hcell hce hnn ht1
 go_enter Tryz.func146, Tryz.ntmps146
 go_wp2_with fail
 go_loop [3, 4] (fun m i => ∃ k : Nat, 1 ≤ k ∧ k ≤ xs.length ∧ i = .int .i64 k ∧ m = .int .i64 (topI (xs.take k))) (fun _ i => xs.length - (intOf i).toNat)
 case atStart => exact ⟨1, Nat.le_refl _, h0, rfl, by rw [HT1.out]⟩
 case round =>
  obtain ⟨k, hk1, hk, rfl, rfl⟩ := hrel
  by_cases hkl : k < xs.length
  ·have e0 := (HCE.out k hkl).2
   have HT := Lib.hid (topI_take hkl)
   go_wp2_with fail
   go_round
   case rel => exact ⟨k + 1, by omega, by omega, by go_num, by rw [HT.out]; congr 1; split <;> omega⟩
   case measure => simp [intOf]; omega
  ·obtain rfl : k = xs.length := by omega
   rw [List.take_length]
   go_wp2_with fail
   go_ret
   exact ⟨rfl, rfl⟩
end Go.Proofs.YtajmjfbejfiipaaGreat
namespace Go.Proofs.YtajmjfbejfiipaaGreat
/-- all lists of m more values that go, in order -/
def solsL (s : Nat) (sure : List Int → Bool) : Nat → List Int → List (List Int)
 | 0, vals => [vals]
 | m + 1, vals => (List.range s).flatMap fun a : Nat => if sure (vals ++ [(a : Int)]) then solsL s sure m (vals ++ [(a : Int)]) else []
/-- those of the first k values at the next place -/
def solsTo (s : Nat) (sure : List Int → Bool) (m : Nat) (vals : List Int) (k : Nat) : List (List Int) :=
 (List.range k).flatMap fun a : Nat => if sure (vals ++ [(a : Int)]) then solsL s sure m (vals ++ [(a : Int)]) else []
section
variable {s m k : Nat} {sure : List Int → Bool} {vals : List Int}
theorem solsL_zero : solsL s sure 0 vals = [vals] := rfl
theorem solsL_succ : solsL s sure (m + 1) vals = solsTo s sure m vals s := rfl
theorem solsTo_zero : solsTo s sure m vals 0 = [] := by simp [solsTo]
theorem solsTo_yes (h : sure (vals ++ [(k : Int)]) = true) : solsTo s sure m vals (k + 1) = solsTo s sure m vals k ++ solsL s sure m (vals ++ [(k : Int)]) := by simp [solsTo, List.range_succ, h]
theorem solsTo_no (h : sure (vals ++ [(k : Int)]) = false) : solsTo s sure m vals (k + 1) = solsTo s sure m vals k := by simp [solsTo, List.range_succ, h]
theorem solsTo_append {s m k : Nat} {sure : List Int → Bool} {vals : List Int} : ∀ {j : Nat}, k ≤ j → ∃ r, solsTo s sure m vals j = solsTo s sure m vals k ++ r
 | 0, h => by
  obtain rfl : k = 0 := by omega
  exact ⟨[], by simp⟩
 | j + 1, h => by
  by_cases e : k = j + 1
  ·subst e; exact ⟨[], by simp⟩
  ·obtain ⟨r, hr⟩ := solsTo_append (s := s) (m := m) (k := k) (sure := sure) (vals := vals) (j := j) (by omega)
   cases hs : sure (vals ++ [(j : Int)])
   ·exact ⟨r, by rw [solsTo_no hs, hr]⟩
   ·exact ⟨r ++ solsL s sure m (vals ++ [(j : Int)]), by rw [solsTo_yes hs, hr, List.append_assoc]⟩
end
theorem flat_len {α β : Type} (f : α → List β) (c : Nat) : ∀ {xs : List α}, (∀ x ∈ xs, (f x).length ≤ c) → (xs.flatMap f).length ≤ xs.length * c
 | [], _ => by simp
 | x :: r, h => by
  rw [List.flatMap_cons, List.length_append, List.length_cons, Nat.add_mul]
  have h1 := h x (List.mem_cons_self ..)
  have h2 := flat_len f c (xs := r) fun y hy => h y (List.mem_cons_of_mem _ hy)
  omega
/-- there are not more than that -/
theorem solsL_len {s : Nat} {sure : List Int → Bool} : ∀ {m : Nat} {vals : List Int}, (solsL s sure m vals).length ≤ s ^ m
 | 0, vals => by simp [solsL]
 | m + 1, vals => by
  have h := flat_len (fun a : Nat => if sure (vals ++ [(a : Int)]) then solsL s sure m (vals ++ [(a : Int)]) else []) (s ^ m) (xs := List.range s) fun a _ => by
   cases hs : sure (vals ++ [(a : Int)])
   ·simp
   ·simpa using solsL_len
  rw [List.length_range] at h
  rw [Nat.pow_succ, Nat.mul_comm]
  exact h
/-- what a listener has been told when it has said no, or all has been told; has it said yes to all? -/
def tellL (go : List (List Int) → Bool) : List (List Int) → List (List Int) → List (List Int) × Bool
 | told, [] => (told, true)
 | told, x :: r => if go (told ++ [x]) then tellL go (told ++ [x]) r else (told ++ [x], false)
section
variable {go : List (List Int) → Bool} {told xs ys : List (List Int)} {x : List Int}
theorem tellL_nil : tellL go told [] = (told, true) := rfl
theorem tellL_one : tellL go told [x] = (told ++ [x], go (told ++ [x])) := by
 simp only [tellL]
 cases go (told ++ [x]) <;> rfl
theorem tellL_append : ∀ {xs told : List (List Int)}, tellL go told (xs ++ ys) = if (tellL go told xs).2 then tellL go (tellL go told xs).1 ys else tellL go told xs
 | [], told => by simp [tellL]
 | x :: r, told => by
  simp only [List.cons_append, tellL]
  by_cases hg : go (told ++ [x]) = true
  ·simp only [if_pos hg]
   exact tellL_append (xs := r) (told := told ++ [x])
  ·simp [hg]
theorem tellL_yes (h : (tellL go told xs).2 = true) : tellL go told (xs ++ ys) = tellL go (tellL go told xs).1 ys := by rw [tellL_append, if_pos h]
theorem tellL_no (h : (tellL go told xs).2 = false) : tellL go told (xs ++ ys) = tellL go told xs := by rw [tellL_append, if_neg (by simp [h])]
theorem tellL_stop (h : (tellL go told xs).2 = false) (hy : ∃ r, ys = xs ++ r) : tellL go told ys = tellL go told xs := by
 obtain ⟨r, rfl⟩ := hy
 exact tellL_no h
end
/-- a listener that never says yes is told one -/
theorem tellL_first {told : List (List Int)} : ∀ {xs : List (List Int)}, tellL (fun _ => false) told xs = match xs with | [] => (told, true) | x :: _ => (told ++ [x], false)
 | [] => rfl
 | _ :: _ => rfl
end Go.Proofs.YtajmjfbejfiipaaGreat
namespace Go.Proofs.YtajmjfbejfiipaaGreat
open Go.RowKit
/-- read in blocks for which something is so -/
def Ty.RdP {α : Type} (E : Ty α) (ok : Nat → Prop) (w : World) (cs : List Value) (x : α) : Prop := ∃ fp, E.rd w cs x fp ∧ ∀ k ∈ fp, ok k
section
variable {α : Type} {E : Ty α} {ok ok' : Nat → Prop} {w w' : World} {cs : List Value} {x : α}
theorem Ty.RdP.rd (h : E.RdP ok w cs x) : E.Rd w cs x := let ⟨fp, h, _⟩ := h; ⟨fp, h⟩
theorem Ty.RdP.mono (h : E.RdP ok w cs x) (hk : ∀ k, k < w.heap.size → ok k → ok' k) : E.RdP ok' w cs x := let ⟨fp, h, hf⟩ := h; ⟨fp, h, fun k hk' => hk k (E.lt h k hk') (hf k hk')⟩
theorem Ty.Rd.P (h : E.Rd w cs x) : E.RdP (fun k => k < w.heap.size) w cs x := let ⟨fp, h⟩ := h; ⟨fp, h, E.lt h⟩
theorem Ty.RdP.tch {O : List Nat} (h : E.RdP ok w cs x) (ht : TchF O w w') (hO : ∀ k, k < w.heap.size → ok k → k ∉ O) : E.RdP ok w' cs x :=
 let ⟨fp, h, hf⟩ := h; ⟨fp, E.same h (ht.same fun k hk => ⟨E.lt h k hk, hO k (E.lt h k hk) (hf k hk)⟩), hf⟩
theorem Ty.RdP.below (h : E.RdP ok w cs x) (hb : Below w.heap.size w w') : E.RdP ok w' cs x := h.tch (O := []) (Below.tchF hb []) (fun _ _ _ => List.not_mem_nil)
theorem Ty.rd.below {fp : List Nat} (h : E.rd w cs x fp) (hb : Below w.heap.size w w') : E.rd w' cs x fp := E.same h (Same.below hb (E.lt h))
theorem Ty.rd.tch {fp O : List Nat} (h : E.rd w cs x fp) (ht : TchF O w w') (hO : ∀ k ∈ fp, k ∉ O) : E.rd w' cs x fp := E.same h (ht.same fun k hk => ⟨E.lt h k hk, hO k hk⟩)
end
theorem TchF.then {O O' : List Nat} {a b c : World} (h : TchF O a b) (h' : TchF O' b c) (hO : ∀ k ∈ O', k ∈ O ∨ a.heap.size ≤ k) : TchF O a c :=
 ⟨h'.os.trans h.os, h'.tape.trans h.tape, h'.output.trans h.output, Nat.le_trans h.size h'.size, fun k hk hn => (h'.block k (Nat.lt_of_lt_of_le hk h.size) fun hm => by
  rcases hO k hm with hm | hm
  ·exact hn hm
  ·omega).trans (h.block k hk hn)⟩
theorem TchF.below {O : List Nat} {a b : World} {B : Nat} (h : TchF O a b) (hB : B ≤ a.heap.size) (hO : ∀ k ∈ O, B ≤ k) : Below B a b :=
 ⟨h.os, h.tape, h.output, h.size, fun k hk => h.block k (Nat.lt_of_lt_of_le hk hB) fun hm => Nat.not_lt.2 (hO k hm) hk⟩
abbrev duesT : Ty (List (List (Int × List Int))) := Ty.slice opsT
/-- a search's data, at block bs: the template, how many variables, the atoms that are due at each -/
def Sv (ok : Nat → Prop) (w : World) (bs : Nat) (t : Int × List (Int × List (List Int))) (vars : Int) (due : List (List (Int × List Int))) : Prop :=
 bs < w.heap.size ∧ ok bs ∧ ∃ v1 v3, w.cell? ⟨bs, 0, none⟩ = some (.int .i64 t.1) ∧ w.cell? ⟨bs, 1, none⟩ = some v1 ∧ w.cell? ⟨bs, 2, none⟩ = some (.int .i64 vars) ∧ w.cell? ⟨bs, 3, none⟩ = some v3 ∧ tplT.RdP ok w [.int .i64 t.1, v1] t ∧ duesT.RdP ok w [v3] due
section
variable {ok ok' : Nat → Prop} {w w' : World} {bs : Nat} {t : Int × List (Int × List (List Int))} {vars : Int} {due : List (List (Int × List Int))}
theorem Sv.tch {O : List Nat} (h : Sv ok w bs t vars due) (ht : TchF O w w') (hO : ∀ k, k < w.heap.size → ok k → k ∉ O) : Sv ok w' bs t vars due := by
 obtain ⟨h1, h2, v1, v3, c0, c1, c2, c3, h3, h4⟩ := h
 have hn := hO bs h1 h2
 exact ⟨Nat.lt_of_lt_of_le h1 ht.size, h2, v1, v3, (ht.cell h1 hn).trans c0, (ht.cell h1 hn).trans c1, (ht.cell h1 hn).trans c2, (ht.cell h1 hn).trans c3, h3.tch ht hO, h4.tch ht hO⟩
theorem Sv.below (h : Sv ok w bs t vars due) (hb : Below w.heap.size w w') : Sv ok w' bs t vars due := h.tch (O := []) (Below.tchF hb []) (fun _ _ _ => List.not_mem_nil)
theorem Sv.mono (h : Sv ok w bs t vars due) (hk : ∀ k, k < w.heap.size → ok k → ok' k) : Sv ok' w bs t vars due := by
 obtain ⟨h1, h2, v1, v3, c0, c1, c2, c3, h3, h4⟩ := h
 exact ⟨h1, hk _ h1 h2, v1, v3, c0, c1, c2, c3, h3.mono hk, h4.mono hk⟩
end
/-- a listener of lists of values: what it keeps (I), and the blocks that it may write (O) -/
structure Yl (P : Program) (g : FuncId) (caps : Array Value) (go : List (List Int) → Bool) (I : List (List Int) → List Nat → World → Prop) : Prop where
 stable : ∀ {told O w w'}, I told O w → Below w.heap.size w w' → I told O w'
 lt : ∀ {told O w}, I told O w → ∀ k ∈ O, k < w.heap.size
 step : ∀ {told O w0 w u x}, I told O w0 → Below w0.heap.size w0 w → intsT.Fr w0.heap.size w [u] x → x.length ≤ 10 → told.length ≤ 2000000 →
  Calls P g (#[u] ++ caps) w fun e w' => e = .returned (.bool (go (told ++ [x]))) ∧ ∃ O', I (told ++ [x]) O' w' ∧ TchF O w w' ∧ ∀ k ∈ O', k ∈ O ∨ w0.heap.size ≤ k
theorem tellL_len {go : List (List Int) → Bool} : ∀ {xs told : List (List Int)}, (tellL go told xs).1.length ≤ told.length + xs.length
 | [], told => by simp [tellL]
 | x :: r, told => by
  simp only [tellL]
  by_cases hg : go (told ++ [x]) = true
  ·rw [if_pos hg]
   have := tellL_len (go := go) (xs := r) (told := told ++ [x])
   simp at this ⊢
   omega
  ·rw [if_neg hg]
   simp
theorem flatN (n : Nat) : flat (fun _ => []) n = [] := List.eq_nil_iff_forall_not_mem.2 fun x hx => by obtain ⟨_, _, h⟩ := List.mem_flatMap.1 hx; cases h
/-- an append of a number to a row that is full -/
theorem wpList_appFull {P : Program} (w : World) {ops : Array Oper} {rest : List Oper} {o : Oper} {a : Act} {Q : Exit → Act → World → Prop} (hgd : o.guard = none) (s x : Operand) (t e : TypeId) {bytes : Nat}
  (ho : o.op = .call { callee := .builtin .append, args := #[s, x], argTypes := #[t, t] }) (hT : ElT P t e 1 bytes)
  {ad : Option Addr} {n : Nat} {xs : List Int} (hs : a.eval s = .slice ad n n) (hR : intsT.Rd w [.slice ad n n] xs)
  {ad2 : Addr} {c : Nat} {k : Int} (hx : a.eval x = .slice (some ad2) 1 c) (hnews : ∀ j u, [Value.int .i64 k][j]? = some u → w.cell? (ad2.add j) = some u) (hI : I64 k)
  (hlen : n ≤ 1000000) (hby : bytes ≤ 100000)
  (h : ∀ v' w', intsT.Fr w.heap.size w' [v'] (xs ++ [k]) → Below w.heap.size w w' → wpList P ops Q rest (a.put o.dst v') w') : wpList P ops Q (o :: rest) a w := by
 obtain ⟨i, z, ht, hi, hz, hsz, hbt', hzs, hp⟩ := id hT
 obtain ⟨ad', cap', hv, -, hcl, hcell⟩ := ints_ex hR
 obtain ⟨rfl, rfl, rfl⟩ : ad = ad' ∧ n = xs.length ∧ n = cap' := by simpa using hv
 have hlen' : (xs.length + 1) * bytes ≤ 140737488355328 := Nat.le_trans (Nat.mul_le_mul (show xs.length + 1 ≤ 1000000001 by omega) hby) (by decide)
 have hIx : ∀ q (hq : q < xs.length), I64 xs[q] := fun q hq => by
  obtain ⟨b, o, _, _, h5⟩ := hcell (by omega)
  exact (h5 q hq).1
 have key : ∃ v' w', (Builtin.append_ #[t, t] o.type #[.slice ad xs.length xs.length, .slice (some ad2) 1 c]).run P w = .ok v' w' ∧ w'.ownsRow w.heap.size e 1 v' (xs.length + 1) ((xs ++ [k]).map (Value.int .i64)) ∧ Below w.heap.size w w' := by
  have hfit : Builtin.nextslicecap (xs.length + 1) xs.length * i.bytes ≤ 281474976710656 := growslice_fits (by omega) (by rw [hbt']; exact hlen')
  have grown : ∀ old : Nat, (w.drew.alloc (.cells ((xs.map (Value.int .i64)).toArray ++ [Value.int .i64 k].toArray ++ Builtin.zeroCells z.cells (grownCap w (xs.length + 1) old e - (xs.length + 1))) e)).ownsRow w.heap.size e 1
    (.slice (some ⟨w.heap.size, 0, none⟩) (xs.length + 1) (grownCap w (xs.length + 1) old e)) (xs.length + 1) ((xs ++ [k]).map (Value.int .i64)) := by
   intro old
   have hge := grownCap_ge w (xs.length + 1) old e
   refine ⟨by simp, .inr ⟨w.heap.size, _, _, rfl, Nat.le_refl _, heap_alloc_new w.drew _, hge, grownCap_le_maxLen w (xs.length + 1) old e (by unfold maxLen; omega), ?_, ?_⟩⟩
   ·simp only [Array.size_append, List.size_toArray, size_zeroCells, hzs, List.length_map, List.length_singleton]
    omega
   ·rw [show xs.length + 1 = ((xs.map (Value.int .i64)) ++ [Value.int .i64 k]).length * 1 by simp, Nat.mul_one]
    simp only [Array.toList_append, List.map_append, List.map_cons, List.map_nil, Nat.mul_one]
    exact List.take_left
  have hbel : ∀ ob : Obj, Below w.heap.size w (w.drew.alloc ob) := fun ob => (Below.refl _ w).drew.alloc (by simp) _
  rcases ad with _ | b
  ·have h0 : xs.length = 0 := by
    rcases Nat.eq_zero_or_pos xs.length with h0 | h0
    ·exact h0
    ·obtain ⟨b, o, hb, _⟩ := hcell h0
     cases hb
   obtain rfl : xs = [] := List.eq_nil_of_length_eq_zero h0
   have hr := run_append_nil (P := P) w t o.type e i z ht hi hz ad2 1 c [Value.int .i64 k] (by rw [hsz]; rfl) hnews (by omega) (by omega) (by rw [hbt']; simp only [List.length_nil, Nat.zero_add] at hlen'; omega)
   have hg := grown 0
   refine ⟨_, _, hr, ?_, hbel _⟩
   simpa using hg
  ·have holds : ∀ (j : Nat) (v : Value), (xs.map (Value.int .i64))[j]? = some v → w.cell? (b.add j) = some v := by
    intro j u hj
    rw [List.getElem?_map] at hj
    by_cases hjl : j < xs.length
    ·rw [List.getElem?_eq_getElem hjl] at hj
     simp only [Option.map_some, Option.some.injEq] at hj
     subst hj
     obtain ⟨b', o', hb, _, h5⟩ := hcell (by omega)
     obtain rfl : b = _ := by simpa using hb
     have := (h5 j hjl).2
     by_cases hj0 : j = 0
     ·subst hj0
      simpa [Addr.add] using this
     ·simpa [Addr.add, hj0] using this
    ·rw [List.getElem?_eq_none (by omega)] at hj
     simp at hj
   have hr := run_append_grow (P := P) w t o.type e i z ht hi hz b xs.length xs.length (xs.map (Value.int .i64)) (by rw [hsz]; simp) holds ad2 1 c [Value.int .i64 k] (by rw [hsz]; rfl) hnews (by omega) (by omega) hfit
   exact ⟨_, _, hr, grown xs.length, hbel _⟩
 obtain ⟨v', w', hr, hown, hb⟩ := key
 have hFr : intsT.Fr w.heap.size w' [v'] (xs ++ [k]) := by
  refine Bl.fr (E := Ty.int) (e := e) (top := w'.heap.size) ⟨(xs ++ [k]).map (Value.int .i64), fun _ => [], by simpa [Ty.int] using hown, fun j hj => ⟨[.int .i64 (xs ++ [k])[j]], ⟨rfl, ?_, rfl⟩, fun q hq => ?_⟩, by rw [flatN]; exact List.nodup_nil, by rw [flatN]; simp, fun g hg => (hown.lt g hg).2, fun b hb => by rw [flatN] at hb; cases hb⟩ (by rw [List.length_append]; unfold capMax; simp only [List.length_singleton]; omega)
  ·by_cases hj' : j < xs.length
   ·rw [List.getElem_append_left hj']; exact hIx j hj'
   ·rw [List.getElem_append_right (by omega)]; simpa using hI
  ·obtain rfl : q = 0 := by simpa using hq
   simp only [Ty.int, Nat.mul_one, Nat.add_zero, List.getElem?_map, List.getElem?_eq_getElem hj]
   rfl
 refine wpList_plain hgd fun K hK => ?_
 unfold Oper.wp execOp
 simp only [ho, resolve, invoke, builtin, Sem.run_bind, Sem.run_pure, Result.andThen_ok, List.map_toArray, List.map_cons, List.map_nil, hs, hx, hr]
 exact hK _ _ (h v' w' hFr hb)
end Go.Proofs.YtajmjfbejfiipaaGreat
namespace Go.Proofs.YtajmjfbejfiipaaGreat
open Go.RowKit Go.Sort
/-- do all atoms hold that are due when so many values are there? -/
noncomputable def goesB (t : Int × List (Int × List (List Int))) (due : List (List (Int × List Int))) (vals : List Int) : Bool := !anyB (fun a => !holdsA t vals a) (due.getD (vals.length - 1) [])
theorem goesB_at {t : Int × List (Int × List (List Int))} {due : List (List (Int × List Int))} {vals : List Int} {k : Nat} (h : vals.length = k + 1) (hk : k < due.length) : goesB t due vals = !anyB (fun a => !holdsA t vals a) due[k] := by
 unfold goesB
 rw [h, Nat.add_sub_cancel, List.getD_eq_getElem?_getD, List.getElem?_eq_getElem hk]
 rfl
/-- the atoms that are due are right -/
def dueOk (t : Int × List (Int × List (List Int))) (vars : Int) (due : List (List (Int × List Int))) : Prop := ∀ k (h : k < due.length), ∀ a ∈ due[k], atomOk t vars a ∧ ∀ p ∈ a.2, 0 ≤ p ∧ p < (k : Int) + 1
set_option maxHeartbeats 1600000 in
set_option maxRecDepth 100000 in
theorem goes1_any (w : World) {ca : Array Value} {a : Int × List Int} (ha : opT.Rd w ca.toList a) {ok : Nat → Prop} {bs : Nat} {t : Int × List (Int × List (List Int))} {vars : Int} {due : List (List (Int × List Int))} (hS : Sv ok w bs t vars due) {b1 b2 : Nat} {v : Value} {vals : List Int}
  (s0 : w.cell? ⟨b1, 0, none⟩ = some (.pointer (some ⟨bs, 0, none⟩))) (v0 : w.cell? ⟨b2, 0, none⟩ = some v) (hv : intsT.Rd w [v] vals) (hT : tplOk t) (hA : atomOk t vars a) (hin : ∀ p ∈ a.2, 0 ≤ p ∧ p < (vals.length : Int)) :
  Calls Tryz.prog 236 #[.agg ca, .pointer (some ⟨b1, 0, none⟩), .pointer (some ⟨b2, 0, none⟩)] w fun e w' => e = .returned (.bool (!holdsA t vals a)) ∧ Below w.heap.size w w' := by
 have HA := Lib.hid ha
 obtain ⟨hbs, -, v1, v3, c0, c1, -, -, ht, -⟩ := hS
 obtain ⟨va, hca, -, -⟩ := pair_ex ha
 obtain rfl := agg_of hca
 have HTR := Lib.hid ht.rd
 have HV := Lib.hid hv
 have HT := Lib.hid hT
 have HAO := Lib.hid hA
 have HIN := Lib.hid hin
 clear ha hca ht hv hT hA hin
 go_enter Tryz.func236, Tryz.ntmps236
 go_wp2_with fail
 generalize hW : World.alloc _ _ = W
 have hbW : Below w.heap.size w W := hW ▸ bA
 have a0 : W.cell? ⟨w.heap.size, 0, none⟩ = some (.int .i64 a.1) := by rw [← hW]; simp
 have a1 : W.cell? ⟨w.heap.size, 1, none⟩ = some va := by rw [← hW]; simp
 have k0 := (hbW.cell (cell_lt c0)).trans c0
 have k1 := (hbW.cell (cell_lt c1)).trans c1
 have k2 := (hbW.cell (cell_lt s0)).trans s0
 have k3 := (hbW.cell (cell_lt v0)).trans v0
 have hlW : w.heap.size < W.heap.size := by rw [← hW]; simp
 clear hW c0 c1 s0 v0
 refine wp_region_T (fun w' => w'.cell? ⟨w.heap.size, 0, none⟩ = some (.int .i64 a.1) ∧ w'.cell? ⟨w.heap.size, 1, none⟩ = some va ∧ w'.cell? ⟨bs, 0, none⟩ = some (.int .i64 t.1) ∧ w'.cell? ⟨bs, 1, none⟩ = some v1 ∧ w'.cell? ⟨b1, 0, none⟩ = some (.pointer (some ⟨bs, 0, none⟩)) ∧ w'.cell? ⟨b2, 0, none⟩ = some v) [6, 8] (by kernel_rfl) ⟨a0, a1, k0, k1, k2, k3⟩ (fun hHeld => ?_)
 refine wpAnyT_take (i := 0) (v := ?_) rfl (by kernel_rfl) (fun _ _ _ h => h) (Or.inl ⟨by rfl, ?_⟩) (by assumption) ?_
 rotate_left
 ·(intro w hSw; (try dsimp only at hSw); go_simp <;> with_reducible rfl)
 try simp only [Act.put]
 refine wpAnyT_take (i := 1) (v := ?_) rfl (by kernel_rfl) (fun _ _ _ h => h) (Or.inl ⟨by rfl, ?_⟩) (by assumption) ?_
 rotate_left
 ·(intro w hSw; (try dsimp only at hSw); go_simp <;> with_reducible rfl)
 try simp only [Act.put]
 refine wpAnyT_take (i := 2) (v := ?_) rfl (by kernel_rfl) (fun _ _ _ h => h) (Or.inl ⟨by rfl, ?_⟩) (by assumption) ?_
 rotate_left
 ·(intro w hSw; (try dsimp only at hSw); go_simp <;> with_reducible rfl)
 try simp only [Act.put]
 refine wpAnyT_take (i := 3) (v := ?_) rfl (by kernel_rfl) (fun _ _ _ h => h) (Or.inl ⟨by rfl, ?_⟩) (by assumption) ?_
 rotate_left
 ·(intro w hSw; (try dsimp only at hSw); go_simp <;> with_reducible rfl)
 try simp only [Act.put]
 refine wpAnyT_take (i := 4) (v := ?_) rfl (by kernel_rfl) (fun _ _ _ h => h) (Or.inl ⟨by rfl, ?_⟩) (by assumption) ?_
 rotate_left
 ·(intro w hSw; (try dsimp only at hSw); go_simp <;> with_reducible rfl)
 try simp only [Act.put]
 refine wpAnyT_take (i := 5) (v := ?_) rfl (by kernel_rfl) (fun _ _ _ h => h) (Or.inl ⟨by rfl, ?_⟩) (by assumption) ?_
 rotate_left
 ·(intro w hSw; (try dsimp only at hSw); go_simp <;> with_reducible rfl)
 try simp only [Act.put]
 refine wpAnyT_last (i := 6) rfl (by kernel_rfl) (by kernel_rfl) (fun K hK => ?_)
 go_simp
 go_at_call 237
 refine (holds_any (ct := #[.int .i64 t.1, v1]) (ca := #[.int .i64 a.1, va]) _ ((HTR.out.below hbW).below bD) ((HA.out.below hbW).below bD) ((HV.out.below hbW).below bD) HT.out HAO.out HIN.out).mono ?_
 rintro e w2 ⟨rfl, hb2⟩
 have hb2' : Below W.heap.size W w2 := bthen bD hb2
 dsimp only
 refine hK.out _ _ ?_
 clear hK K
 refine wpAnyT_any (i := 7) (v := ?_) rfl (by kernel_rfl) (fun _ _ _ h => h) (Or.inl ⟨by rfl, ?_⟩) (by first | exact fun _ => by assumption | (intro hp; exact absurd hp (by rw [show pastB _ _ = true by kernel_rfl]; simp))) ?_
 rotate_left
 ·(intro w hSw; (try dsimp only at hSw); go_simp <;> with_reducible rfl)
 try simp only [Act.put]
 refine wpAnyT_last (i := 8) rfl (by kernel_rfl) (by kernel_rfl) (fun K hK => ?_)
 go_simp
 refine hK.out _ _ ?_
 clear hK K
 refine wpAnyT_done (by kernel_rfl) ?_ _
 go_simp
 go_wp2_with fail
 go_ret
 exact ⟨rfl, bthen hbW hb2'⟩
set_option maxHeartbeats 1600000 in
set_option maxRecDepth 100000 in
theorem goes_any (w : World) {ok : Nat → Prop} {bs : Nat} {t : Int × List (Int × List (List Int))} {vars : Int} {due : List (List (Int × List Int))} (hS : Sv ok w bs t vars due) {v : Value} {vals : List Int} (hv : intsT.Rd w [v] vals) (hT : tplOk t) (hD : dueOk t vars due) (h1 : 1 ≤ vals.length) (h2 : vals.length ≤ due.length) :
  Calls Tryz.prog 206 #[.pointer (some ⟨bs, 0, none⟩), v] w fun e w' => e = .returned (.bool (goesB t due vals)) ∧ Below w.heap.size w w' := by
 have HS := Lib.hid hS
 obtain ⟨hbs, -, v1, v3, -, -, -, c3, -, hd⟩ := hS
 obtain ⟨k, hk⟩ : ∃ k, vals.length = k + 1 := ⟨vals.length - 1, by omega⟩
 have hkd : k < due.length := by omega
 have HG := Lib.hid (goesB_at (t := t) hk hkd)
 obtain ⟨da, dc, hdv, -, hdl, hdce⟩ := slices_ex hd.rd
 obtain rfl : v3 = _ := by simpa using hdv
 obtain ⟨g, go0, rfl, hg, hce⟩ := hdce (by omega)
 obtain ⟨u, hu, hcu⟩ := hce k hkd
 obtain ⟨ua, un, uc, rfl⟩ := rd_sl hu
 obtain ⟨va, vc, rfl⟩ := rd_slice hv
 have HU := Lib.hid hu
 have HV := Lib.hid hv
 have HT := Lib.hid hT
 have HD := Lib.hid hD
 have HK := Lib.hid hk
 have hwr : IntKind.i64.wrap (k : Int) = k := wrap_small (by omega) (by omega)
 rw [hk]
 clear hd hdv hdce hce hu hv hT hD hk h1 h2
 go_enter Tryz.func206, Tryz.ntmps206
 go_wp2_with fail
 generalize hW : World.alloc _ _ = W
 have hbW : Below w.heap.size w W := hW ▸ bAA
 have hsW : W.heap.size = w.heap.size + 2 := by rw [← hW]; simp
 have p0 : W.cell? ⟨w.heap.size, 0, none⟩ = some (.pointer (some ⟨bs, 0, none⟩)) := by rw [← hW]; simp [go_sem]
 have p1 : W.cell? ⟨w.heap.size + 1, 0, none⟩ = some (.slice va (k + 1) vc) := by rw [← hW]; simp [go_sem]
 have d3 := (cellB hbW hbs).trans c3
 have du := (cellB hbW hg).trans hcu
 clear hW c3 hcu
 refine wp_region_T (fun w' => w'.cell? ⟨w.heap.size, 0, none⟩ = some (.pointer (some ⟨bs, 0, none⟩)) ∧ w'.cell? ⟨w.heap.size + 1, 0, none⟩ = some (.slice va (k + 1) vc) ∧ w'.cell? ⟨bs, 3, none⟩ = some (.slice (some ⟨g, go0, none⟩) due.length dc) ∧ w'.cell? ⟨g, go0 + k, none⟩ = some (.slice ua un uc)) [10, 12] (by kernel_rfl) ⟨p0, p1, d3, du⟩ (fun hHeld => ?_)
 refine wpAnyT_take (i := 0) (v := ?_) rfl (by kernel_rfl) (fun _ _ _ h => h) (Or.inl ⟨by rfl, ?_⟩) (by assumption) ?_
 rotate_left
 ·(intro w hSw; (try dsimp only at hSw); go_simp <;> with_reducible rfl)
 try simp only [Act.put]
 refine wpAnyT_take (i := 1) (v := ?_) rfl (by kernel_rfl) (fun _ _ _ h => h) (Or.inl ⟨by rfl, ?_⟩) (by assumption) ?_
 rotate_left
 ·(intro w hSw; (try dsimp only at hSw); go_simp <;> with_reducible rfl)
 try simp only [Act.put]
 refine wpAnyT_take (i := 2) (v := ?_) rfl (by kernel_rfl) (fun _ _ _ h => h) (Or.inl ⟨by rfl, ?_⟩) (by assumption) ?_
 rotate_left
 ·(intro w hSw; (try dsimp only at hSw); go_simp <;> with_reducible rfl)
 try simp only [Act.put]
 refine wpAnyT_take (i := 3) (v := ?_) rfl (by kernel_rfl) (fun _ _ _ h => h) (Or.inl ⟨by rfl, ?_⟩) (by assumption) ?_
 rotate_left
 ·(intro w hSw; (try dsimp only at hSw); go_simp <;> with_reducible rfl)
 try simp only [Act.put]
 refine wpAnyT_take (i := 4) (v := ?_) rfl (by kernel_rfl) (fun _ _ _ h => h) (Or.inl ⟨by rfl, ?_⟩) (by assumption) ?_
 rotate_left
 ·(intro w hSw; (try dsimp only at hSw); go_simp <;> with_reducible rfl)
 try simp only [Act.put]
 refine wpAnyT_take (i := 5) (v := ?_) rfl (by kernel_rfl) (fun _ _ _ h => h) (Or.inl ⟨by rfl, ?_⟩) (by assumption) ?_
 rotate_left
 ·(intro w hSw; (try dsimp only at hSw); go_simp <;> with_reducible rfl)
 try simp only [Act.put]
 refine wpAnyT_take (i := 6) (v := ?_) rfl (by kernel_rfl) (fun _ _ _ h => h) (Or.inl ⟨by rfl, ?_⟩) (by assumption) ?_
 rotate_left
 ·(intro w hSw; (try dsimp only at hSw); go_simp <;> with_reducible rfl)
 try simp only [Act.put]
 refine wpAnyT_take (i := 7) (v := ?_) rfl (by kernel_rfl) (fun _ _ _ h => h) (Or.inl ⟨by rfl, ?_⟩) (by assumption) ?_
 rotate_left
 ·(intro w hSw; (try dsimp only at hSw); go_simp <;> with_reducible rfl)
 try simp only [Act.put]
 refine wpAnyT_take (i := 8) (v := ?_) rfl (by kernel_rfl) (fun _ _ _ h => h) (Or.inl ⟨by rfl, ?_⟩) (by assumption) ?_
 rotate_left
 ·(intro w hSw; (try dsimp only at hSw); go_simp <;> with_reducible rfl)
 try simp only [Act.put]
 refine wpAnyT_take (i := 9) (v := ?_) rfl (by kernel_rfl) (fun _ _ _ h => h) (Or.inl ⟨by rfl, ?_⟩) (by assumption) ?_
 rotate_left
 ·(intro w hSw; (try dsimp only at hSw); go_simp <;> with_reducible rfl)
 try simp only [Act.put]
 refine wpAnyT_last (i := 10) rfl (by kernel_rfl) (by kernel_rfl) (fun K hK => ?_)
 go_simp
 go_at_call 69
 have hbD : Below W.heap.size W W.drew := bD
 refine (ContainsFuncAtom_any _ ((HU.out.below hbW).below hbD) (fun a => !holdsA t vals a) 236 #[.pointer (some ⟨w.heap.size, 0, none⟩), .pointer (some ⟨w.heap.size + 1, 0, none⟩)] (enters Tryz.func236 (by kernel_rfl) rfl) (fun W' hW' q hq cs hcs => goes1_any W' hcs (((HS.out.below hbW).below hbD).below hW') ((hW'.cell (cell_lt hHeld.1)).trans hHeld.1) ((hW'.cell (cell_lt hHeld.2.1)).trans hHeld.2.1) (by have := ((HV.out.below hbW).below hbD).below hW'; rw [HK.out] at this; exact this) HT.out ((HD.out k hkd _ (List.getElem_mem hq)).1) (by have := (HD.out k hkd _ (List.getElem_mem hq)).2; rw [HK.out]; exact this))).mono ?_
 rintro e w2 ⟨rfl, hb2⟩
 have hb2' : Below W.heap.size W w2 := bthen hbD hb2
 dsimp only
 refine hK.out _ _ ?_
 clear hK K
 refine wpAnyT_any (i := 11) (v := ?_) rfl (by kernel_rfl) (fun _ _ _ h => h) (Or.inl ⟨by rfl, ?_⟩) (by first | exact fun _ => by assumption | (intro hp; exact absurd hp (by rw [show pastB _ _ = true by kernel_rfl]; simp))) ?_
 rotate_left
 ·(intro w hSw; (try dsimp only at hSw); go_simp <;> with_reducible rfl)
 try simp only [Act.put]
 refine wpAnyT_last (i := 12) rfl (by kernel_rfl) (by kernel_rfl) (fun K hK => ?_)
 go_simp
 refine hK.out _ _ ?_
 clear hK K
 refine wpAnyT_done (by kernel_rfl) ?_ _
 go_simp
 go_wp2_with fail
 go_ret
 exact ⟨ret_bool HG.out.symm, bthen hbW hb2'⟩
end Go.Proofs.YtajmjfbejfiipaaGreat
namespace Go.Proofs.YtajmjfbejfiipaaGreat
open Go.RowKit Go.Sort
set_option maxHeartbeats 800000 in
theorem Clip_any (w : World) {ad : Option Addr} {n c : Nat} (hn : n ≤ c) (h0 : ad = none → n = 0) (hl : n ≤ 140737488351232) :
  Calls Tryz.prog 238 #[.slice ad n c] w fun e w' => e = .returned (.slice ad n n) ∧ w = w' := by
 rcases ad with _ | ⟨b, o, fl⟩
 ·obtain rfl : n = 0 := h0 rfl
  go_enter Tryz.func238, Tryz.ntmps238
  go_wp2_with fail
  go_ret
  exact ⟨rfl, rfl⟩
 ·go_enter Tryz.func238, Tryz.ntmps238
  go_wp2_with fail
  go_ret
  exact ⟨rfl, rfl⟩
theorem rd_clip {w : World} {ad : Option Addr} {n c : Nat} {xs : List Int} {fp : List Nat} (h : intsT.rd w [.slice ad n c] xs fp) : intsT.rd w [.slice ad n n] xs fp ∧ n = xs.length ∧ n ≤ c ∧ (ad = none → n = 0) ∧ n ≤ 140737488351232 := by
 obtain ⟨ad', cap, hv, h1, h2, h3⟩ := h
 simp only [List.cons.injEq, Value.slice.injEq, and_true] at hv
 obtain ⟨rfl, rfl, rfl⟩ := hv
 refine ⟨⟨ad, xs.length, rfl, Nat.le_refl _, h2, h3⟩, rfl, h1, fun ha => ?_, h2⟩
 rcases h3 with ⟨h3, _⟩ | ⟨_, b, o, _, hb, _⟩
 ·exact h3
 ·rw [ha] at hb; cases hb
set_option maxHeartbeats 6400000 in
set_option maxRecDepth 100000 in
theorem walk_any {t : Int × List (Int × List (List Int))} {vars : Nat} {due : List (List (Int × List Int))} (hT : tplOk t) {s : Nat} (hs : t.1 = s) (hvars : vars ≤ 10) (hdl : due.length = vars) (hD : dueOk t vars due) (g : Nat) (caps : Array Value) (eg : ∀ args w, (callFunc g args).run Tryz.prog w = .ok (.enter g args) w)
  (go : List (List Int) → Bool) (I : List (List Int) → List Nat → World → Prop) (hY : Yl Tryz.prog g caps go I) (bs : Nat) (ok : Nat → Prop) :
  ∀ (m : Nat) (w : World) (v : Value) (vals : List Int) (fpv : List Nat) (told : List (List Int)) (O : List Nat), vals.length + m = vars → Sv ok w bs t vars due → (∀ k, ok k → k < w.heap.size ∧ k ∉ O) → intsT.rd w [v] vals fpv → (∀ k ∈ fpv, k ∉ O) → I told O w →
   told.length + (solsL s (goesB t due) m vals).length ≤ 2000000 →
   Calls Tryz.prog 207 #[.pointer (some ⟨bs, 0, none⟩), v, .func (.func g) #[] caps] w fun e w' => e = .returned (.bool (tellL go told (solsL s (goesB t due) m vals)).2) ∧
    ∃ O', I (tellL go told (solsL s (goesB t due) m vals)).1 O' w' ∧ TchF O w w' ∧ ∀ k ∈ O', k ∈ O ∨ w.heap.size ≤ k := by
 have HT := Lib.hid hT
 have HD := Lib.hid hD
 have HY := Lib.hid hY
 have hs4 := hT.1
 unfold sizeOk at hs4
 have hs41 : 1 ≤ s ∧ s ≤ 4 := by omega
 clear hT hD hY hs4
 intro m
 induction m with
 | zero =>
  intro w v vals fpv told O hlen hS hok hv hfv hI hbd
  have HS := Lib.hid hS
  obtain ⟨hbs, -, v1, v3, c0, c1, c2, c3, -, -⟩ := hS
  obtain ⟨va, vc, rfl⟩ := rd_slice ⟨fpv, hv⟩
  have HV : Hid (intsT.Rd w [.slice va vals.length vc] vals) := ⟨fpv, hv⟩
  have HI := Lib.hid hI
  have hl : vals.length = vars := by omega
  rw [solsL_zero, tellL_one]
  rw [solsL_zero] at hbd
  have hbd' : told.length ≤ 2000000 := by simp at hbd; omega
  clear hv hI hbd c0 c1 c3 hok hfv
  rw [hl] at HV ⊢
  go_enter Tryz.func207, Tryz.ntmps207
  go_wp2_with fail
  refine (Clone_any _ HV.out (by omega)).mono ?_
  rintro e w1 ⟨u, rfl, hf, hb1⟩
  have HF := Lib.hid hf
  clear hf
  go_wp2_with fail
  refine (HY.out.step HI.out hb1 HF.out (by omega) hbd').mono ?_
  rintro e w2 ⟨rfl, O', hI', ht, hO'⟩
  have HI2 := Lib.hid hI'
  have HO := Lib.hid hO'
  have HTC : Hid (TchF O w w2) := (Below.tchF hb1 O).then ht (fun k hk => .inl hk)
  clear hI' ht hO'
  go_wp2_with fail
  go_ret
  exact ⟨rfl, O', HI2.out, HTC.out, HO.out⟩
 | succ m ih =>
  intro w v vals fpv told O hlen hS hok hv hfv hI hbd
  have HS := Lib.hid hS
  obtain ⟨hbs, -, v1, v3, c0, c1, c2, c3, -, -⟩ := hS
  obtain ⟨va, vc, rfl⟩ := rd_slice ⟨fpv, hv⟩
  obtain ⟨hcl, -, hvl, hv0, hvm⟩ := rd_clip hv
  have HV := Lib.hid hcl
  have HI := Lib.hid hI
  have HOK := Lib.hid hok
  have HFV := Lib.hid hfv
  have HIH := Lib.hid ih
  have hl : vals.length < vars := by omega
  have hne : ((vals.length : Int) == (vars : Int)) = false := by simp; omega
  rw [solsL_succ]
  rw [solsL_succ] at hbd
  have HBD := Lib.hid hbd
  rw [hs] at c0
  have hbO := (hok bs HS.out.2.1).2
  clear hv hcl hI hbd hok hfv ih c1 c3
  go_enter Tryz.func207, Tryz.ntmps207
  go_wp2_with fail
  go_loopw [25] (fun i wr => ∃ (k : Nat) (O' : List Nat), k ≤ s ∧ i = .int .i64 k ∧ (tellL go told (solsTo s (goesB t due) m vals k)).2 = true ∧ I (tellL go told (solsTo s (goesB t due) m vals k)).1 O' wr ∧ TchF O w wr ∧ (∀ q ∈ O', q ∈ O ∨ w.heap.size ≤ q)) (fun i _ => s - (intOf i).toNat)
  case atStart => exact ⟨0, O, Nat.zero_le _, rfl, by rw [solsTo_zero]; rfl, by rw [solsTo_zero]; exact HI.out, TchF.refl _ _, fun q hq => .inl hq⟩
  case round =>
   obtain ⟨k, O', hk, rfl, hgo, hI', htc, hO'⟩ := hrel
   have HGO := Lib.hid hgo
   have HI2 := Lib.hid hI'
   have HO := Lib.hid hO'
   have htz := htc.size
   clear hgo hI' hO'
   by_cases hkl : k < s
   ·go_wp2_with fail
    refine (Clip_any _ hvl hv0 hvm).mono ?_
    rintro e _ ⟨rfl, rfl⟩
    have HVr : Hid (intsT.Rd wr [.slice va vals.length vals.length] vals) := ⟨fpv, HV.out.tch htc HFV.out⟩
    go_wp2_with (refine wpList_appFull _ rfl _ _ 38 2 rfl elInt rfl (HVr.out.below bA) rfl news1 (I64.small (by omega) (by omega)) (by omega) (by decide) ?_; intro u1 w1 hf1 hb1)
    obtain ⟨fp1, hr1, hnd1, hfb1, hun1⟩ := hf1
    have hb1' : Below wr.heap.size wr w1 := bthen bA hb1
    have HR1 := Lib.hid hr1
    have HFB1 : Hid (∀ q ∈ fp1, wr.heap.size ≤ q) := fun q hq => by have := hfb1 q hq; simp at this; omega
    have HLT := Lib.hid (HY.out.lt HI2.out)
    have hokO : ∀ q, ok q → q < w.heap.size ∧ q ∉ O' := fun q hq => ⟨(HOK.out q hq).1, fun hm => by
     rcases HO.out q hm with h | h
     ·exact (HOK.out q hq).2 h
     ·have := (HOK.out q hq).1; omega⟩
    have HOKO := Lib.hid hokO
    have HS1 : Hid (Sv ok w1 bs t vars due) := (HS.out.tch htc (fun q _ hq => (HOK.out q hq).2)).below hb1'
    clear hr1 hnd1 hfb1 hun1 hb1 hokO HVr
    have hl1 : (vals ++ [(k : Int)]).length = vals.length + 1 := by simp
    refine (goes_any _ HS1.out ⟨fp1, HR1.out⟩ HT.out HD.out (by omega) (by omega)).mono ?_
    rintro e w2 ⟨rfl, hb2⟩
    have hbw2 := bthen hb1' hb2
    have htc2 : TchF O w w2 := htc.then (Below.tchF hbw2 O) (fun q hq => .inl hq)
    have hz2 := hbw2.size
    have HI3 : Hid (I (tellL go told (solsTo s (goesB t due) m vals k)).1 O' w2) := HY.out.stable HI2.out hbw2
    clear htc HI2
    cases hg : goesB t due (vals ++ [(k : Int)])
    ·have HNO := Lib.hid (solsTo_no (s := s) (m := m) hg)
     clear hg
     go_wp2_with fail
     go_roundw
     case rel => exact ⟨k + 1, O', by omega, by go_num, by rw [HNO.out]; exact HGO.out, by rw [HNO.out]; exact HI3.out, htc2, HO.out⟩
     case measure => simp [intOf]; omega
    ·have HYES := Lib.hid (solsTo_yes (s := s) (m := m) hg)
     have HBK : Hid ((tellL go told (solsTo s (goesB t due) m vals k)).1.length + (solsL s (goesB t due) m (vals ++ [(k : Int)])).length ≤ 2000000) := by
      unfold Hid
      have h1 := HBD.out
      have h2 := tellL_len (go := go) (told := told) (xs := solsTo s (goesB t due) m vals k)
      obtain ⟨r, hr⟩ := solsTo_append (s := s) (m := m) (sure := goesB t due) (vals := vals) (k := k + 1) (j := s) (by omega)
      rw [hr, HYES.out, List.length_append, List.length_append] at h1
      omega
     have HAPP := Lib.hid (solsTo_append (s := s) (m := m) (sure := goesB t due) (vals := vals) (k := k + 1) (j := s) (by omega))
     clear hg
     go_wp2_with fail
     refine (HIH.out w2 u1 (vals ++ [(k : Int)]) fp1 _ O' (by omega) (HS1.out.below hb2) (fun q hq => ⟨by have := (HOKO.out q hq).1; omega, (HOKO.out q hq).2⟩) (HR1.out.below hb2) (fun q hq hm => by have := HFB1.out q hq; have := HLT.out q hm; omega) HI3.out HBK.out).mono ?_
     rintro e w3 ⟨rfl, O2, hI4, ht3, hO2⟩
     have HTL := Lib.hid (tellL_yes (ys := solsL s (goesB t due) m (vals ++ [(k : Int)])) HGO.out)
     rw [← HTL.out, ← HYES.out] at hI4
     rw [← HTL.out, ← HYES.out]
     have HI4 := Lib.hid hI4
     have htc3 : TchF O w w3 := htc2.then ht3 HO.out
     have HO2 : Hid (∀ q ∈ O2, q ∈ O ∨ w.heap.size ≤ q) := fun q hq => by
      rcases hO2 q hq with h | h
      ·exact HO.out q h
      ·exact .inr (by omega)
     clear hI4 ht3 hO2
     cases hret : (tellL go told (solsTo s (goesB t due) m vals (k + 1))).2
     ·have HRET := Lib.hid (tellL_stop hret HAPP.out)
      have HRF := Lib.hid hret
      clear hret
      go_wp2_with fail
      go_ret
      exact ⟨ret_bool (by rw [HRET.out, HRF.out]), O2, by rw [HRET.out]; exact HI4.out, htc3, HO2.out⟩
     ·have HRT := Lib.hid hret
      clear hret
      go_wp2_with fail
      go_roundw
      case rel => exact ⟨k + 1, O2, by omega, by go_num, HRT.out, HI4.out, htc3, HO2.out⟩
      case measure => simp [intOf]; omega
   ·obtain rfl : k = s := by omega
    go_wp2_with fail
    go_ret
    exact ⟨ret_bool HGO.out.symm, O', HI2.out, htc, HO.out⟩
end Go.Proofs.YtajmjfbejfiipaaGreat
namespace Go.Proofs.YtajmjfbejfiipaaGreat
open Go.RowKit
theorem slice_exP {α : Type} {E : Ty α} {ok : Nat → Prop} {w : World} {cs : List Value} {xs : List α} (h : (Ty.slice E).RdP ok w cs xs) :
  ∃ ad cap, cs = [.slice ad xs.length cap] ∧ xs.length ≤ cap ∧ xs.length ≤ 140737488351232 ∧
   (0 < xs.length → ∃ b o, ad = some ⟨b, o, none⟩ ∧ b < w.heap.size ∧ ok b ∧ ∀ i (h : i < xs.length), ∃ cs, E.RdP ok w cs xs[i] ∧ ∀ j (hj : j < cs.length), w.cell? ⟨b, o + i * E.sz + j, none⟩ = some cs[j]) := by
 obtain ⟨fp, ⟨ad, cap, rfl, h1, h2, h3⟩, hok⟩ := h
 refine ⟨ad, cap, rfl, h1, h2, fun hp => ?_⟩
 rcases h3 with h3 | ⟨h3, b, o, fps, rfl, hb, rfl, h4⟩
 ·omega
 ·exact ⟨b, o, rfl, hb, hok b (List.mem_cons_self ..), fun i hi => let ⟨cs, h5, h6⟩ := h4 i hi; ⟨cs, ⟨_, h5, fun k hk => hok k (List.mem_cons_of_mem _ (List.mem_flatMap.2 ⟨i, by simpa using hi, hk⟩))⟩, h6⟩⟩
/-- from its elements -/
theorem slice_mkP {α : Type} {E : Ty α} {ok : Nat → Prop} {w : World} {ad : Option Addr} {n cap : Nat} {xs : List α} (hn : n = xs.length) (h1 : n ≤ cap) (h2 : n ≤ capMax)
  (h : 0 < n → ∃ b o, ad = some ⟨b, o, none⟩ ∧ b < w.heap.size ∧ ok b ∧ ∀ i (h : i < xs.length), ∃ cs, E.RdP ok w cs xs[i] ∧ ∀ j (hj : j < cs.length), w.cell? ⟨b, o + i * E.sz + j, none⟩ = some cs[j]) :
  (Ty.slice E).RdP ok w [.slice ad n cap] xs := by
 subst hn
 rcases Nat.eq_zero_or_pos xs.length with h0 | h0
 ·exact ⟨[], ⟨ad, cap, rfl, h1, h2, .inl ⟨h0, rfl⟩⟩, fun k hk => by cases hk⟩
 ·obtain ⟨b, o, rfl, hb, hok, he⟩ := h h0
  have key : ∀ i, ∃ cf : List Value × List Nat, ∀ (h : i < xs.length), E.rd w cf.1 xs[i] cf.2 ∧ (∀ k ∈ cf.2, ok k) ∧ ∀ j (hj : j < cf.1.length), w.cell? ⟨b, o + i * E.sz + j, none⟩ = some cf.1[j] := fun i => by
   by_cases hi : i < xs.length
   ·obtain ⟨cs, ⟨fp, h3, h4⟩, h5⟩ := he i hi
    exact ⟨(cs, fp), fun _ => ⟨h3, h4, h5⟩⟩
   ·exact ⟨([], []), fun h => absurd h hi⟩
  obtain ⟨F, hF⟩ := Classical.axiomOfChoice key
  refine ⟨b :: (List.range xs.length).flatMap fun i => (F i).2, ⟨_, cap, rfl, h1, h2, .inr ⟨h0, b, o, fun i => (F i).2, rfl, hb, rfl, fun i hi => ⟨(F i).1, (hF i hi).1, (hF i hi).2.2⟩⟩⟩, fun k hk => ?_⟩
  rcases List.mem_cons.1 hk with rfl | hk
  ·exact hok
  ·obtain ⟨i, hi, hk⟩ := List.mem_flatMap.1 hk
   exact (hF i (by simpa using hi)).2.1 k hk
theorem rdP_slice {α : Type} {E : Ty α} {ok : Nat → Prop} {w : World} {u : Value} {x : List α} (h : (Ty.slice E).RdP ok w [u] x) : ∃ ad cap, u = .slice ad x.length cap := rd_slice h.rd
/-- a row of structs: its cells, with what their slices read as -/
theorem pairs_exP {ok : Nat → Prop} {w : World} {u : Value} {xs : List (Int × List Int)} (h : opsT.RdP ok w [u] xs) :
  ∃ ad cap, u = .slice ad xs.length cap ∧ xs.length ≤ cap ∧
   (0 < xs.length → ∃ b o, ad = some ⟨b, o, none⟩ ∧ b < w.heap.size ∧ ∀ i (h : i < xs.length), ∃ v, intsT.RdP ok w [v] xs[i].2 ∧ I64 xs[i].1 ∧
    w.cell? ⟨b, o + i * 2, none⟩ = some (.int .i64 xs[i].1) ∧ w.cell? ⟨b, o + i * 2 + 1, none⟩ = some v) := by
 obtain ⟨ad, cap, h1, h2, h3, h4⟩ := slice_exP h
 refine ⟨ad, cap, by simpa using h1, h2, fun hp => ?_⟩
 obtain ⟨b, o, h5, h6, _, h7⟩ := h4 hp
 refine ⟨b, o, h5, h6, fun i hi => ?_⟩
 obtain ⟨cs, ⟨fp, ⟨cs', rfl, hI, h8⟩, hf⟩, h10⟩ := h7 i hi
 obtain ⟨_, _, rfl, _⟩ := id h8
 exact ⟨_, ⟨_, h8, hf⟩, hI, by simpa [Ty.slice, Ty.cons] using h10 0 (by simp), by simpa [Ty.slice, Ty.cons] using h10 1 (by simp)⟩
/-- what a value of a row's cells reads as -/
def pvR (ok : Nat → Prop) (w : World) (z : (Int × List Int) × (Int × Value)) : Prop := z.2.1 = z.1.1 ∧ I64 z.1.1 ∧ intsT.RdP ok w [z.2.2] z.1.2
theorem pvR.below {ok : Nat → Prop} {w w' : World} {z : (Int × List Int) × (Int × Value)} (h : pvR ok w z) (hb : Below w.heap.size w w') : pvR ok w' z := ⟨h.1, h.2.1, h.2.2.below hb⟩
theorem pvR.mono {ok ok' : Nat → Prop} {w : World} {z : (Int × List Int) × (Int × Value)} (h : pvR ok w z) (hk : ∀ k, k < w.heap.size → ok k → ok' k) : pvR ok' w z := ⟨h.1, h.2.1, h.2.2.mono hk⟩
/-- the pairs of a row's data and its cells -/
theorem vals_of {ok : Nat → Prop} {w : World} {u : Value} {xs : List (Int × List Int)} (h : opsT.RdP ok w [u] xs) :
  ∃ Z : List ((Int × List Int) × (Int × Value)), Z.map (·.1) = xs ∧ (∀ z ∈ Z, pvR ok w z) ∧ Z.length = xs.length ∧
   ∃ ad cap, u = .slice ad xs.length cap ∧ (0 < xs.length → ∃ b o, ad = some ⟨b, o, none⟩ ∧ b < w.heap.size ∧ ∀ i (h : i < Z.length), w.cell? ⟨b, o + i * 2, none⟩ = some (.int .i64 (Z[i]).1.1) ∧ w.cell? ⟨b, o + i * 2 + 1, none⟩ = some (Z[i]).2.2) := by
 obtain ⟨ad, cap, rfl, -, hc⟩ := pairs_exP h
 rcases Nat.eq_zero_or_pos xs.length with h0 | h0
 ·refine ⟨[], ?_, fun z hz => (by cases hz), by simp [h0], ad, cap, rfl, fun h => by omega⟩
  rw [List.eq_nil_of_length_eq_zero h0]
  rfl
 ·obtain ⟨b, o, rfl, hb, hce⟩ := hc h0
  have key : ∀ i, ∃ v, ∀ (h : i < xs.length), intsT.RdP ok w [v] (xs[i]).2 ∧ I64 (xs[i]).1 ∧ w.cell? ⟨b, o + i * 2, none⟩ = some (.int .i64 (xs[i]).1) ∧ w.cell? ⟨b, o + i * 2 + 1, none⟩ = some v := fun i => by
   by_cases hi : i < xs.length
   ·obtain ⟨v, hv⟩ := hce i hi
    exact ⟨v, fun _ => hv⟩
   ·exact ⟨undef, fun h => absurd h hi⟩
  obtain ⟨F, hF⟩ := Classical.axiomOfChoice key
  have hl : ((List.range xs.length).map fun i => (xs.getD i (0, []), ((xs.getD i (0, [])).1, F i))).length = xs.length := by simp
  have hg : ∀ i (h : i < ((List.range xs.length).map fun i => (xs.getD i (0, []), ((xs.getD i (0, [])).1, F i))).length) (h' : i < xs.length), ((List.range xs.length).map fun i => (xs.getD i (0, []), ((xs.getD i (0, [])).1, F i)))[i] = (xs[i], ((xs[i]).1, F i)) := fun i h h' => by
   simp [List.getD_eq_getElem?_getD, h']
  refine ⟨(List.range xs.length).map fun i => (xs.getD i (0, []), ((xs.getD i (0, [])).1, F i)), ?_, fun z hz => ?_, hl, _, cap, rfl, fun _ => ⟨b, o, rfl, hb, fun i h => ?_⟩⟩
  ·apply List.ext_getElem (by simp)
   intro i h h'
   rw [List.getElem_map, hg i (by simpa using h') h']
  ·obtain ⟨i, hi, rfl⟩ := List.mem_iff_getElem.1 hz
   have h' : i < xs.length := by simpa using hi
   rw [hg i hi h']
   exact ⟨rfl, (hF i h').2.1, (hF i h').1⟩
  ·have h' : i < xs.length := by simpa using h
   rw [hg i h h']
   exact ⟨(hF i h').2.2.1, (hF i h').2.2.2⟩
/-- a row of these cells reads as the data do -/
theorem ops_of {ok : Nat → Prop} {w : World} {v : Value} {Z : List ((Int × List Int) × (Int × Value))} (h : (Ty.slice pvT).RdP ok w [v] (Z.map (·.2))) (hr : ∀ z ∈ Z, pvR ok w z) : opsT.RdP ok w [v] (Z.map (·.1)) := by
 obtain ⟨ad, cap, hv, h1, h2, h3⟩ := slice_exP h
 obtain rfl : v = _ := by simpa using hv
 have h1' : Z.length ≤ cap := by simpa using h1
 have h2' : Z.length ≤ capMax := by unfold capMax; simpa using h2
 have h3' : 0 < Z.length → _ := fun h => h3 (by simpa using h)
 refine slice_mkP (by simp) h1' h2' fun h0 => ?_
 obtain ⟨b, o, rfl, hb, hok, he⟩ := h3' h0
 refine ⟨b, o, rfl, hb, hok, fun i hi => ?_⟩
 rw [List.length_map] at hi
 obtain ⟨cs, ⟨fp, ⟨cs', rfl, _, rfl, _, _⟩, hf⟩, h6⟩ := he i (by simpa using hi)
 obtain ⟨e1, e2, fq, e3, e4⟩ := hr _ (List.getElem_mem hi)
 simp only [List.getElem_map] at h6 ⊢
 exact ⟨_, ⟨fq, ⟨_, by rw [e1], e2, e3⟩, e4⟩, h6⟩
theorem Bl.ge {α : Type} {E : Ty α} {e base top : Nat} {w : World} {v : Value} {ys : List α} (h : Bl E e base top w v ys) {g : Nat} (hg : v.ownBlock = some g) : base ≤ g := by
 obtain ⟨L, fps, h1, _⟩ := h
 exact (h1.lt g hg).1
theorem Bl.lt_top {α : Type} {E : Ty α} {e base top : Nat} {w : World} {v : Value} {ys : List α} (h : Bl E e base top w v ys) {g : Nat} (hg : v.ownBlock = some g) : g < top := by
 obtain ⟨L, fps, _, _, _, _, h5, _⟩ := h
 exact h5 g hg
theorem grown_cell' {w w' : World} {row : Option Nat} {b i : Nat} (h : w.grownBy w' row) (hlt : b < w.heap.size) (hne : row ≠ some b) : w'.cell? ⟨b, i, none⟩ = w.cell? ⟨b, i, none⟩ := World.cell?_of_block (h.block b hlt fun e => hne e.symm)
/-- a datum that does not lie in one block -/
def Ty.off {α : Type} (E : Ty α) (bx : Nat) : Ty α where
 sz := E.sz
 rd := fun w cs x fp => E.rd w cs x fp ∧ bx ∉ fp
 len := fun h => E.len h.1
 same := fun h hs => ⟨E.same h.1 hs, h.2⟩
 lt := fun h => E.lt h.1
 one := fun h => E.one h.1
theorem fr_off {α : Type} {E : Ty α} {bx base : Nat} {w : World} {cs : List Value} {x : α} (h : E.Fr base w cs x) (hb : bx < base) : (E.off bx).Fr base w cs x :=
 let ⟨fp, h1, h2, h3, h4⟩ := h; ⟨fp, ⟨h1, fun hm => by have := h3 bx hm; omega⟩, h2, h3, h4⟩
theorem off_fr {α : Type} {E : Ty α} {bx base : Nat} {w : World} {cs : List Value} {x : List α} (h : (Ty.slice (E.off bx)).Fr base w cs x) : (Ty.slice E).Fr base w cs x := by
 obtain ⟨fp, ⟨ad, cap, h1, h2, h3, h4⟩, h5⟩ := h
 refine ⟨fp, ⟨ad, cap, h1, h2, h3, ?_⟩, h5⟩
 rcases h4 with h4 | ⟨h4, b, o, fps, e1, e2, e3, e4⟩
 ·exact .inl h4
 ·exact .inr ⟨h4, b, o, fps, e1, e2, e3, fun i hi => let ⟨cs, h6, h7⟩ := e4 i hi; ⟨cs, h6.1, h7⟩⟩
theorem off_same {α : Type} {E : Ty α} {bx e base top : Nat} {w w' : World} {v : Value} {ys : List α} (h : Bl (E.off bx) e base top w v ys) (hv : v.ownBlock ≠ some bx) (hs : ∀ k, k ≠ bx → w'.heap[k]? = w.heap[k]?) : Bl (E.off bx) e base top w' v ys := by
 obtain ⟨L, fps, h1, h2, h3, h4, h5, h6⟩ := h
 have hne : ∀ b ∈ flat fps ys.length, b ≠ bx := by
  intro b hb he
  obtain ⟨i, hi, hb⟩ := List.mem_flatMap.1 hb
  obtain ⟨cs, h7, _⟩ := h2 i (by simpa using hi)
  rw [he] at hb
  exact h7.2 hb
 have hS : Same (flat fps ys.length) w w' := fun k hk => hs k (hne k hk)
 refine ⟨L, fps, ⟨h1.1, ?_⟩, fun i hi => ?_, h3, h4, h5, h6.same hS⟩
 ·rcases h1.2 with h | ⟨g, cap, cur, rfl, hg, hh, r⟩
  ·exact .inl h
  ·exact .inr ⟨g, cap, cur, rfl, hg, by rw [hs g (fun e => hv (by rw [e]; rfl))]; exact hh, r⟩
 ·obtain ⟨cs, h7, h8⟩ := h2 i hi
  exact ⟨cs, (E.off bx).same h7 (fun k hk => hS k (List.mem_flatMap.2 ⟨i, by simpa using hi, hk⟩)), h8⟩
theorem pv_same {e base top top' : Nat} {w w' : World} {v : Value} {ys : List (Int × Value)} (h : Bl pvT e base top w v ys) (hs : ∀ b, v.ownBlock = some b → w'.heap[b]? = w.heap[b]?) (ht : top ≤ top') : Bl pvT e base top' w' v ys := by
 obtain ⟨L, fps, h1, h2, h3, h4, h5, h6⟩ := h
 have hnil : ∀ b, b ∉ flat fps ys.length := by
  intro b hb
  obtain ⟨i, hi, hb⟩ := List.mem_flatMap.1 hb
  obtain ⟨cs, ⟨cs', _, _, _, _, hf⟩, _⟩ := h2 i (by simpa using hi)
  rw [hf] at hb
  cases hb
 refine ⟨L, fps, ⟨h1.1, ?_⟩, fun i hi => ?_, h3, fun b hb => absurd hb (hnil b), fun g hg => Nat.lt_of_lt_of_le (h5 g hg) ht, fun b hb => absurd hb (hnil b)⟩
 ·rcases h1.2 with h | ⟨g, cap, cur, rfl, hg, hh, r⟩
  ·exact .inl h
  ·exact .inr ⟨g, cap, cur, rfl, hg, by rw [hs g rfl]; exact hh, r⟩
 ·obtain ⟨cs, h7, h8⟩ := h2 i hi
  exact ⟨cs, h7, h8⟩
/-- a row of n rows at block g: its cells are us; each is a row of the call's own, from base on, and no two share a block -/
def DU (eA eR base top : Nat) (w : World) (g n : Nat) (us : Nat → Value) (Ls : Nat → List (Int × Value)) : Prop :=
 w.ownsRow g eR 1 (.slice (some ⟨g, 0, none⟩) n n) n ((List.range n).map us) ∧ g < base ∧ (∀ v, v < n → Bl pvT eA base top w (us v) (Ls v)) ∧ ∀ v, v < n → ∀ b, (us v).ownBlock = some b → ∀ v', v' < n → v' ≠ v → (us v').ownBlock ≠ some b
section
variable {eA eR base top g n : Nat} {w w' : World} {us : Nat → Value} {Ls : Nat → List (Int × Value)}
theorem owns_same {b e sz : Nat} {g n cap : Nat} {xs : List Value} (h : w.ownsRow b e sz (.slice (some ⟨g, 0, none⟩) n cap) n xs) (hs : w'.heap[g]? = w.heap[g]?) : w'.ownsRow b e sz (.slice (some ⟨g, 0, none⟩) n cap) n xs := by
 refine ⟨h.1, ?_⟩
 rcases h.2 with h | ⟨g', cap, cur, hg', hg, hh, r⟩
 ·exact .inl h
 ·simp only [Value.slice.injEq, Option.some.injEq, Addr.mk.injEq, and_true, true_and] at hg'
  obtain ⟨rfl, rfl⟩ := hg'
  exact .inr ⟨g, _, cur, rfl, hg, by rw [hs]; exact hh, r⟩
theorem DU.nils {eA' base' top' : Nat} (h : DU eA eR base top w g n (fun _ => .slice none 0 0) (fun _ => [])) (hb : g < base') (hs : w'.heap[g]? = w.heap[g]?) : DU eA' eR base' top' w' g n (fun _ => .slice none 0 0) (fun _ => []) :=
 ⟨owns_same h.1 hs, hb, fun v _ => Bl.nil, fun v _ b hb => by simp [Value.ownBlock] at hb⟩
theorem DU.lt (h : DU eA eR base top w g n us Ls) : g < w.heap.size := (h.1.lt g rfl).2
theorem DU.cell (h : DU eA eR base top w g n us Ls) {j : Nat} (hj : j < n) : w.cell? ⟨g, j, none⟩ = some (us j) := by
 rw [World.ownsRow.cellAt h.1 j (by omega)]
 simp [hj]
theorem DU.free (h : DU eA eR base top w g n us Ls) (j : Nat) : w.frozen? ⟨g, j, none⟩ = false := World.ownsRow.frozenAt h.1 j
theorem DU.below {B : Nat} (h : DU eA eR base top w g n us Ls) (hb : Below B w w') (ht : top ≤ B) (hB : base ≤ B) : DU eA eR base top w' g n us Ls :=
 ⟨owns_same h.1 (hb.block g (by have := h.2.1; omega)), h.2.1, fun v hv => (h.2.2.1 v hv).below hb ht, h.2.2.2⟩
theorem DU.mono {top' : Nat} (h : DU eA eR base top w g n us Ls) (ht : top ≤ top') : DU eA eR base top' w g n us Ls := ⟨h.1, h.2.1, fun v hv => (h.2.2.1 v hv).mono ht, h.2.2.2⟩
theorem DU.push {l : Nat} {v1 : Value} {y : Int × Value} (h : DU eA eR base top w g n us Ls) (hl : l < n) (hB : Bl pvT eA base w'.heap.size w' v1 (Ls l ++ [y])) (hg : w.grownBy w' (us l).ownBlock) (hv : v1.ownBlock = (us l).ownBlock ∨ v1.ownBlock = some w.heap.size) (ht : top ≤ w.heap.size) :
  DU eA eR base w'.heap.size (w'.setCell ⟨g, l, none⟩ v1) g n (fun v => if v = l then v1 else us v) (fun v => if v = l then Ls l ++ [y] else Ls v) := by
 obtain ⟨h1, h2, h3, h4⟩ := h
 have hbl : (us l).ownBlock ≠ some g := fun e => by have := (h3 l hl).ge e; omega
 have hgl := (h1.lt g rfl).2
 have hg' : w'.heap[g]? = w.heap[g]? := hg.block g hgl (fun e => hbl e.symm)
 have hset : ∀ b, b ≠ g → (w'.setCell ⟨g, l, none⟩ v1).heap[b]? = w'.heap[b]? := fun b hb => Below.heap_setCell w' ⟨g, l, none⟩ v1 b hb
 refine ⟨?_, h2, fun v hv' => ?_, fun v hv' b hb v' hv2 hne => ?_⟩
 ·have h5 := ((owns_same h1 hg').stored l v1).1
  have e : ((List.range n).map us).set l v1 = (List.range n).map (fun v => if v = l then v1 else us v) := by
   apply List.ext_getElem (by simp)
   intro i hi hi'
   rw [List.getElem_set]
   simp only [List.getElem_map, List.getElem_range]
   by_cases e : l = i
   ·subst e; simp
   ·rw [if_neg e, if_neg (fun h => e h.symm)]
  rw [← e]
  exact h5
 ·by_cases e : v = l
  ·subst e
   simp only [if_pos]
   exact pv_same hB (fun b hb => hset b (by have := hB.ge hb; omega)) (Nat.le_refl _)
  ·simp only [if_neg e]
   refine pv_same (h3 v hv') (fun b hb => ?_) (Nat.le_trans ht hg.size)
   have hbl := (h3 v hv').ge hb
   have hbt : b < w.heap.size := by
    obtain ⟨L, fps, _, _, _, _, h5, _⟩ := h3 v hv'
    exact Nat.lt_of_lt_of_le (h5 b hb) ht
   rw [hset b (by omega)]
   exact hg.block b hbt (fun he => h4 v hv' b hb l hl (fun h => e h.symm) he.symm)
 ·have hbt : ∀ u b, u < n → (us u).ownBlock = some b → b < w.heap.size := fun u b hu hb => by
   obtain ⟨L, fps, _, _, _, _, h5, _⟩ := h3 u hu
   exact Nat.lt_of_lt_of_le (h5 b hb) ht
  by_cases e : v = l
  ·subst e
   simp only [if_pos] at hb
   simp only [if_neg hne]
   rcases hv with hv | hv
   ·rw [hv] at hb; exact h4 v hv' b hb v' hv2 hne
   ·rw [hv] at hb
    intro he
    have := hbt v' b hv2 he
    simp at hb
    omega
  ·simp only [if_neg e] at hb
   by_cases e' : v' = l
   ·subst e'
    simp only [if_pos]
    rcases hv with hv | hv
    ·rw [hv]; exact h4 v hv' b hb v' hv2 hne
    ·rw [hv]
     intro he
     have := hbt v b hv' hb
     simp at he
     omega
   ·simp only [if_neg e']
    exact h4 v hv' b hb v' hv2 hne
end
/-- what it reads as -/
theorem dues_of {eA eR base top g n : Nat} {w : World} {us : Nat → Value} {ok : Nat → Prop} {Zs : Nat → List ((Int × List Int) × (Int × Value))} (h : DU eA eR base top w g n us (fun v => (Zs v).map (·.2))) (hn : n ≤ capMax) (hl : ∀ v, v < n → (Zs v).length ≤ capMax)
  (hr : ∀ v, v < n → ∀ z ∈ Zs v, pvR ok w z) (hg : ok g) (hb : ∀ k, base ≤ k → k < w.heap.size → ok k) : duesT.RdP ok w [.slice (some ⟨g, 0, none⟩) n n] ((List.range n).map fun v => (Zs v).map (·.1)) := by
 refine slice_mkP (by simp) (Nat.le_refl _) hn fun _ => ⟨g, 0, rfl, h.lt, hg, fun i hi => ?_⟩
 have hi' : i < n := by simpa using hi
 refine ⟨[us i], ?_, fun j hj => ?_⟩
 ·rw [List.getElem_map, List.getElem_range]
  obtain ⟨fp, h1, -, h3, -⟩ := (h.2.2.1 i hi').fr (by rw [List.length_map]; exact hl i hi')
  exact ops_of ⟨fp, h1, fun k hk => hb k (h3 k hk) (Ty.lt _ h1 k hk)⟩ (hr i hi')
 ·obtain rfl : j = 0 := by simpa using hj
  have := h.cell hi'
  simpa [Ty.slice] using this
/-- a make of n rows, in a region -/
theorem step_mkN {P : Program} {K : Act → World → Prop} {Ee : Prop} (w : World) {ops : Array Oper} {o : Oper} {a : Act} {Q : Exit → Act → World → Prop} (hg : o.guard = none) (l c : Operand) (t e : TypeId) {bytes : Nat}
  (hop : o.op = Op.makeSlice t l c) (ht : P.underlying t = some (.slice e)) (hinfo : (P.info? e).map (fun i => (i.zero, i.size, i.bytes)) = some (some (.slice none 0 0), 1, bytes)) (n : Nat) (hl : a.eval l = .int .i64 (n : Int)) (hc : a.eval c = .int .i64 (n : Int)) (hn : n ≤ 1000000000) (hby : bytes ≤ 100000)
  (hK : ∀ w', (∀ eA base top, w.heap.size < base → DU eA e base top w' w.heap.size n (fun _ => .slice none 0 0) (fun _ => [])) → Below w.heap.size w w' → w'.heap.size = w.heap.size + 1 → K (a.put o.dst (.slice (some ⟨w.heap.size, 0, none⟩) n n)) w') :
  if Region.wanted o (yielded ops a.tmps) = true then Oper.wp P o a w K Q else Ee := by
 rw [if_pos (by simp [Region.wanted, hg])]
 obtain ⟨i, hi, hz, hsz, hbt'⟩ := info_parts hinfo
 have hlen' : bytes * n ≤ 281474976710656 := Nat.le_trans (Nat.mul_le_mul hby hn) (by decide)
 have hb48 : (i.bytes : Int) * (n : Int) ≤ 281474976710656 := by
  have h : ((bytes * n : Nat) : Int) ≤ 281474976710656 := by omega
  rw [hbt']
  rwa [Int.natCast_mul] at h
 have hr := run_make (P := P) w t e i (.slice none 0 0) ht hi hz .i64 .i64 (n : Int) (n : Int) (by omega) (Int.le_refl _) hb48 (by omega)
 simp only [Int.toNat_natCast] at hr
 unfold Oper.wp
 simp only [execOp, hop, hl, hc, hr, Result.andThen_ok, Sem.run_bind, Sem.run_pure]
 have hown := World.ownsRow_lit (base := w.heap.size) (e := e) (size := 1) w (madeCells (Value.slice none 0 0).cells (n * i.size)) n (Nat.le_refl _) (by unfold maxLen; omega) (by rw [size_madeCells, hsz])
 have e1 : (madeCells (Value.slice none 0 0).cells (n * i.size)).toList = (List.range n).map (fun _ => Value.slice none 0 0) := by
  rw [hsz, Nat.mul_one]
  have hc0 : (Value.slice none 0 0).cells = #[.slice none 0 0] := by simp [Value.cells]
  rw [hc0, toList_madeCells_one, List.map_const', List.length_range]
 rw [e1] at hown
 exact hK _ (fun eA base top hb => ⟨hown, hb, fun v _ => Bl.nil, fun v _ b hb => by simp [Value.ownBlock] at hb⟩) ((Below.refl _ w).alloc (Nat.le_refl _) _) (by simp)
end Go.Proofs.YtajmjfbejfiipaaGreat
