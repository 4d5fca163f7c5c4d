/-
  Readings that avoid some blocks; a search's own data; what a listener keeps and touches; an append to a full row. No program is named here.
-/
import Derived.Test.YtepebfpgmnidnaaMark
import Derived.Test.YtepebfpgmnidnaaAlias
import Derived.Test.YtepebfpgmnidnaaS1
namespace Go.Proofs.Ytepebfpgmnidnaa
open Go.RowKit
/-- read in blocks for which something is so -/
def Ty.RdP {α : Type} (E : Ty α) (ok : Nat → Prop) (w : World) (cs : List Value) (x : α) : Prop := ∃ fp, E.rd w cs x fp ∧ ∀ k ∈ fp, ok k
section
variable {α : Type} {E : Ty α} {ok ok' : Nat → Prop} {w w' : World} {cs : List Value} {x : α}
theorem Ty.RdP.rd (h : E.RdP ok w cs x) : E.Rd w cs x := let ⟨fp, h, _⟩ := h; ⟨fp, h⟩
theorem Ty.RdP.mono (h : E.RdP ok w cs x) (hk : ∀ k, k < w.heap.size → ok k → ok' k) : E.RdP ok' w cs x := let ⟨fp, h, hf⟩ := h; ⟨fp, h, fun k hk' => hk k (E.lt h k hk') (hf k hk')⟩
theorem Ty.Rd.P (h : E.Rd w cs x) : E.RdP (fun k => k < w.heap.size) w cs x := let ⟨fp, h⟩ := h; ⟨fp, h, E.lt h⟩
theorem Ty.RdP.tch {O : List Nat} (h : E.RdP ok w cs x) (ht : TchF O w w') (hO : ∀ k, k < w.heap.size → ok k → k ∉ O) : E.RdP ok w' cs x :=
  let ⟨fp, h, hf⟩ := h; ⟨fp, E.same h (ht.same fun k hk => ⟨E.lt h k hk, hO k (E.lt h k hk) (hf k hk)⟩), hf⟩
theorem Ty.RdP.below (h : E.RdP ok w cs x) (hb : Below w.heap.size w w') : E.RdP ok w' cs x := h.tch (O := []) (Below.tchF hb []) (fun _ _ _ => List.not_mem_nil)
theorem Ty.rd.below {fp : List Nat} (h : E.rd w cs x fp) (hb : Below w.heap.size w w') : E.rd w' cs x fp := E.same h (Same.below hb (E.lt h))
theorem Ty.rd.tch {fp O : List Nat} (h : E.rd w cs x fp) (ht : TchF O w w') (hO : ∀ k ∈ fp, k ∉ O) : E.rd w' cs x fp := E.same h (ht.same fun k hk => ⟨E.lt h k hk, hO k hk⟩)
end
theorem TchF.then {O O' : List Nat} {a b c : World} (h : TchF O a b) (h' : TchF O' b c) (hO : ∀ k ∈ O', k ∈ O ∨ a.heap.size ≤ k) : TchF O a c :=
  ⟨h'.os.trans h.os, h'.tape.trans h.tape, h'.output.trans h.output, Nat.le_trans h.size h'.size, fun k hk hn => (h'.block k (Nat.lt_of_lt_of_le hk h.size) fun hm => by
    rcases hO k hm with hm | hm
    · exact hn hm
    · omega).trans (h.block k hk hn)⟩
theorem TchF.below {O : List Nat} {a b : World} {B : Nat} (h : TchF O a b) (hB : B ≤ a.heap.size) (hO : ∀ k ∈ O, B ≤ k) : Below B a b :=
  ⟨h.os, h.tape, h.output, h.size, fun k hk => h.block k (Nat.lt_of_lt_of_le hk hB) fun hm => Nat.not_lt.2 (hO k hm) hk⟩
abbrev duesT : Ty (List (List (Int × List Int))) := Ty.slice opsT
/-- a search's data, at block bs: the template, how many variables, the atoms that are due at each -/
def Sv (ok : Nat → Prop) (w : World) (bs : Nat) (t : Int × List (Int × List (List Int))) (vars : Int) (due : List (List (Int × List Int))) : Prop :=
  bs < w.heap.size ∧ ok bs ∧ ∃ v1 v3, w.cell? ⟨bs, 0, none⟩ = some (.int .i64 t.1) ∧ w.cell? ⟨bs, 1, none⟩ = some v1 ∧ w.cell? ⟨bs, 2, none⟩ = some (.int .i64 vars) ∧ w.cell? ⟨bs, 3, none⟩ = some v3 ∧ tplT.RdP ok w [.int .i64 t.1, v1] t ∧ duesT.RdP ok w [v3] due
section
variable {ok ok' : Nat → Prop} {w w' : World} {bs : Nat} {t : Int × List (Int × List (List Int))} {vars : Int} {due : List (List (Int × List Int))}
theorem Sv.tch {O : List Nat} (h : Sv ok w bs t vars due) (ht : TchF O w w') (hO : ∀ k, k < w.heap.size → ok k → k ∉ O) : Sv ok w' bs t vars due := by
  obtain ⟨h1, h2, v1, v3, c0, c1, c2, c3, h3, h4⟩ := h
  have hn := hO bs h1 h2
  exact ⟨Nat.lt_of_lt_of_le h1 ht.size, h2, v1, v3, (ht.cell h1 hn).trans c0, (ht.cell h1 hn).trans c1, (ht.cell h1 hn).trans c2, (ht.cell h1 hn).trans c3, h3.tch ht hO, h4.tch ht hO⟩
theorem Sv.below (h : Sv ok w bs t vars due) (hb : Below w.heap.size w w') : Sv ok w' bs t vars due := h.tch (O := []) (Below.tchF hb []) (fun _ _ _ => List.not_mem_nil)
theorem Sv.mono (h : Sv ok w bs t vars due) (hk : ∀ k, k < w.heap.size → ok k → ok' k) : Sv ok' w bs t vars due := by
  obtain ⟨h1, h2, v1, v3, c0, c1, c2, c3, h3, h4⟩ := h
  exact ⟨h1, hk _ h1 h2, v1, v3, c0, c1, c2, c3, h3.mono hk, h4.mono hk⟩
end
/-- a listener of lists of values: what it keeps (I), and the blocks that it may write (O) -/
structure Yl (P : Program) (g : FuncId) (caps : Array Value) (go : List (List Int) → Bool) (I : List (List Int) → List Nat → World → Prop) : Prop where
  stable : ∀ {told O w w'}, I told O w → Below w.heap.size w w' → I told O w'
  lt : ∀ {told O w}, I told O w → ∀ k ∈ O, k < w.heap.size
  step : ∀ {told O w0 w u x}, I told O w0 → Below w0.heap.size w0 w → intsT.Fr w0.heap.size w [u] x → x.length ≤ 10 → told.length ≤ 2000000 →
    Calls P g (#[u] ++ caps) w fun e w' => e = .returned (.bool (go (told ++ [x]))) ∧ ∃ O', I (told ++ [x]) O' w' ∧ TchF O w w' ∧ ∀ k ∈ O', k ∈ O ∨ w0.heap.size ≤ k
theorem tellL_len {go : List (List Int) → Bool} : ∀ {xs told : List (List Int)}, (tellL go told xs).1.length ≤ told.length + xs.length
  | [], told => by simp [tellL]
  | x :: r, told => by
    simp only [tellL]
    by_cases hg : go (told ++ [x]) = true
    · rw [if_pos hg]
      have := tellL_len (go := go) (xs := r) (told := told ++ [x])
      simp at this ⊢
      omega
    · rw [if_neg hg]
      simp
theorem flatN (n : Nat) : flat (fun _ => []) n = [] := List.eq_nil_iff_forall_not_mem.2 fun x hx => by obtain ⟨_, _, h⟩ := List.mem_flatMap.1 hx; cases h
/-- an append of a number to a row that is full -/
theorem wpList_appFull {P : Program} (w : World) {ops : Array Oper} {rest : List Oper} {o : Oper} {a : Act} {Q : Exit → Act → World → Prop} (hgd : o.guard = none) (s x : Operand) (t e : TypeId) {bytes : Nat}
    (ho : o.op = .call { callee := .builtin .append, args := #[s, x], argTypes := #[t, t] }) (hT : ElT P t e 1 bytes)
    {ad : Option Addr} {n : Nat} {xs : List Int} (hs : a.eval s = .slice ad n n) (hR : intsT.Rd w [.slice ad n n] xs)
    {ad2 : Addr} {c : Nat} {k : Int} (hx : a.eval x = .slice (some ad2) 1 c) (hnews : ∀ j u, [Value.int .i64 k][j]? = some u → w.cell? (ad2.add j) = some u) (hI : I64 k)
    (hlen : n ≤ 1000000) (hby : bytes ≤ 100000)
    (h : ∀ v' w', intsT.Fr w.heap.size w' [v'] (xs ++ [k]) → Below w.heap.size w w' → wpList P ops Q rest (a.put o.dst v') w') : wpList P ops Q (o :: rest) a w := by
  obtain ⟨i, z, ht, hi, hz, hsz, hbt', hzs, hp⟩ := id hT
  obtain ⟨ad', cap', hv, -, hcl, hcell⟩ := ints_ex hR
  obtain ⟨rfl, rfl, rfl⟩ : ad = ad' ∧ n = xs.length ∧ n = cap' := by simpa using hv
  have hlen' : (xs.length + 1) * bytes ≤ 140737488355328 := Nat.le_trans (Nat.mul_le_mul (show xs.length + 1 ≤ 1000000001 by omega) hby) (by decide)
  have hIx : ∀ q (hq : q < xs.length), I64 xs[q] := fun q hq => by
    obtain ⟨b, o, _, _, h5⟩ := hcell (by omega)
    exact (h5 q hq).1
  have key : ∃ v' w', (Builtin.append_ #[t, t] o.type #[.slice ad xs.length xs.length, .slice (some ad2) 1 c]).run P w = .ok v' w' ∧ w'.ownsRow w.heap.size e 1 v' (xs.length + 1) ((xs ++ [k]).map (Value.int .i64)) ∧ Below w.heap.size w w' := by
    have hfit : Builtin.nextslicecap (xs.length + 1) xs.length * i.bytes ≤ 281474976710656 := growslice_fits (by omega) (by rw [hbt']; exact hlen')
    have grown : ∀ old : Nat, (w.drew.alloc (.cells ((xs.map (Value.int .i64)).toArray ++ [Value.int .i64 k].toArray ++ Builtin.zeroCells z.cells (grownCap w (xs.length + 1) old e - (xs.length + 1))) e)).ownsRow w.heap.size e 1
        (.slice (some ⟨w.heap.size, 0, none⟩) (xs.length + 1) (grownCap w (xs.length + 1) old e)) (xs.length + 1) ((xs ++ [k]).map (Value.int .i64)) := by
      intro old
      have hge := grownCap_ge w (xs.length + 1) old e
      refine ⟨by simp, .inr ⟨w.heap.size, _, _, rfl, Nat.le_refl _, heap_alloc_new w.drew _, hge, grownCap_le_maxLen w (xs.length + 1) old e (by unfold maxLen; omega), ?_, ?_⟩⟩
      · simp only [Array.size_append, List.size_toArray, size_zeroCells, hzs, List.length_map, List.length_singleton]
        omega
      · rw [show xs.length + 1 = ((xs.map (Value.int .i64)) ++ [Value.int .i64 k]).length * 1 by simp, Nat.mul_one]
        simp only [Array.toList_append, List.map_append, List.map_cons, List.map_nil, Nat.mul_one]
        exact List.take_left
    have hbel : ∀ ob : Obj, Below w.heap.size w (w.drew.alloc ob) := fun ob => (Below.refl _ w).drew.alloc (by simp) _
    rcases ad with _ | b
    · have h0 : xs.length = 0 := by
        rcases Nat.eq_zero_or_pos xs.length with h0 | h0
        · exact h0
        · obtain ⟨b, o, hb, _⟩ := hcell h0
          cases hb
      obtain rfl : xs = [] := List.eq_nil_of_length_eq_zero h0
      have hr := run_append_nil (P := P) w t o.type e i z ht hi hz ad2 1 c [Value.int .i64 k] (by rw [hsz]; rfl) hnews (by omega) (by omega) (by rw [hbt']; simp only [List.length_nil, Nat.zero_add] at hlen'; omega)
      have hg := grown 0
      refine ⟨_, _, hr, ?_, hbel _⟩
      simpa using hg
    · have holds : ∀ (j : Nat) (v : Value), (xs.map (Value.int .i64))[j]? = some v → w.cell? (b.add j) = some v := by
        intro j u hj
        rw [List.getElem?_map] at hj
        by_cases hjl : j < xs.length
        · rw [List.getElem?_eq_getElem hjl] at hj
          simp only [Option.map_some, Option.some.injEq] at hj
          subst hj
          obtain ⟨b', o', hb, _, h5⟩ := hcell (by omega)
          obtain rfl : b = _ := by simpa using hb
          have := (h5 j hjl).2
          by_cases hj0 : j = 0
          · subst hj0
            simpa [Addr.add] using this
          · simpa [Addr.add, hj0] using this
        · rw [List.getElem?_eq_none (by omega)] at hj
          simp at hj
      have hr := run_append_grow (P := P) w t o.type e i z ht hi hz b xs.length xs.length (xs.map (Value.int .i64)) (by rw [hsz]; simp) holds ad2 1 c [Value.int .i64 k] (by rw [hsz]; rfl) hnews (by omega) (by omega) hfit
      exact ⟨_, _, hr, grown xs.length, hbel _⟩
  obtain ⟨v', w', hr, hown, hb⟩ := key
  have hFr : intsT.Fr w.heap.size w' [v'] (xs ++ [k]) := by
    refine Bl.fr (E := Ty.int) (e := e) (top := w'.heap.size) ⟨(xs ++ [k]).map (Value.int .i64), fun _ => [], by simpa [Ty.int] using hown, fun j hj => ⟨[.int .i64 (xs ++ [k])[j]], ⟨rfl, ?_, rfl⟩, fun q hq => ?_⟩, by rw [flatN]; exact List.nodup_nil, by rw [flatN]; simp, fun g hg => (hown.lt g hg).2, fun b hb => by rw [flatN] at hb; cases hb⟩ (by rw [List.length_append]; unfold capMax; simp only [List.length_singleton]; omega)
    · by_cases hj' : j < xs.length
      · rw [List.getElem_append_left hj']; exact hIx j hj'
      · rw [List.getElem_append_right (by omega)]; simpa using hI
    · obtain rfl : q = 0 := by simpa using hq
      simp only [Ty.int, Nat.mul_one, Nat.add_zero, List.getElem?_map, List.getElem?_eq_getElem hj]
      rfl
  refine wpList_plain hgd fun K hK => ?_
  unfold Oper.wp execOp
  simp only [ho, resolve, invoke, builtin, Sem.run_bind, Sem.run_pure, Result.andThen_ok, List.map_toArray, List.map_cons, List.map_nil, hs, hx, hr]
  exact hK _ _ (h v' w' hFr hb)
end Go.Proofs.Ytepebfpgmnidnaa
