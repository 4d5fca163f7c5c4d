/-
  Memory of a search for operations: blocks that may be written, as a property; rows whose data lie in such blocks; a row cut short; rows of truth values; pointers to sets. No program is named here.
-/
import Derived.Test.YtepebfpgmnidnaaSv2
import Derived.Test.YtepebfpgmnidnaaK27
namespace Go.Proofs.Ytepebfpgmnidnaa
open Go.RowKit
/-- only blocks of which O holds are written, and new ones -/
structure TchP (O : Nat → Prop) (w w' : World) : Prop where
  os : w'.os = w.os
  tape : w'.tape = w.tape
  output : w'.output = w.output
  size : w.heap.size ≤ w'.heap.size
  block : ∀ k, k < w.heap.size → ¬ O k → w'.heap[k]? = w.heap[k]?
section
variable {O O' : Nat → Prop} {w w' w'' : World}
theorem TchP.refl (O : Nat → Prop) (w : World) : TchP O w w := ⟨rfl, rfl, rfl, Nat.le_refl _, fun _ _ _ => rfl⟩
theorem TchP.of_below (h : Below w.heap.size w w') (O : Nat → Prop) : TchP O w w' := ⟨h.os, h.tape, h.output, h.size, fun k hk _ => h.block k hk⟩
theorem TchP.then (h : TchP O w w') (h' : TchP O' w' w'') (hO : ∀ k, k < w.heap.size → O' k → O k) : TchP O w w'' :=
  ⟨h'.os.trans h.os, h'.tape.trans h.tape, h'.output.trans h.output, Nat.le_trans h.size h'.size, fun k hk hn => (h'.block k (Nat.lt_of_lt_of_le hk h.size) fun hm => hn (hO k hk hm)).trans (h.block k hk hn)⟩
theorem TchP.mono (h : TchP O w w') (hO : ∀ k, k < w.heap.size → O k → O' k) : TchP O' w w' := ⟨h.os, h.tape, h.output, h.size, fun k hk hn => h.block k hk fun hm => hn (hO k hk hm)⟩
theorem TchP.below {B : Nat} (h : TchP O w w') (hB : B ≤ w.heap.size) (hO : ∀ k, k < B → ¬ O k) : Below B w w' := ⟨h.os, h.tape, h.output, h.size, fun k hk => h.block k (Nat.lt_of_lt_of_le hk hB) (hO k hk)⟩
theorem TchP.cell (h : TchP O w w') {b i : Nat} (hb : b < w.heap.size) (hn : ¬ O b) : w'.cell? ⟨b, i, none⟩ = w.cell? ⟨b, i, none⟩ := World.cell?_of_block (a := ⟨b, i, none⟩) (h.block b hb hn)
theorem TchP.frozen (h : TchP O w w') {b i : Nat} (hb : b < w.heap.size) (hn : ¬ O b) : w'.frozen? ⟨b, i, none⟩ = w.frozen? ⟨b, i, none⟩ := World.frozen?_of_block (a := ⟨b, i, none⟩) (h.block b hb hn)
theorem TchP.set {b i : Nat} {v : Value} (hO : O b) : TchP O w (w.setCell ⟨b, i, none⟩ v) := ⟨rfl, rfl, rfl, by simp [World.setCell], fun k _ hn => Below.heap_setCell _ _ _ _ fun e => hn (by simp at e; rw [e]; exact hO)⟩
theorem TchP.grown {row : Option Nat} (h : w.grownBy w' row) (hO : ∀ k, row = some k → O k) : TchP O w w' := ⟨h.os, h.tape, h.output, h.size, fun k hk hn => h.block k hk fun e => hn (hO k e.symm)⟩
theorem Ty.RdP.tchP {α : Type} {E : Ty α} {ok : Nat → Prop} {cs : List Value} {x : α} (h : E.RdP ok w cs x) (ht : TchP O w w') (hO : ∀ k, k < w.heap.size → ok k → ¬ O k) : E.RdP ok w' cs x :=
  let ⟨fp, h, hf⟩ := h; ⟨fp, E.same h (fun k hk => ht.block k (E.lt h k hk) (hO k (E.lt h k hk) (hf k hk))), hf⟩
theorem pvR.tchP {ok : Nat → Prop} {z : (Int × List Int) × (Int × Value)} (h : pvR ok w z) (ht : TchP O w w') (hO : ∀ k, k < w.heap.size → ok k → ¬ O k) : pvR ok w' z := ⟨h.1, h.2.1, h.2.2.tchP ht hO⟩
end
/-- a datum that lies in blocks of which O holds -/
def Ty.on {α : Type} (E : Ty α) (O : Nat → Prop) : Ty α where
  sz := E.sz
  rd := fun w cs x fp => E.rd w cs x fp ∧ ∀ k ∈ fp, O k
  len := fun h => E.len h.1
  same := fun h hs => ⟨E.same h.1 hs, h.2⟩
  lt := fun h => E.lt h.1
  one := fun h => E.one h.1
section
variable {α : Type} {E : Ty α} {O O' : Nat → Prop} {e base top : Nat} {w w' : World} {v : Value} {ys : List α}
theorem fr_on {cs : List Value} {x : α} (h : E.Fr base w cs x) (hO : ∀ k, base ≤ k → k < w.heap.size → O k) : (E.on O).Fr base w cs x :=
  let ⟨fp, h1, h2, h3, h4⟩ := h; ⟨fp, ⟨h1, fun k hk => hO k (h3 k hk) (E.lt h1 k hk)⟩, h2, h3, h4⟩
theorem on_fr1 {cs : List Value} {x : α} (h : (E.on O).Fr base w cs x) : E.Fr base w cs x := let ⟨fp, h1, h2⟩ := h; ⟨fp, h1.1, h2⟩
theorem on_fr {cs : List Value} {x : List α} (h : (Ty.slice (E.on O)).Fr base w cs x) : (Ty.slice E).Fr base w cs x := by
  obtain ⟨fp, ⟨ad, cap, h1, h2, h3, h4⟩, h5⟩ := h
  refine ⟨fp, ⟨ad, cap, h1, h2, h3, ?_⟩, h5⟩
  rcases h4 with h4 | ⟨h4, b, o, fps, e1, e2, e3, e4⟩
  · exact .inl h4
  · exact .inr ⟨h4, b, o, fps, e1, e2, e3, fun i hi => let ⟨cs, h6, h7⟩ := e4 i hi; ⟨cs, h6.1, h7⟩⟩
theorem on_same (h : Bl (E.on O) e base top w v ys) (hv : ∀ g, v.ownBlock = some g → O g) (hs : ∀ k, k < w.heap.size → O k → w'.heap[k]? = w.heap[k]?) : Bl (E.on O) e base top w' v ys := by
  obtain ⟨L, fps, h1, h2, h3, h4, h5, h6⟩ := h
  have hS : Same (flat fps ys.length) w w' := fun k hk => by
    obtain ⟨i, hi, hk⟩ := List.mem_flatMap.1 hk
    obtain ⟨cs, h7, _⟩ := h2 i (by simpa using hi)
    exact hs k (E.lt h7.1 k hk) (h7.2 k hk)
  refine ⟨L, fps, ⟨h1.1, ?_⟩, fun i hi => ?_, h3, h4, h5, h6.same hS⟩
  · rcases h1.2 with h | ⟨g, cap, cur, rfl, hg, hh, r⟩
    · exact .inl h
    · exact .inr ⟨g, cap, cur, rfl, hg, by rw [hs g (lt_of_block hh) (hv g rfl)]; exact hh, r⟩
  · obtain ⟨cs, h7, h8⟩ := h2 i hi
    exact ⟨cs, (E.on O).same h7 (fun k hk => hS k (List.mem_flatMap.2 ⟨i, by simpa using hi, hk⟩)), h8⟩
theorem on_mono (h : Bl (E.on O) e base top w v ys) (hO : ∀ k, O k → O' k) : Bl (E.on O') e base top w v ys := by
  obtain ⟨L, fps, h1, h2, h3⟩ := h
  exact ⟨L, fps, h1, fun i hi => let ⟨cs, h7, h8⟩ := h2 i hi; ⟨cs, ⟨h7.1, fun k hk => hO k (h7.2 k hk)⟩, h8⟩, h3⟩
/-- a row of numbers: all that it hangs on is its own block -/
theorem bl_int_same {top' : Nat} {ys : List Int} (h : Bl Ty.int e base top w v ys) (hs : ∀ b, v.ownBlock = some b → w'.heap[b]? = w.heap[b]?) (ht : top ≤ top') : Bl Ty.int e base top' w' v ys := by
  obtain ⟨L, fps, h1, h2, h3, h4, h5, h6⟩ := h
  have hnil : ∀ b, b ∉ flat fps ys.length := by
    intro b hb
    obtain ⟨i, hi, hb⟩ := List.mem_flatMap.1 hb
    obtain ⟨cs, ⟨_, _, hf⟩, _⟩ := h2 i (by simpa using hi)
    rw [hf] at hb
    cases hb
  refine ⟨L, fps, ⟨h1.1, ?_⟩, fun i hi => ?_, h3, fun b hb => absurd hb (hnil b), fun g hg => Nat.lt_of_lt_of_le (h5 g hg) ht, fun b hb => absurd hb (hnil b)⟩
  · rcases h1.2 with h | ⟨g, cap, cur, rfl, hg, hh, r⟩
    · exact .inl h
    · exact .inr ⟨g, cap, cur, rfl, hg, by rw [hs g rfl]; exact hh, r⟩
  · obtain ⟨cs, h7, h8⟩ := h2 i hi
    exact ⟨cs, h7, h8⟩
/-- a row of values as they are -/
theorem bl_val_same {top' : Nat} {ys : List Value} (h : Bl Ty.val e base top w v ys) (hs : ∀ b, v.ownBlock = some b → w'.heap[b]? = w.heap[b]?) (ht : top ≤ top') : Bl Ty.val e base top' w' v ys := by
  obtain ⟨L, fps, h1, h2, h3, h4, h5, h6⟩ := h
  have hnil : ∀ b, b ∉ flat fps ys.length := by
    intro b hb
    obtain ⟨i, hi, hb⟩ := List.mem_flatMap.1 hb
    obtain ⟨cs, ⟨_, _, hf⟩, _⟩ := h2 i (by simpa using hi)
    rw [hf] at hb
    cases hb
  refine ⟨L, fps, ⟨h1.1, ?_⟩, fun i hi => ?_, h3, fun b hb => absurd hb (hnil b), fun g hg => Nat.lt_of_lt_of_le (h5 g hg) ht, fun b hb => absurd hb (hnil b)⟩
  · rcases h1.2 with h | ⟨g, cap, cur, rfl, hg, hh, r⟩
    · exact .inl h
    · exact .inr ⟨g, cap, cur, rfl, hg, by rw [hs g rfl]; exact hh, r⟩
  · obtain ⟨cs, h7, h8⟩ := h2 i hi
    exact ⟨cs, h7, h8⟩
/-- cut by its last number -/
theorem bl_cut {ad : Option Addr} {n cap : Nat} {xs : List Int} {a : Int} (h : Bl Ty.int e base top w (.slice ad n cap) (xs ++ [a])) : Bl Ty.int e base top w (.slice ad xs.length cap) xs ∧ xs.length + 1 ≤ cap ∧ n = xs.length + 1 ∧ ∃ g, ad = some ⟨g, 0, none⟩ := by
  obtain ⟨L, fps, h1, h2, h3, h4, h5, h6⟩ := h
  have hl : (xs ++ [a]).length = xs.length + 1 := by simp
  have hnil : ∀ b, b ∉ flat fps (xs ++ [a]).length := by
    intro b hb
    obtain ⟨i, hi, hb⟩ := List.mem_flatMap.1 hb
    obtain ⟨cs, ⟨_, _, hf⟩, _⟩ := h2 i (by simpa using hi)
    rw [hf] at hb
    cases hb
  have hsub : ∀ b, b ∈ flat fps xs.length → False := fun b hb => by
    obtain ⟨i, hi, hb⟩ := List.mem_flatMap.1 hb
    exact hnil b (List.mem_flatMap.2 ⟨i, by simp at hi ⊢; omega, hb⟩)
  rcases h1.2 with ⟨_, h0⟩ | ⟨g, cap', cur, hv, hg, hh, hn, hc, hcs, hL⟩
  · omega
  · simp only [Value.slice.injEq] at hv
    obtain ⟨rfl, rfl, rfl⟩ := hv
    rw [hl] at hn
    refine ⟨⟨L.take xs.length, fps, ⟨?_, .inr ⟨g, _, cur, rfl, hg, hh, by omega, hc, hcs, ?_⟩⟩, fun i hi => ?_, ?_, fun b hb => (hsub b hb).elim, fun g' hg' => h5 g' hg', fun b hb => (hsub b hb).elim⟩, hn, hl, g, rfl⟩
    · rw [List.length_take, h1.1, hl]
      simp [Ty.int]
    · rw [← hL, List.take_take, hl]
      congr 1
      first | (simp [Ty.int]; done) | (simp [Ty.int]; omega)
    · obtain ⟨cs, h7, h8⟩ := h2 i (by omega)
      rw [List.getElem_append_left hi] at h7
      refine ⟨cs, h7, fun j hj => ?_⟩
      have h9 := h8 j hj
      have hcl : cs.length = 1 := Ty.int.len h7
      rw [List.getElem?_take_of_lt (by simp [Ty.int]; omega)]
      exact h9
    · have : flat fps xs.length = [] := List.eq_nil_iff_forall_not_mem.2 fun b hb => hsub b hb
      rw [this]
      exact List.nodup_nil
end
abbrev boolsT : Ty (List Bool) := Ty.slice Ty.bool
theorem BR.rdP {e base : Nat} {w : World} {g n cap : Nat} {L : List Bool} {ok : Nat → Prop} (h : BR e base w g n cap L) (hl : n ≤ capMax) (hg : ok g) : boolsT.RdP ok w [.slice (some ⟨g, 0, none⟩) n cap] L := by
  obtain ⟨h1, h2, h3⟩ := id h
  subst h1
  have hlt := h.lt
  have hcap : L.length ≤ cap := by
    rcases h3.2 with ⟨h', _⟩ | ⟨g', cap', cur, hg', hbg, hh, hn, r⟩
    · simp at h'
    · simp only [Value.slice.injEq, Option.some.injEq, Addr.mk.injEq, and_true, true_and] at hg'
      omega
  refine slice_mkP rfl hcap hl fun h0 => ⟨g, 0, rfl, hlt, hg, fun i hi => ⟨[.bool L[i]], ⟨[], ⟨rfl, rfl⟩, fun k hk => by cases hk⟩, fun j hj => ?_⟩⟩
  obtain rfl : j = 0 := by simpa using hj
  have := h.cell hi
  simpa [Ty.bool] using this
theorem bools_exP {ok : Nat → Prop} {w : World} {u : Value} {xs : List Bool} (h : boolsT.RdP ok w [u] xs) :
    ∃ ad cap, u = .slice ad xs.length cap ∧ xs.length ≤ cap ∧ (0 < xs.length → ∃ b o, ad = some ⟨b, o, none⟩ ∧ b < w.heap.size ∧ ∀ i (h : i < xs.length), w.cell? ⟨b, o + i, none⟩ = some (.bool xs[i])) := by
  obtain ⟨ad, cap, h1, h2, h3, h4⟩ := slice_exP h
  refine ⟨ad, cap, by simpa using h1, h2, fun hp => ?_⟩
  obtain ⟨b, o, h5, h6, _, h7⟩ := h4 hp
  refine ⟨b, o, h5, h6, fun i hi => ?_⟩
  obtain ⟨cs, ⟨fp, ⟨rfl, _⟩, _⟩, h10⟩ := h7 i hi
  simpa [Ty.bool] using h10 0 (by simp)
/-- a row of values as they are, each of which reads as a datum of one cell -/
theorem rows_ofP {α : Type} {E : Ty α} {ok : Nat → Prop} {w : World} {v : Value} {vs : List Value} {ts : List α} (hE : E.sz = 1) (h : (Ty.slice Ty.val).RdP ok w [v] vs) (hl : vs.length = ts.length) (hr : ∀ i (h : i < vs.length) (h' : i < ts.length), E.RdP ok w [vs[i]] ts[i]) : (Ty.slice E).RdP ok w [v] ts := by
  obtain ⟨ad, cap, hv, h1, h2, h3⟩ := slice_exP h
  obtain rfl : v = _ := by simpa using hv
  refine slice_mkP hl h1 h2 fun h0 => ?_
  obtain ⟨b, o, rfl, hb, hok, he⟩ := h3 h0
  refine ⟨b, o, rfl, hb, hok, fun i hi => ?_⟩
  obtain ⟨cs, ⟨fp, ⟨rfl, _, _⟩, hf⟩, h6⟩ := he i (by omega)
  refine ⟨_, hr i (by omega) hi, fun j hj => ?_⟩
  have h7 := h6 j hj
  rw [hE]
  exact h7
theorem bl_val_rdP {e base top : Nat} {w : World} {v : Value} {vs : List Value} {ok : Nat → Prop} (h : Bl Ty.val e base top w v vs) (hl : vs.length ≤ capMax) (hv : ∀ g, v.ownBlock = some g → ok g) : (Ty.slice Ty.val).RdP ok w [v] vs := by
  obtain ⟨fp, h1, -, -, -⟩ := h.fr hl
  refine ⟨fp, h1, fun k hk => ?_⟩
  obtain ⟨ad, cap, hv', -, -, h3⟩ := h1
  obtain rfl : v = _ := by simpa using hv'
  rcases h3 with ⟨_, rfl⟩ | ⟨_, b, o, fps, rfl, _, rfl, h4⟩
  · cases hk
  · rcases List.mem_cons.1 hk with rfl | hk
    · exact hv _ rfl
    · obtain ⟨i, hi, hk⟩ := List.mem_flatMap.1 hk
      obtain ⟨cs, ⟨_, _, hf⟩, _⟩ := h4 i (by simpa using hi)
      rw [hf] at hk
      cases hk
/-- a pointer to a box whose third cell is a row of truth values -/
def Ty.setp : Ty (List Bool) where
  sz := 1
  rd := fun w cs L fp => ∃ bx v fp', cs = [.pointer (some ⟨bx, 0, none⟩)] ∧ bx < w.heap.size ∧ w.cell? ⟨bx, 2, none⟩ = some v ∧ boolsT.rd w [v] L fp' ∧ fp = bx :: fp'
  len := by rintro _ _ _ _ ⟨_, _, _, rfl, _⟩; rfl
  same := by
    rintro w w' _ L _ ⟨bx, v, fp', rfl, h1, h2, h3, rfl⟩ hs
    have hb := hs bx (List.mem_cons_self ..)
    refine ⟨bx, v, fp', rfl, ?_, (World.cell?_of_block (a := ⟨bx, 2, none⟩) hb).trans h2, boolsT.same h3 (fun k hk => hs k (List.mem_cons_of_mem _ hk)), rfl⟩
    rcases Nat.lt_or_ge bx w'.heap.size with h' | h'
    · exact h'
    · rw [Array.getElem?_eq_none h', Array.getElem?_eq_getElem h1] at hb
      cases hb
  lt := by
    rintro w _ L _ ⟨bx, v, fp', rfl, h1, h2, h3, rfl⟩ k hk
    rcases List.mem_cons.1 hk with rfl | hk
    · exact h1
    · exact boolsT.lt h3 k hk
  one := by rintro _ _ _ _ ⟨_, _, _, rfl, _⟩ u hu; simp at hu; subst hu; rfl
theorem setp_exP {ok : Nat → Prop} {w : World} {u : Value} {L : List Bool} (h : Ty.setp.RdP ok w [u] L) : ∃ bx v, u = .pointer (some ⟨bx, 0, none⟩) ∧ bx < w.heap.size ∧ w.cell? ⟨bx, 2, none⟩ = some v ∧ boolsT.RdP ok w [v] L := by
  obtain ⟨_, ⟨bx, v, fp', hu, h1, h2, h3, rfl⟩, hf⟩ := h
  exact ⟨bx, v, by simpa using hu, h1, h2, fp', h3, fun k hk => hf k (List.mem_cons_of_mem _ hk)⟩
theorem setp_of {e base : Nat} {w : World} {bx g n : Nat} {L : List Bool} {ok : Nat → Prop} (h : SetAt e base w bx g n L) (hl : n ≤ capMax) (hb : ok bx) (hg : ok g) : Ty.setp.RdP ok w [.pointer (some ⟨bx, 0, none⟩)] L := by
  obtain ⟨h1, h2, h3, h4, h5⟩ := h
  obtain ⟨fp, hfp, hf⟩ := h5.rdP hl hg
  exact ⟨_, ⟨bx, _, fp, rfl, h2, h4, hfp, rfl⟩, fun k hk => by
    rcases List.mem_cons.1 hk with rfl | hk
    · exact hb
    · exact hf k hk⟩
end Go.Proofs.Ytepebfpgmnidnaa
