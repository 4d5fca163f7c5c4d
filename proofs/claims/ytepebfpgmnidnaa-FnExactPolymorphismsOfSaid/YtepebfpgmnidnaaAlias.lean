/-
  Rows whose elements point into older memory of the call's own: they read as new data. No program is named here.
-/
import Derived.Test.YtepebfpgmnidnaaMem
namespace Go.Proofs.Ytepebfpgmnidnaa
open Go.RowKit
/-- a value as it is: for rows whose elements point into older memory -/
def Ty.val : Ty Value where
  sz := 1
  rd := fun _ cs x fp => cs = [x] ∧ x.oneCell' = true ∧ fp = []
  len := by rintro _ _ _ _ ⟨rfl, _, _⟩; rfl
  same := fun h _ => h
  lt := by rintro _ _ _ _ ⟨rfl, _, rfl⟩ k hk; cases hk
  one := by rintro _ _ _ _ ⟨rfl, h, _⟩ u hu; simp at hu; subst hu; exact h
theorem fr_val {base : Nat} {w : World} {x : Value} (h : x.oneCell' = true) : Ty.val.Fr base w [x] x := ⟨[], ⟨rfl, h, rfl⟩, List.nodup_nil, by simp, fun b hb => by cases hb⟩
/-- a number and a value -/
abbrev pvT : Ty (Int × Value) := Ty.cons Ty.val
theorem fr_pv {base : Nat} {w : World} {n : Int} {x : Value} (hn : I64 n) (h : x.oneCell' = true) : pvT.Fr base w [.int .i64 n, x] (n, x) := ⟨[], ⟨[x], rfl, hn, rfl, h, rfl⟩, List.nodup_nil, by simp, fun b hb => by cases hb⟩
/-- the cells of a row of structs, as they stand -/
theorem rd_vals {w : World} {u : Value} {xs : List (Int × List Int)} (h : opsT.Rd w [u] xs) :
    ∃ VS : List (Int × Value), VS.length = xs.length ∧ (∀ i (h : i < VS.length) (h' : i < xs.length), (VS[i]).1 = (xs[i]).1 ∧ I64 (VS[i]).1 ∧ intsT.Rd w [(VS[i]).2] (xs[i]).2) ∧
      ∃ ad cap, u = .slice ad xs.length cap ∧ (0 < xs.length → ∃ b o, ad = some ⟨b, o, none⟩ ∧ b < w.heap.size ∧ ∀ i (h : i < VS.length), w.cell? ⟨b, o + i * 2, none⟩ = some (.int .i64 (VS[i]).1) ∧ w.cell? ⟨b, o + i * 2 + 1, none⟩ = some (VS[i]).2) := by
  obtain ⟨ad, cap, hu, -, -, hc⟩ := pairs_ex h
  obtain rfl : u = _ := by simpa using hu
  rcases Nat.eq_zero_or_pos xs.length with h0 | h0
  · refine ⟨[], by simp [h0], fun i h => by simp at h, ad, cap, rfl, fun h => by omega⟩
  · obtain ⟨b, o, rfl, hb, hce⟩ := hc h0
    have key : ∀ i, ∃ v, ∀ (h : i < xs.length), intsT.Rd w [v] (xs[i]).2 ∧ I64 (xs[i]).1 ∧ w.cell? ⟨b, o + i * 2, none⟩ = some (.int .i64 (xs[i]).1) ∧ w.cell? ⟨b, o + i * 2 + 1, none⟩ = some v := fun i => by
      by_cases hi : i < xs.length
      · obtain ⟨v, hv⟩ := hce i hi
        exact ⟨v, fun _ => hv⟩
      · exact ⟨undef, fun h => absurd h hi⟩
    obtain ⟨F, hF⟩ := Classical.axiomOfChoice key
    refine ⟨(List.range xs.length).map fun i => ((xs.getD i (0, [])).1, F i), by simp, fun i h h' => ?_, _, cap, rfl, fun _ => ⟨b, o, rfl, hb, fun i h => ?_⟩⟩
    · obtain ⟨g1, g2, -, -⟩ := hF i h'
      simp [List.getD_eq_getElem?_getD, h', g1, g2]
    · have h' : i < xs.length := by simpa using h
      obtain ⟨-, -, g3, g4⟩ := hF i h'
      simp [List.getD_eq_getElem?_getD, h', g3, g4]
/-- a row of these values reads as the data do -/
theorem ops_of_vals {w : World} {v : Value} {VS : List (Int × Value)} {xs : List (Int × List Int)} (h : (Ty.slice pvT).Rd w [v] VS) (hl : VS.length = xs.length)
    (hr : ∀ i (h : i < VS.length) (h' : i < xs.length), (VS[i]).1 = (xs[i]).1 ∧ I64 (VS[i]).1 ∧ intsT.Rd w [(VS[i]).2] (xs[i]).2) : opsT.Rd w [v] xs := by
  obtain ⟨fp, ad, cap, hv, h1, h2, h3⟩ := h
  obtain rfl : v = _ := by simpa using hv
  rcases h3 with ⟨h3, _⟩ | ⟨h3, b, o, fps, rfl, hb, _, h4⟩
  · exact ⟨[], ad, cap, by rw [hl], by omega, by omega, .inl ⟨by omega, rfl⟩⟩
  · have hch : ∀ i, ∃ fp, (h : i < xs.length) → intsT.rd w [(VS[i]'(by omega)).2] (xs[i]).2 fp := fun i => by
      by_cases hi : i < xs.length
      · obtain ⟨fp, hfp⟩ := (hr i (by omega) hi).2.2
        exact ⟨fp, fun _ => hfp⟩
      · exact ⟨[], fun h => absurd h hi⟩
    refine ⟨_, some ⟨b, o, none⟩, cap, by rw [hl], by omega, by omega, .inr ⟨by omega, b, o, fun i => (hch i).choose, rfl, hb, rfl, fun i hi => ?_⟩⟩
    obtain ⟨cs, ⟨cs', rfl, _, rfl, _, _⟩, h6⟩ := h4 i (by omega)
    obtain ⟨e1, e2, -⟩ := hr i (by omega) hi
    exact ⟨_, ⟨_, by rw [← e1], by rw [← e1]; exact e2, (hch i).choose_spec hi⟩, h6⟩
/-- new data whose slices now also stand in a newer row: this row is new data, too -/
theorem fr_vals {base : Nat} {w : World} {u : Value} {xs : List (Int × List Int)} (h : opsT.Fr base w [u] xs) :
    ∃ VS : List (Int × Value), VS.length = xs.length ∧ (∀ i (h : i < VS.length) (h' : i < xs.length), (VS[i]).1 = (xs[i]).1 ∧ I64 (VS[i]).1 ∧ ∃ a n c, (VS[i]).2 = .slice a n c) ∧
      (∃ ad cap, u = .slice ad xs.length cap ∧ (0 < xs.length → ∃ b o, ad = some ⟨b, o, none⟩ ∧ b < w.heap.size ∧ base ≤ b ∧ ∀ i (h : i < VS.length), w.cell? ⟨b, o + i * 2, none⟩ = some (.int .i64 (VS[i]).1) ∧ w.cell? ⟨b, o + i * 2 + 1, none⟩ = some (VS[i]).2)) ∧
      ∀ w' v, (∀ k, base ≤ k → k < w.heap.size → w'.heap[k]? = w.heap[k]?) → (Ty.slice pvT).Fr w.heap.size w' [v] VS → base ≤ w.heap.size → opsT.Fr base w' [v] xs := by
  obtain ⟨fp, hrd, hnd, hbs, hun⟩ := h
  have hlt := Ty.lt _ hrd
  obtain ⟨ad, cap, hu, h1, h2, h3⟩ := hrd
  obtain rfl : u = _ := by simpa using hu
  rcases h3 with ⟨h0, rfl⟩ | ⟨h0, b, o, fps, rfl, hb, rfl, h4⟩
  · refine ⟨[], by simp [h0], fun i h => by simp at h, ⟨ad, cap, rfl, fun h => by omega⟩, fun w' v _ hf _ => ?_⟩
    obtain ⟨a', c', rfl⟩ := fr_slice hf
    obtain rfl := List.eq_nil_of_length_eq_zero h0
    exact fr_nil
  · have key : ∀ i, ∃ v, ∀ (h : i < xs.length), intsT.rd w [v] (xs[i]).2 (fps i) ∧ I64 (xs[i]).1 ∧ (∃ a n c, v = .slice a n c) ∧ w.cell? ⟨b, o + i * 2, none⟩ = some (.int .i64 (xs[i]).1) ∧ w.cell? ⟨b, o + i * 2 + 1, none⟩ = some v := fun i => by
      by_cases hi : i < xs.length
      · obtain ⟨cs, ⟨cs', rfl, hI, hr⟩, hc⟩ := h4 i hi
        obtain ⟨a', c', rfl, _⟩ := id hr
        exact ⟨_, fun _ => ⟨hr, hI, ⟨_, _, _, rfl⟩, by simpa [Ty.slice, Ty.cons] using hc 0 (by simp), by simpa [Ty.slice, Ty.cons] using hc 1 (by simp)⟩⟩
      · exact ⟨undef, fun h => absurd h hi⟩
    obtain ⟨F, hF⟩ := Classical.axiomOfChoice key
    have hVl : ((List.range xs.length).map fun i => ((xs.getD i (0, [])).1, F i)).length = xs.length := by simp
    have hVg : ∀ i (h : i < ((List.range xs.length).map fun i => ((xs.getD i (0, [])).1, F i)).length) (h' : i < xs.length), ((List.range xs.length).map fun i => ((xs.getD i (0, [])).1, F i))[i] = ((xs[i]).1, F i) := fun i h h' => by
      simp [List.getD_eq_getElem?_getD, h']
    refine ⟨(List.range xs.length).map fun i => ((xs.getD i (0, [])).1, F i), hVl, fun i h h' => ?_, ⟨_, cap, rfl, fun _ => ⟨b, o, rfl, hb, hbs b (List.mem_cons_self ..), fun i h => ?_⟩⟩, fun w' v hbe hf hbw => ?_⟩
    · obtain ⟨-, g2, g3, -, -⟩ := hF i h'
      rw [hVg i h h']
      exact ⟨rfl, g2, g3⟩
    · have h' : i < xs.length := by simpa using h
      obtain ⟨-, -, -, g3, g4⟩ := hF i h'
      rw [hVg i h h']
      exact ⟨g3, g4⟩
    · obtain ⟨fpv, ⟨ad', cap', hv, k1, k2, k3⟩, hnd', hbs', hun'⟩ := hf
      obtain rfl : v = _ := by simpa using hv
      rcases k3 with ⟨k0, _⟩ | ⟨k0, g, o', fps', rfl, hg, rfl, k4⟩
      · rw [hVl] at k0; omega
      · have hge : w.heap.size ≤ g := hbs' g (List.mem_cons_self ..)
        have hS : Same (b :: (List.range xs.length).flatMap fps) w w' := fun k hk => hbe k (hbs k hk) (hlt k hk)
        have hS2 : ∀ i, i < xs.length → Same (fps i) w w' := fun i hi k hk => hS k (List.mem_cons_of_mem _ (List.mem_flatMap.2 ⟨i, by simpa using hi, hk⟩))
        refine ⟨g :: (List.range xs.length).flatMap fps, ⟨some ⟨g, o', none⟩, cap', rfl, by rw [← hVl]; exact k1, by rw [← hVl]; exact k2, .inr ⟨h0, g, o', fps, rfl, hg, rfl, fun i hi => ?_⟩⟩, ?_, ?_, ?_⟩
        · obtain ⟨cs, ⟨cs', rfl, _, rfl, _, _⟩, h6⟩ := k4 i (by rw [hVl]; exact hi)
          obtain ⟨g1, g2, -, -, -⟩ := hF i hi
          have e := hVg i (by rw [hVl]; exact hi) hi
          refine ⟨_, ⟨_, by rw [e], g2, ?_⟩, h6⟩
          exact Ty.same _ g1 (hS2 i hi)
        · refine List.nodup_cons.2 ⟨fun hm => ?_, (List.nodup_cons.1 hnd).2⟩
          have := hlt g (List.mem_cons_of_mem _ hm)
          omega
        · intro k hk
          rcases List.mem_cons.1 hk with rfl | hk
          · omega
          · exact hbs k (List.mem_cons_of_mem _ hk)
        · intro k hk q
          rcases List.mem_cons.1 hk with rfl | hk
          · exact hun' k (List.mem_cons_self ..) q
          · exact (hun.same hS) k (List.mem_cons_of_mem _ hk) q
end Go.Proofs.Ytepebfpgmnidnaa
