/-
  Contracts: a copy of a list by append, the limits of formulas; the law of an append of many numbers.
-/
import Derived.Test.YtepebfpgmnidnaaK16
namespace Go.Proofs.Ytepebfpgmnidnaa
open Go.RowKit Go.Sort
theorem flat_nil (n : Nat) : flat (fun _ => []) n = [] := List.eq_nil_iff_forall_not_mem.2 fun x hx => by obtain ⟨_, _, h⟩ := List.mem_flatMap.1 hx; cases h
theorem wpList_appI {P : Program} (w : World) {ops : Array Oper} {rest : List Oper} {o : Oper} {a : Act} {Q : Exit → Act → World → Prop} (hgd : o.guard = none) (s x : Operand) (t e : TypeId) {bytes : Nat}
    (ho : o.op = .call { callee := .builtin .append, args := #[s, x], argTypes := #[t, t] }) (hT : ElT P t e 1 bytes)
    {base top : Nat} {v : Value} {ys : List Int} (hs : a.eval s = v) (hB : Bl Ty.int e base top w v ys)
    {u : Value} {xs : List Int} (hx : a.eval x = u) (hr : intsT.Rd w [u] xs) (h0 : 0 < xs.length)
    (hlen : ys.length + xs.length ≤ 1000000000) (hby : bytes ≤ 100000) (hbt : base ≤ top) (htop : top ≤ w.heap.size)
    (h : ∀ v' w', Bl Ty.int e base w'.heap.size w' v' (ys ++ xs) → w.grownBy w' v.ownBlock → (v'.ownBlock = v.ownBlock ∨ v'.ownBlock = some w.heap.size) → wpList P ops Q rest (a.put o.dst v') w') : wpList P ops Q (o :: rest) a w := by
  obtain ⟨L, fps, g1, g2, g3, g4, g5, g6⟩ := hB
  obtain ⟨ad', cap', hu, hl, hc, hcell⟩ := ints_ex hr
  obtain ⟨b, o', rfl, hb, hce⟩ := hcell h0
  obtain rfl : u = .slice (some ⟨b, o', none⟩) xs.length cap' := by simpa using hu
  obtain ⟨i, z, ht, hi, hz, hsz, hbt', hzs, hp⟩ := id hT
  have hnews : ∀ (j : Nat) (u : Value), (xs.map (Value.int .i64))[j]? = some u → w.cell? ((⟨b, o', none⟩ : Addr).add j) = some u := by
    intro j u hj
    rw [List.getElem?_map] at hj
    by_cases hjl : j < xs.length
    · rw [List.getElem?_eq_getElem hjl] at hj
      simp only [Option.map_some, Option.some.injEq] at hj
      subst hj
      have := (hce j hjl).2
      by_cases hj0 : j = 0
      · subst hj0
        simpa [Addr.add] using this
      · simpa [Addr.add, hj0] using this
    · rw [List.getElem?_eq_none (by omega)] at hj
      simp at hj
  have hone : ∀ u ∈ xs.map (Value.int .i64), u.oneCell' = true := by
    intro u hu
    obtain ⟨n, _, rfl⟩ := List.mem_map.1 hu
    rfl
  have hnl : (xs.map (Value.int .i64)).length = xs.length * 1 := by simp
  have hlen' : (ys.length + xs.length) * bytes ≤ 140737488355328 := Nat.le_trans (Nat.mul_le_mul hlen hby) (by decide)
  have hbase : base ≤ w.heap.size := Nat.le_trans hbt htop
  have hLl : L.length = ys.length := by have := g1.1; simpa [Ty.int] using this
  refine wpList_plain hgd fun K hK => ?_
  obtain ⟨v', w', hr', h2, h3, h4⟩ := run_append_own (P := P) w base t o.type e i z 1 bytes ht hi hz hsz hbt' hzs hp v ys.length L g1 ⟨b, o', none⟩ xs.length cap' _ hnl hnews hone (by unfold maxLen; omega) hlen' hbase
  have hblk := run_push_block w base t o.type e hT v ys.length L g1 ⟨b, o', none⟩ xs.length cap' _ hnl hnews hone (by unfold maxLen; omega) hlen' h0 v' w' hr'
  have hBl : Bl Ty.int e base w'.heap.size w' v' (ys ++ xs) := by
    refine ⟨L ++ xs.map (Value.int .i64), fun _ => [], by simpa [Ty.int] using h2, fun j hj => ?_, by rw [flat_nil]; exact List.nodup_nil, by rw [flat_nil]; simp, fun g hg => (h2.lt g hg).2, by rw [flat_nil]; intro b hb; cases hb⟩
    by_cases hjy : j < ys.length
    · obtain ⟨cs, ⟨rfl, hI, _⟩, hk⟩ := g2 j hjy
      refine ⟨[.int .i64 (ys ++ xs)[j]], ⟨rfl, by rw [List.getElem_append_left hjy]; exact hI, rfl⟩, fun q hq => ?_⟩
      obtain rfl : q = 0 := by simpa using hq
      have := hk 0 (by simp)
      rw [List.getElem?_append_left (by rw [hLl]; simp [Ty.int]; exact hjy)]
      simpa [List.getElem_append_left hjy] using this
    · have hj' : j - ys.length < xs.length := by rw [List.length_append] at hj; omega
      have hge : (ys ++ xs)[j] = xs[j - ys.length] := List.getElem_append_right (by omega)
      refine ⟨[.int .i64 (ys ++ xs)[j]], ⟨rfl, by rw [hge]; exact (hce _ hj').1, rfl⟩, fun q hq => ?_⟩
      obtain rfl : q = 0 := by simpa using hq
      rw [List.getElem?_append_right (by rw [hLl]; simp [Ty.int]; omega), hLl]
      simp [Ty.int, hge, hj']
  unfold Oper.wp execOp
  simp only [ho, resolve, invoke, builtin, Sem.run_bind, Sem.run_pure, Result.andThen_ok, List.map_toArray, List.map_cons, List.map_nil, hs, hx, hr']
  exact hK _ _ (h v' w' hBl h3 hblk)
set_option maxHeartbeats 800000 in
theorem l00Own_any (w : World) {v : Value} {xs : List Int} (h : intsT.Rd w [v] xs) (hlen : xs.length ≤ 1000000) :
    Calls Try.prog 116 #[v] w fun e w' => ∃ u, e = .returned u ∧ Bl Ty.int 2 w.heap.size w'.heap.size w' u xs ∧ Below w.heap.size w w' := by
  have hx := h
  obtain ⟨ad, cap, rfl⟩ := rd_slice h
  have HX := Lib.hid hx
  rcases Nat.eq_zero_or_pos xs.length with h0 | h0
  · obtain rfl := List.eq_nil_of_length_eq_zero h0
    clear h hx h0 HX
    cases ad
    all_goals
      go_enter Try.func116, Try.ntmps116
      go_wp2_with fail
      go_ret
      exact ⟨_, rfl, by simpa using Bl.lit0 (E := Ty.int) (e := 2) (w := w) (Nat.le_refl _), bA⟩
  · clear h hx
    have HB := Lib.hid (Bl.lit0 (E := Ty.int) (e := 2) (base := w.heap.size) (w := w) (Nat.le_refl _))
    go_enter Try.func116, Try.ntmps116
    go_wp2_with (refine wpList_appI _ rfl _ _ 62 2 rfl elInt rfl HB.out rfl (HX.out.below bA) h0 (by simp; omega) (by decide) (by omega) (by simp) ?_; intro v1 w1 hB1 hg1 _)
    have HB1 := Lib.hid hB1
    have hb1 : Below w.heap.size w w1 := (bA (w := w)).grown hg1 (by simp) (fun k hk => HB.out.own hk)
    clear hB1
    go_wp2_with fail
    go_ret
    exact ⟨_, rfl, HB1.out, hb1⟩
noncomputable def limV (f : Int × Int × List (Int × List Int)) : Int × Int × List (Int × List Int) := match tb (f.2.1 ≤ 8 ∧ f.2.2.length ≤ 16) with
  | true => f
  | false => frm0
noncomputable def limC (f : Int × Int × List (Int × List Int)) : Int := match tb (f.2.1 ≤ 8 ∧ f.2.2.length ≤ 16) with
  | true => 0
  | false => 3
theorem lim_yes {f : Int × Int × List (Int × List Int)} (h : f.2.1 ≤ 8 ∧ f.2.2.length ≤ 16) : limV f = f ∧ limC f = 0 := by simp only [limV, limC, tb_true h]; exact ⟨trivial, trivial⟩
theorem lim_no {f : Int × Int × List (Int × List Int)} (h : ¬ (f.2.1 ≤ 8 ∧ f.2.2.length ≤ 16)) : limV f = frm0 ∧ limC f = 3 := by simp only [limV, limC, tb_false h]; exact ⟨trivial, trivial⟩
set_option maxHeartbeats 1600000 in
set_option maxRecDepth 100000 in
theorem limited_any (w : World) {base : Nat} {cs : Array Value} {f : Int × Int × List (Int × List Int)} (h : frmT.Fr base w cs.toList f) (_hb : base ≤ w.heap.size) :
    Calls Try.prog 88 #[.agg cs] w fun e w' => ∃ cs' : List Value, e = .returned (.tuple #[.agg cs'.toArray, .int .i64 (limC f)]) ∧ frmT.Fr base w' cs' (limV f) ∧ Below w.heap.size w w' := by
  have hf := h
  obtain ⟨u, hv, hI, hI2, hx⟩ := trip_ex h.rd
  obtain rfl := agg_of hv
  obtain ⟨_, _, -, -, hle2, -⟩ := Ty.slice_ex hx
  obtain ⟨ad, cap, rfl⟩ := rd_slice hx
  have HF := Lib.hid hf
  clear h hv hf hx
  by_cases hl : f.2.1 ≤ 8 ∧ f.2.2.length ≤ 16
  · have HR := Lib.hid (lim_yes hl)
    obtain ⟨hl1, hl2⟩ := hl
    go_enter Try.func88, Try.ntmps88
    go_wp2_with fail
    refine bodyPost_ret (v := .tuple #[.agg #[.int .i64 f.1, .int .i64 f.2.1, .slice ad f.2.2.length cap], .int .i64 0]) (by simp [results, Try.results88, go_sem]) rfl ⟨[.int .i64 f.1, .int .i64 f.2.1, .slice ad f.2.2.length cap], by rw [HR.out.2], ?_, (by repeat (first | exact Below.refl _ _ | exact bA | assumption | refine Below.setCell ?_ (by first | omega | (simp; try omega)) _ | refine Below.alloc ?_ (by first | omega | (simp; try omega)) _ | refine Below.drew ?_ | refine bDN ?_ | refine bthen ?_ (by assumption)))⟩
    rw [HR.out.1]
    exact HF.out.below (by repeat (first | exact Below.refl _ _ | exact bA | assumption | refine Below.setCell ?_ (by first | omega | (simp; try omega)) _ | refine Below.alloc ?_ (by first | omega | (simp; try omega)) _ | refine Below.drew ?_ | refine bDN ?_ | refine bthen ?_ (by assumption)))
  · have HR := Lib.hid (lim_no hl)
    rcases ilt 8 f.2.1 with h8 | h8
    · clear hl
      go_enter Try.func88, Try.ntmps88
      go_wp2_with fail
      refine bodyPost_ret (v := .tuple #[.agg #[.int .i64 0, .int .i64 0, .slice none 0 0], .int .i64 3]) (by simp [results, Try.results88, go_sem]) rfl ⟨[.int .i64 0, .int .i64 0, .slice none 0 0], by rw [HR.out.2], by rw [HR.out.1]; exact fr_frm0, (by repeat (first | exact Below.refl _ _ | exact bA | assumption | refine Below.setCell ?_ (by first | omega | (simp; try omega)) _ | refine Below.alloc ?_ (by first | omega | (simp; try omega)) _ | refine Below.drew ?_ | refine bDN ?_ | refine bthen ?_ (by assumption)))⟩
    · have hl2 : 16 < f.2.2.length := by omega
      clear hl
      go_enter Try.func88, Try.ntmps88
      go_wp2_with fail
      refine bodyPost_ret (v := .tuple #[.agg #[.int .i64 0, .int .i64 0, .slice none 0 0], .int .i64 3]) (by simp [results, Try.results88, go_sem]) rfl ⟨[.int .i64 0, .int .i64 0, .slice none 0 0], by rw [HR.out.2], by rw [HR.out.1]; exact fr_frm0, (by repeat (first | exact Below.refl _ _ | exact bA | assumption | refine Below.setCell ?_ (by first | omega | (simp; try omega)) _ | refine Below.alloc ?_ (by first | omega | (simp; try omega)) _ | refine Below.drew ?_ | refine bDN ?_ | refine bthen ?_ (by assumption)))⟩
end Go.Proofs.Ytepebfpgmnidnaa
