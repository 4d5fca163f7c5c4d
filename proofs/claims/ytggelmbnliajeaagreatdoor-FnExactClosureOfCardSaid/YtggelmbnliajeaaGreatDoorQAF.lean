/-
Memory: what an append keeps of the row that grows; the state of the closure's list: a set of texts, a row of lists, each told apart. No program is named here.
Contracts: a list put into the closure's list, if it is new.
Contracts: slices.Insert of one number into a short list that has no room; the list of an index, with its room.
Contracts: what an operation makes of lists of which one at least is the last, put into the closure's list.
-/
import Derived.Test.YtggelmbnliajeaaGreatDoorQAE
import Derived.Test.YtggelmbnliajeaaGreatDoorQAB
import Derived.Test.YtggelmbnliajeaaGreatDoorQAC
import Derived.Laws.CopyOwn
import Derived.Test.YtggelmbnliajeaaGreatDoorQAD
namespace Go.Proofs.YtggelmbnliajeaaGreatDoor
open Go.RowKit
theorem run_push_new {P : Program} (w : World) (base t ty e : Nat) {sz bytes : Nat} (hT : ElT P t e sz bytes) (v : Value) (n : Nat) (xs : List Value) (hown : w.ownsRow base e sz v n xs)
  (a : Addr) (m c : Nat) (news : List Value) (hl : news.length = m * sz) (hnews : ∀ j u, news[j]? = some u → w.cell? (a.add j) = some u) (h1 : ∀ u ∈ news, u.oneCell' = true)
  (h63 : n + m ≤ maxLen) (hbytes : (n + m) * bytes ≤ 140737488355328) (hm : 0 < m) (v' : Value) (w' : World)
  (hr : (Builtin.append_ #[t, t] ty #[v, .slice (some a) m c]).run P w = .ok v' w') : v'.ownBlock = v.ownBlock ∨ (v'.ownBlock = some w.heap.size ∧ Below w.heap.size w w') := by
 obtain ⟨i, z, ht, hi, hz, rfl, rfl, hzs, hp⟩ := hT
 have hsmall : n + m ≤ 9223372036854775807 := by simp only [maxLen] at h63; omega
 rcases hown.2 with ⟨rfl, rfl⟩ | ⟨g, cap, cur, rfl, hbg, hg, hnc, hcm, hcs, htake⟩
 ·rw [run_append_nil (P := P) w t ty e i z ht hi hz a m c news hl hnews hm (by omega) (by have hb := hbytes; simp only [Nat.zero_add] at hb; omega)] at hr
  simp only [Result.ok.injEq] at hr
  rw [← hr.1, ← hr.2]
  exact .inr ⟨rfl, bD.alloc (by simp) _⟩
 ·by_cases hroom : n + m ≤ cap
  ·have hfit : n * i.size + news.length ≤ cur.size := by rw [hl, hcs, ← Nat.add_mul]; exact Nat.mul_le_mul_right _ hroom
   rw [run_append_room (P := P) w t ty e i ht hi g n cap cur hg a m c news hl hnews h1 hroom hfit] at hr
   simp only [Result.ok.injEq] at hr
   rw [← hr.1]
   exact .inl rfl
  ·have holds : ∀ j u, xs[j]? = some u → w.cell? ((⟨g, 0, none⟩ : Addr).add j) = some u := hown.cells (g := g) rfl
   rw [run_append_grow (P := P) w t ty e i z ht hi hz ⟨g, 0, none⟩ n cap xs hown.1 holds a m c news hl hnews (by omega) (by omega) (growslice_fits (by omega) hbytes)] at hr
   simp only [Result.ok.injEq] at hr
   rw [← hr.1, ← hr.2]
   exact .inr ⟨rfl, bD.alloc (by simp) _⟩
/-- cells stay: those of other blocks, and those of the row's first elements -/
def KeepC (v : Value) (n : Nat) (w w' : World) : Prop := ∀ g j, g < w.heap.size → (v.ownBlock = some g → j < n) → w'.cell? ⟨g, j, none⟩ = w.cell? ⟨g, j, none⟩
theorem keep_push {w w' : World} {base e n m : Nat} {v v' : Value} {xs ys : List Value} (h : w.ownsRow base e 1 v n xs) (h' : w'.ownsRow base e 1 v' m (xs ++ ys)) (hg : w.grownBy w' v.ownBlock) (hb : v'.ownBlock = v.ownBlock ∨ (v'.ownBlock = some w.heap.size ∧ Below w.heap.size w w')) : KeepC v n w w' := by
 intro g j hgl hj
 rcases hb with hb | ⟨_, hb⟩
 ·by_cases ho : v.ownBlock = some g
  ·have hjn := hj ho
   have hxl : xs.length = n := by have := h.1; omega
   have e1 : w.cell? ⟨g, j, none⟩ = xs[j]? := by
    rcases h.2 with ⟨rfl, _⟩ | ⟨g', cap, cur, rfl, _⟩
    ·cases ho
    ·obtain rfl : g' = g := by simpa [Value.ownBlock] using ho
     exact World.ownsRow.cellAt h j (by omega)
   have e2 : w'.cell? ⟨g, j, none⟩ = (xs ++ ys)[j]? := by
    have ho' := hb.trans ho
    have hml : (xs ++ ys).length = m * 1 := h'.1
    rcases h'.2 with ⟨rfl, _⟩ | ⟨g', cap, cur, rfl, _⟩
    ·cases ho'
    ·obtain rfl : g' = g := by simpa [Value.ownBlock] using ho'
     exact World.ownsRow.cellAt h' j (by rw [List.length_append] at hml; omega)
   rw [e1, e2, List.getElem?_append_left (by omega)]
  ·exact World.cell?_of_block (a := ⟨g, j, none⟩) (hg.block g hgl fun he => ho he.symm)
 ·exact hb.cell (p := ⟨g, j, none⟩) hgl
theorem KeepC.refl (v : Value) (n : Nat) (w : World) : KeepC v n w w := fun _ _ _ _ => rfl
theorem bl_val_own {e base top : Nat} {w : World} {v : Value} {ys : List Value} (h : Bl Ty.val e base top w v ys) : w.ownsRow base e 1 v ys.length ys ∧ (∀ u ∈ ys, u.oneCell' = true) ∧ ∀ g, v.ownBlock = some g → g < top := by
 obtain ⟨L, fps, h1, h2, -, -, h5, -⟩ := h
 have hl : L.length = ys.length := by have := h1.1; simpa [Ty.val] using this
 have he : ∀ i (hi : i < ys.length), L[i]? = some ys[i] ∧ (ys[i]).oneCell' = true := fun i hi => by
  obtain ⟨cs, ⟨rfl, h7, _⟩, h8⟩ := h2 i hi
  have := h8 0 (by simp)
  exact ⟨by simpa [Ty.val] using this, h7⟩
 obtain rfl : L = ys := List.ext_getElem hl fun i h h' => by
  have := (he i h').1
  rw [List.getElem?_eq_getElem h] at this
  simpa using this
 refine ⟨h1, fun u hu => ?_, h5⟩
 obtain ⟨i, hi, rfl⟩ := List.mem_iff_getElem.1 hu
 exact (he i hi).2
theorem bl_own_val {e base top : Nat} {w : World} {v : Value} {ys : List Value} (h : w.ownsRow base e 1 v ys.length ys) (h1 : ∀ u ∈ ys, u.oneCell' = true) (ht : ∀ g, v.ownBlock = some g → g < top) : Bl Ty.val e base top w v ys := by
 have hfl : flat (fun _ => []) ys.length = [] := List.eq_nil_iff_forall_not_mem.2 fun x hx => by obtain ⟨_, _, h⟩ := List.mem_flatMap.1 hx; cases h
 refine ⟨ys, fun _ => [], h, fun i hi => ⟨[ys[i]], ⟨rfl, h1 _ (List.getElem_mem hi), rfl⟩, fun j hj => ?_⟩, by rw [hfl]; exact List.nodup_nil, by rw [hfl]; simp, ht, by rw [hfl]; intro b hb; cases hb⟩
 obtain rfl : j = 0 := by simpa using hj
 simp [Ty.val, hi]
theorem run_pushV {P : Program} (w : World) (t ty e : TypeId) {bytes : Nat} (hT : ElT P t e 1 bytes)
  {base top : Nat} {v : Value} {ys : List Value} (hB : Bl Ty.val e base top w v ys)
  {ad : Addr} {c : Nat} {y : Value} (hnews : ∀ j u, [y][j]? = some u → w.cell? (ad.add j) = some u) (hy : y.oneCell' = true)
  (hlen : ys.length ≤ 1000000000) (hby : bytes ≤ 100000) (hbt : base ≤ top) (htop : top ≤ w.heap.size) :
  ∃ v' w', (Builtin.append_ #[t, t] ty #[v, .slice (some ad) 1 c]).run P w = .ok v' w' ∧ Bl Ty.val e base w'.heap.size w' v' (ys ++ [y]) ∧ w.grownBy w' v.ownBlock ∧ (v'.ownBlock = v.ownBlock ∨ v'.ownBlock = some w.heap.size) ∧ KeepC v ys.length w w' := by
 obtain ⟨g1, g2, g3⟩ := bl_val_own hB
 obtain ⟨i, z, ht, hi, hz, hsz, hbt', hzs, hp⟩ := id hT
 have hlen' : (ys.length + 1) * bytes ≤ 140737488355328 := Nat.le_trans (Nat.mul_le_mul (show ys.length + 1 ≤ 1000000001 by omega) hby) (by decide)
 have hbase : base ≤ w.heap.size := Nat.le_trans hbt htop
 have hone : ∀ u ∈ [y], u.oneCell' = true := fun u hu => by rw [List.mem_singleton.1 hu]; exact hy
 obtain ⟨v', w', hr, h2, h3, h4⟩ := run_append_own (P := P) w base t ty e i z 1 bytes ht hi hz hsz hbt' hzs hp v ys.length ys g1 ad 1 c [y] (by simp) hnews hone (by unfold maxLen; omega) hlen' hbase
 have hblk := run_push_new w base t ty e hT v ys.length ys g1 ad 1 c [y] (by simp) hnews hone (by unfold maxLen; omega) hlen' (by omega) v' w' hr
 have h2' : w'.ownsRow base e 1 v' (ys ++ [y]).length (ys ++ [y]) := by simpa using h2
 refine ⟨v', w', hr, bl_own_val h2' (fun u hu => ?_) (fun g hg => (h2.lt g hg).2), h3, hblk.imp id And.left, keep_push g1 h2 h3 hblk⟩
 rcases List.mem_append.1 hu with hu | hu
 ·exact g2 u hu
 ·exact hone u hu
theorem wpList_pushK {P : Program} (w : World) {ops : Array Oper} {rest : List Oper} {o : Oper} {a : Act} {Q : Exit → Act → World → Prop} (hgd : o.guard = none) (s x : Operand) (t e : TypeId) {bytes : Nat}
  (ho : o.op = .call { callee := .builtin .append, args := #[s, x], argTypes := #[t, t] }) (hT : ElT P t e 1 bytes)
  {base top : Nat} {v : Value} {ys : List Value} (hs : a.eval s = v) (hB : Bl Ty.val e base top w v ys)
  {ad : Addr} {c : Nat} {y : Value} (hx : a.eval x = .slice (some ad) 1 c) (hnews : ∀ j u, [y][j]? = some u → w.cell? (ad.add j) = some u) (hy : y.oneCell' = true)
  (hlen : ys.length ≤ 1000000000) (hby : bytes ≤ 100000) (hbt : base ≤ top) (htop : top ≤ w.heap.size)
  (h : ∀ v' w', Bl Ty.val e base w'.heap.size w' v' (ys ++ [y]) → w.grownBy w' v.ownBlock → (v'.ownBlock = v.ownBlock ∨ v'.ownBlock = some w.heap.size) → KeepC v ys.length w w' → wpList P ops Q rest (a.put o.dst v') w') : wpList P ops Q (o :: rest) a w := by
 refine wpList_plain hgd fun K hK => ?_
 obtain ⟨v', w', hr, g1, g2, g3, g4⟩ := run_pushV (P := P) w t o.type e hT hB (ad := ad) (c := c) hnews hy hlen hby hbt htop
 unfold Oper.wp execOp
 simp only [ho, resolve, invoke, builtin, Sem.run_bind, Sem.run_pure, Result.andThen_ok, List.map_toArray, List.map_cons, List.map_nil, hs, hx, hr]
 exact hK _ _ (h v' w' g1 g2 g3 g4)
/-- the blocks that hold the state, and none of its lists -/
def avd (bs ba mb : Nat) (v : Value) (k : Nat) : Prop := k ≠ bs ∧ k ≠ ba ∧ k ≠ mb ∧ v.ownBlock ≠ some k
/-- a list's text -/
def keyL (l : List Int) : List UInt8 := catL decB [] l
/-- digits alone -/
def dgs (l : List Int) : Prop := ∀ a ∈ l, 0 ≤ a ∧ a < 10
theorem keyL_map {l : List Int} (h : dgs l) : keyL l = l.map fun a => UInt8.ofNat (48 + a.toNat) := by
 unfold keyL catL
 rw [List.nil_append]
 induction l with
 | nil => rfl
 | cons a l ih =>
  obtain ⟨h0, h1⟩ := h a (List.mem_cons_self ..)
  rw [List.map_cons, List.flatten_cons, List.map_cons, ih (fun b hb => h b (List.mem_cons_of_mem _ hb)), dec_one h0 h1]
  rfl
theorem keyL_inj : ∀ {l l' : List Int}, dgs l → dgs l' → keyL l = keyL l' → l = l' := fun {l l'} h h' he => by
 rw [keyL_map h, keyL_map h'] at he
 induction l generalizing l' with
 | nil => cases l' with
  | nil => rfl
  | cons b l' => cases he
 | cons a l ih => cases l' with
  | nil => cases he
  | cons b l' =>
   simp only [List.map_cons, List.cons.injEq] at he
   obtain ⟨h0, h1⟩ := h a (List.mem_cons_self ..)
   obtain ⟨h2, h3⟩ := h' b (List.mem_cons_self ..)
   have e1 := congrArg UInt8.toNat he.1
   rw [UInt8.toNat_ofNat_of_lt' (by show 48 + a.toNat < 256; omega), UInt8.toNat_ofNat_of_lt' (by show 48 + b.toNat < 256; omega)] at e1
   rw [ih (fun c hc => h c (List.mem_cons_of_mem _ hc)) (fun c hc => h' c (List.mem_cons_of_mem _ hc)) he.2, show a = b by omega]
/-- the list with one more, if it is new -/
def adL (A : List (List Int)) (l : List Int) : List (List Int) := if l ∈ A then A else A ++ [l]
theorem adL_yes {A : List (List Int)} {l : List Int} (h : l ∈ A) : adL A l = A := if_pos h
theorem adL_no {A : List (List Int)} {l : List Int} (h : l ∉ A) : adL A l = A ++ [l] := if_neg h
theorem adL_pre {A : List (List Int)} {l : List Int} : A <+: adL A l := by
 by_cases h : l ∈ A
 ·rw [adL_yes h]; exact List.prefix_refl _
 ·rw [adL_no h]; exact List.prefix_append _ _
theorem adL_mem {A : List (List Int)} {l : List Int} : l ∈ adL A l := by
 by_cases h : l ∈ A
 ·rw [adL_yes h]; exact h
 ·rw [adL_no h]; simp
theorem adL_len {A : List (List Int)} {l : List Int} : (adL A l).length ≤ A.length + 1 := by
 by_cases h : l ∈ A
 ·rw [adL_yes h]; omega
 ·rw [adL_no h]; simp
theorem adL_in {A : List (List Int)} {l x : List Int} (h : x ∈ adL A l) : x ∈ A ∨ x = l := by
 by_cases hl : l ∈ A
 ·rw [adL_yes hl] at h; exact .inl h
 ·rw [adL_no hl] at h
  exact (List.mem_append.1 h).imp id List.mem_singleton.1
/-- the state of the closure's list -/
structure AddI (P : Program) (km em te B bs ba mb : Nat) (w : World) (v : Value) (vs : List Value) (A : List (List Int)) : Prop where
 cs : w.cell? ⟨bs, 0, none⟩ = some (.map (some mb))
 ca : w.cell? ⟨ba, 0, none⟩ = some v
 fa : w.frozen? ⟨ba, 0, none⟩ = false
 sn : ∃ Ks n, SeenM P km em w mb n Ks ∧ n ≤ A.length ∧ ∀ s, s ∈ Ks ↔ ∃ l ∈ A, s = keyL l
 row : Bl Ty.val te B w.heap.size w v vs
 len : vs.length = A.length
 rd : ∀ i (h : i < vs.length) (h' : i < A.length), intsT.RdP (avd bs ba mb v) w [vs[i]] A[i]
 ds : bs ≠ ba ∧ bs ≠ mb ∧ ba ≠ mb ∧ v.ownBlock ≠ some bs ∧ v.ownBlock ≠ some ba ∧ v.ownBlock ≠ some mb
 ge : B ≤ bs ∧ B ≤ ba ∧ B ≤ mb
 dg : ∀ l ∈ A, dgs l
section
variable {P : Program} {km em te B bs ba mb : Nat} {w w' : World} {v : Value} {vs : List Value} {A : List (List Int)}
theorem AddI.lt (h : AddI P km em te B bs ba mb w v vs A) : bs < w.heap.size ∧ ba < w.heap.size ∧ mb < w.heap.size := by
 obtain ⟨Ks, n, h1, _⟩ := h.sn
 exact ⟨cell_lt h.cs, cell_lt h.ca, h1.lt⟩
theorem AddI.below {B' : Nat} (h : AddI P km em te B bs ba mb w v vs A) (hb : Below B' w w') (hB : w.heap.size ≤ B') : AddI P km em te B bs ba mb w' v vs A where
 cs := (hb.cell (p := ⟨bs, 0, none⟩) (Nat.lt_of_lt_of_le h.lt.1 hB)).trans h.cs
 ca := (hb.cell (p := ⟨ba, 0, none⟩) (Nat.lt_of_lt_of_le h.lt.2.1 hB)).trans h.ca
 fa := (World.frozen?_of_block (a := ⟨ba, 0, none⟩) (hb.block ba (Nat.lt_of_lt_of_le h.lt.2.1 hB))).trans h.fa
 sn := let ⟨Ks, n, h1, h2⟩ := h.sn; ⟨Ks, n, h1.block (hb.block mb (Nat.lt_of_lt_of_le h1.lt hB)), h2⟩
 row := (h.row.below hb hB).mono hb.size
 len := h.len
 rd := fun i h1 h2 => let ⟨fp, h3, h4⟩ := h.rd i h1 h2; ⟨fp, intsT.same h3 (fun k hk => hb.block k (Nat.lt_of_lt_of_le (intsT.lt h3 k hk) hB)), h4⟩
 ds := h.ds
 ge := h.ge
 dg := h.dg
end
/-- what an addition keeps -/
def AddF (ba mb : Nat) (v : Value) (n : Nat) (w w' : World) : Prop := TchP (fun q => q = ba ∨ q = mb ∨ v.ownBlock = some q) w w' ∧ ∀ g j, g < w.heap.size → g ≠ ba → g ≠ mb → (v.ownBlock = some g → j < n) → w'.cell? ⟨g, j, none⟩ = w.cell? ⟨g, j, none⟩
theorem AddF.refl (ba mb : Nat) (v : Value) (n : Nat) (w : World) : AddF ba mb v n w w := ⟨TchP.refl _ _, fun _ _ _ _ _ _ => rfl⟩
theorem rdp_lt {ok ok' : Nat → Prop} {w : World} {cs : List Value} {x : List Int} (h : intsT.RdP ok w cs x) (hO : ∀ k, k < w.heap.size → ok k → ok' k) : intsT.RdP ok' w cs x :=
 let ⟨fp, h1, h2⟩ := h; ⟨fp, h1, fun k hk => hO k (intsT.lt h1 k hk) (h2 k hk)⟩
/-- one more list -/
theorem AddI.add {P : Program} {km em te B bs ba mb : Nat} {w w4 : World} {v v' : Value} {vs : List Value} {A : List (List Int)} (h : AddI P km em te B bs ba mb w v vs A) {u : Value} {l : List Int} (hu : intsT.RdP (avd bs ba mb v) w [u] l) (hl : dgs l)
  (hT : TchP (fun q => q = ba ∨ q = mb ∨ v.ownBlock = some q) w w4) (hc : w4.cell? ⟨ba, 0, none⟩ = some v') (hf : w4.frozen? ⟨ba, 0, none⟩ = false)
  (hsn : ∃ Ks n, SeenM P km em w4 mb n Ks ∧ n ≤ A.length + 1 ∧ ∀ s, s ∈ Ks ↔ ∃ l' ∈ A ++ [l], s = keyL l') (hrow : Bl Ty.val te B w4.heap.size w4 v' (vs ++ [u]))
  (hown : v'.ownBlock = v.ownBlock ∨ ∃ q, v'.ownBlock = some q ∧ w.heap.size ≤ q) : AddI P km em te B bs ba mb w4 v' (vs ++ [u]) (A ++ [l]) := by
 obtain ⟨b1, b2, b3⟩ := h.lt
 obtain ⟨d1, d2, d3, d4, d5, d6⟩ := h.ds
 have hav : ∀ k, k < w.heap.size → avd bs ba mb v k → avd bs ba mb v' k := fun k hk ⟨q1, q2, q3, q4⟩ => ⟨q1, q2, q3, fun e => by
  rcases hown with e1 | ⟨q, e1, e2⟩
  ·exact q4 (e1.symm.trans e)
  ·rw [e1] at e; cases e; omega⟩
 have hno : ∀ k, k < w.heap.size → avd bs ba mb v k → ¬ (k = ba ∨ k = mb ∨ v.ownBlock = some k) := fun k _ ⟨q1, q2, q3, q4⟩ hh => by
  rcases hh with hh | hh | hh
  ·exact q2 hh
  ·exact q3 hh
  ·exact q4 hh
 have hne : ∀ k, k < w.heap.size → v.ownBlock ≠ some k → v'.ownBlock ≠ some k := fun k hk hn e => by
  rcases hown with e1 | ⟨q, e1, e2⟩
  ·exact hn (e1.symm.trans e)
  ·rw [e1] at e; cases e; omega
 have hall : ∀ (y : Value) (x : List Int), intsT.RdP (avd bs ba mb v) w [y] x → intsT.RdP (avd bs ba mb v') w4 [y] x := fun y x hy => (rdp_lt hy fun k hk hh => (⟨hav k hk hh, hno k hk hh⟩ : avd bs ba mb v' k ∧ ¬ (k = ba ∨ k = mb ∨ v.ownBlock = some k))).tchP hT (fun k _ hh => hh.2) |>.mono (fun k _ hh => hh.1)
 refine ⟨(hT.cell b1 (fun hh => ?_)).trans h.cs, hc, hf, ?_, hrow, by simp [h.len], fun i h1 h2 => ?_, ⟨d1, d2, d3, hne _ b1 d4, hne _ b2 d5, hne _ b3 d6⟩, h.ge, fun x hx => ?_⟩
 ·rcases hh with hh | hh | hh
  ·exact d1 hh
  ·exact d2 hh
  ·exact d4 hh
 ·obtain ⟨Ks, n, g1, g2, g3⟩ := hsn
  exact ⟨Ks, n, g1, by simpa using g2, g3⟩
 ·by_cases e : i < vs.length
  ·have e2 : i < A.length := by rw [← h.len]; exact e
   rw [List.getElem_append_left e, List.getElem_append_left e2]
   exact hall _ _ (h.rd i e e2)
  ·have hi : i = vs.length := by simp at h1; omega
   subst hi
   have e2 : vs.length = A.length := h.len
   simp only [List.getElem_concat_length]
   have : (A ++ [l])[vs.length]'h2 = l := by
    simp [e2]
   rw [this]
   exact hall _ _ hu
 ·rcases List.mem_append.1 hx with hx | hx
  ·exact h.dg x hx
  ·rw [List.mem_singleton.1 hx]; exact hl
end Go.Proofs.YtggelmbnliajeaaGreatDoor
namespace Go.Proofs.YtggelmbnliajeaaGreatDoor
open Go.RowKit Go.Sort
theorem zero_bool (w : World) : (zeroValue 4).run Tryz.prog w = .ok (.bool false) w := by
 first | exact Tryz.zeroValue4 w | (unfold zeroValue; simp [go_sem]; done)
theorem AddI.look {w : World} {B bs ba mb : Nat} {v : Value} {vs : List Value} {A : List (List Int)} (h : AddI Tryz.prog 9 4 42 B bs ba mb w v vs A) {l : List Int} (hl : dgs l) (hln : l.length ≤ 1000) :
  (Instr.lookup 130 (.map (some mb)) (.string ⟨(keyL l).toArray⟩) false).run Tryz.prog w = .ok (.bool (decide (l ∈ A))) w := by
 obtain ⟨Ks, n, h1, h2, h3⟩ := h.sn
 have hk : (keyL l).length ≤ 1000000 := by rw [keyL_map hl, List.length_map]; omega
 rw [h1.look Tryz.underlying9 Tryz.underlying130 Tryz.underlying4 (zero_bool w) hk]
 congr 2
 rw [decide_eq_decide, h3]
 constructor
 ·rintro ⟨l', hl', e⟩
  rw [keyL_inj hl (h.dg l' hl') e]; exact hl'
 ·intro hm
  exact ⟨l, hm, rfl⟩
set_option maxHeartbeats 1600000 in
set_option maxRecDepth 100000 in
theorem add_any (w : World) {B bs ba mb : Nat} {v : Value} {vs : List Value} {A : List (List Int)} (h : AddI Tryz.prog 9 4 42 B bs ba mb w v vs A) {u : Value} {l : List Int} (hu : intsT.RdP (avd bs ba mb v) w [u] l) (hl : dgs l) (hln : l.length ≤ 1000) (hA : A.length ≤ 100000000) (hB : B ≤ w.heap.size) :
  Calls Tryz.prog 106 #[u, .pointer (some ⟨bs, 0, none⟩), .pointer (some ⟨ba, 0, none⟩)] w fun e w' => e = .returned (.tuple #[]) ∧ ∃ v' vs', AddI Tryz.prog 9 4 42 B bs ba mb w' v' vs' (adL A l) ∧ vs <+: vs' ∧ AddF ba mb v vs.length w w' ∧ (v'.ownBlock = v.ownBlock ∨ ∃ q, v'.ownBlock = some q ∧ w.heap.size ≤ q) := by
 have HLK := Lib.hid (h.look hl hln)
 obtain ⟨ua, uc, rfl⟩ := rd_slice hu.rd
 have H := Lib.hid h
 have HU := Lib.hid hu
 have HL := Lib.hid hl
 have hl100 : ∀ a ∈ l, 0 ≤ a ∧ a < 100 := fun a ha => by have := hl a ha; omega
 have c0 := h.cs
 have c1 := h.ca
 clear h hu hl
 by_cases hm : l ∈ A
 ·have hlk := HLK.out
  rw [decide_eq_true hm] at hlk
  have HM := Lib.hid hm
  clear hm HLK
  go_enter Tryz.func106, Tryz.ntmps106
  go_wp2_with fail
  refine (digits_any w HU.out.rd hl100 hln).mono ?_
  rintro e w' ⟨rfl, rfl⟩
  rw [show catL decB [] l = keyL l from rfl]
  generalize keyL l = K at *
  go_wp2_with fail
  go_end0
  exact ⟨rfl, v, vs, by rw [adL_yes HM.out]; exact H.out, List.prefix_refl _, AddF.refl _ _ _ _ _, .inl rfl⟩
 ·have hlk := HLK.out
  rw [decide_eq_false hm] at hlk
  have HM := Lib.hid hm
  obtain ⟨Ks, n, hs1, hs2, hs3⟩ := H.out.sn
  obtain ⟨w1, hput, hs4, hg1, hz1⟩ := hs1.put Tryz.underlying9 Tryz.underlying130 Tryz.underlying4 (s := keyL l) (by rw [keyL_map HL.out, List.length_map]; omega) (by omega)
  have HKS : Hid (∀ s, s ∈ keyL l :: Ks ↔ ∃ l' ∈ A ++ [l], s = keyL l') := fun s => by
   rw [List.mem_cons, hs3]
   constructor
   ·rintro (rfl | ⟨l', h1, rfl⟩)
    ·exact ⟨l, by simp, rfl⟩
    ·exact ⟨l', List.mem_append_left _ h1, rfl⟩
   ·rintro ⟨l', h1, rfl⟩
    rcases List.mem_append.1 h1 with h1 | h1
    ·exact .inr ⟨l', h1, rfl⟩
    ·rw [List.mem_singleton.1 h1]; exact .inl rfl
  have HS4 := Lib.hid hs4
  have HG1 := Lib.hid hg1
  have HS2 := Lib.hid hs2
  obtain ⟨b1, b2, b3⟩ := H.out.lt
  obtain ⟨d1, d2, d3, d4, d5, d6⟩ := H.out.ds
  have D4 := Lib.hid d4
  have D5 := Lib.hid d5
  have D6 := Lib.hid d6
  have k0 : w1.cell? ⟨ba, 0, none⟩ = some v := (World.cell?_of_block (a := ⟨ba, 0, none⟩) (hg1.block ba b2 (fun e => d3 (by simpa using e)))).trans c1
  have k1 : w1.frozen? ⟨ba, 0, none⟩ = false := (World.frozen?_of_block (a := ⟨ba, 0, none⟩) (hg1.block ba b2 (fun e => d3 (by simpa using e)))).trans H.out.fa
  have HB1 : Hid (Bl Ty.val 42 B w1.heap.size w1 v vs) := by
   refine bl_val_same H.out.row (fun b hb => hg1.block b (H.out.row.own_lt hb) (fun e => ?_)) (by omega)
   rw [hb] at d6
   exact d6 e
  have hvl : vs.length ≤ 1000000000 := by rw [H.out.len]; omega
  obtain ⟨av, nv, cv, rfl⟩ := ex_slice (HB1.out.fr (by unfold capMax; omega))
  have HZ1 := Lib.hid hz1
  have b2' : ba < w1.heap.size := by omega
  have b1' : bs < w1.heap.size := by omega
  have b3' : mb < w1.heap.size := by omega
  have hBw : B ≤ w1.heap.size := by omega
  clear hm HLK hs1 hs3 hs4 hg1 hs2 d4 d5 d6 hz1
  go_enter Tryz.func106, Tryz.ntmps106
  go_wp2_with fail
  refine (digits_any w HU.out.rd hl100 hln).mono ?_
  rintro e w' ⟨rfl, rfl⟩
  rw [show catL decB [] l = keyL l from rfl]
  generalize keyL l = K at *
  go_wp2_with (at_builtin; go_loud (refine wpList_pushK _ rfl _ _ 23 42 rfl elInt64SS rfl (HB1.out.below bA (Nat.le_refl _)) rfl news1 rfl hvl (by decide) (by omega) (by simp) ?_; intro v1 w3 hB3 hg3 hown3 hkp3; have hT3 : TchP (fun q => (Value.slice av nv cv).ownBlock = some q) w1 w3 := (TchP.of_below (bA (w := w1)) _).then (TchP.grown hg3 (fun k hk => hk)) (fun _ _ h => h); have HB3 := Lib.hid hB3; have HKP3 : Hid (KeepC (Value.slice av nv cv) vs.length (w1.alloc (.cells #[.slice ua l.length uc] 42)) w3) := hkp3; have HO3 : Hid (v1.ownBlock = (Value.slice av nv cv).ownBlock ∨ v1.ownBlock = some (w1.alloc (.cells #[.slice ua l.length uc] 42)).heap.size) := hown3; have k2 := (hT3.cell (i := 0) (b := ba) (by omega) D5.out).trans k0; have k3 := (hT3.frozen (i := 0) (b := ba) (by omega) D5.out).trans k1; obtain ⟨a1, n1, q1, rfl⟩ := ex_slice (hB3.fr (by simp; unfold capMax; omega)); clear hB3 hg3 hown3 hkp3 c1 k0 k1))
  go_end0
  have hT1 : TchP (fun q => q = ba ∨ q = mb ∨ (Value.slice av nv cv).ownBlock = some q) w w1 := TchP.grown HG1.out (fun k hk => .inr (.inl (by cases hk; rfl)))
  have hT4 : TchP (fun q => q = ba ∨ q = mb ∨ (Value.slice av nv cv).ownBlock = some q) w (w3.setCell ⟨ba, 0, none⟩ (.slice a1 n1 q1)) := (hT1.then hT3 (fun _ _ h => .inr (.inr h))).then (TchP.set (O := fun q => q = ba) rfl) (fun _ _ h => .inl h)
  have hz : (w1.alloc (.cells #[.slice ua l.length uc] 42)).heap.size = w1.heap.size + 1 := by simp
  have hO := HO3.out
  rw [hz] at hO
  have hown : (Value.slice a1 n1 q1).ownBlock = (Value.slice av nv cv).ownBlock ∨ ∃ q, (Value.slice a1 n1 q1).ownBlock = some q ∧ w.heap.size ≤ q := by
   rcases hO with h | h
   ·exact .inl h
   ·exact .inr ⟨_, h, by have := HZ1.out; omega⟩
  refine ⟨rfl, .slice a1 n1 q1, vs ++ [.slice ua l.length uc], ?_, List.prefix_append _ _, ⟨hT4, fun g j hg h1 h2 hj => ?_⟩, hown⟩
  ·rw [adL_no HM.out]
   refine H.out.add HU.out HL.out hT4 (World.cell?_setCell_same _ _ _ k2) ((World.frozen?_setCell _ _ _ _).trans k3) ⟨K :: Ks, n + 1, HS4.out.block ((Below.heap_setCell _ _ _ _ (by simpa using d3.symm)).trans (hT3.block mb b3' D6.out)), by have := HS2.out; omega, HKS.out⟩ ?_ hown
   ·refine bl_val_same HB3.out (fun b hb => Below.heap_setCell _ _ _ _ (fun e => ?_)) (by rw [size_set]; exact Nat.le_refl _)
    have e' : b = ba := by simpa using e
    subst e'
    rcases hO with h | h
    ·exact D5.out (h.symm.trans hb)
    ·rw [h] at hb; cases hb; omega
  ·have hg1 : g < w1.heap.size := by have := HZ1.out; omega
   refine (World.cell?_setCell_other _ _ _ _ (by intro e; simp only [Addr.mk.injEq] at e; exact h1 e.1.symm)).trans ((HKP3.out g j (by rw [hz]; omega) hj).trans ((cellB (bA (w := w1)) hg1).trans ?_))
   exact World.cell?_of_block (a := ⟨g, j, none⟩) (HG1.out.block g hg (fun e => h2 (by simpa using e)))
end Go.Proofs.YtggelmbnliajeaaGreatDoor
namespace Go.Proofs.YtggelmbnliajeaaGreatDoor
open Go.RowKit Go.Sort
/-- a block: these numbers, and something behind them -/
def CellsI (w : World) (g e : Nat) (xs : List Int) (m : Nat) : Prop := ∃ rs : List Value, xs.length + rs.length = m ∧ w.heap[g]? = some (.cells (xs.map (Value.int .i64) ++ rs).toArray e (0, 0))
theorem CellsI.fr {w : World} {base g e m c : Nat} {xs : List Int} (h : CellsI w g e xs m) (hb : base ≤ g) (hI : ∀ a ∈ xs, I64 a) (hl : xs.length ≤ c) (hl2 : xs.length ≤ capMax) : intsT.Fr base w [.slice (some ⟨g, 0, none⟩) xs.length c] xs := by
 obtain ⟨rs, -, h⟩ := h
 rcases Nat.eq_zero_or_pos xs.length with h0 | h0
 ·obtain rfl := List.eq_nil_of_length_eq_zero h0
  exact fr_nil
 refine ⟨[g], ⟨some ⟨g, 0, none⟩, c, rfl, hl, hl2, .inr ⟨h0, g, 0, fun _ => [], rfl, lt_of_block h, ?_, fun i hi => ⟨[.int .i64 xs[i]], ⟨rfl, hI _ (List.getElem_mem hi), rfl⟩, fun j hj => ?_⟩⟩⟩, by simp, fun b hb' => by rw [List.mem_singleton.1 hb']; exact hb, fun b hb' o => by rw [List.mem_singleton.1 hb']; simp [World.frozen?, h]⟩
 ·have : (List.range xs.length).flatMap (fun _ => ([] : List Nat)) = [] := List.eq_nil_iff_forall_not_mem.2 fun x hx => by obtain ⟨_, _, h⟩ := List.mem_flatMap.1 hx; cases h
  rw [this]
 ·obtain rfl : j = 0 := by simpa using hj
  have : (xs.map (Value.int .i64) ++ rs)[i]? = some (.int .i64 xs[i]) := by rw [List.getElem?_append_left (by simpa using hi)]; simp [hi]
  simp [World.cell?, h, Ty.int, this]
theorem grow_cells {P : Program} (w : World) (t ty e : TypeId) (i : TypeInfo) (z : Value) (ht : P.underlying t = some (.slice e)) (hi : P.info? e = some i) (hz : i.zero = some z) (hsz : i.size = 1) (hzs : z.cells.size = 1)
  (b : Addr) (n : Nat) (olds : List Value) (hlo : olds.length = n) (holds : ∀ j v, olds[j]? = some v → w.cell? (b.add j) = some v) (a : Addr) (c : Nat) (y : Value) (hy : w.cell? (a.add 0) = some y) (hn : n ≤ 1000) (hb : i.bytes ≤ 1000) :
  ∃ w' cap rs, (Builtin.append_ #[t, t] ty #[.slice (some b) n n, .slice (some a) 1 c]).run P w = .ok (.slice (some ⟨w.heap.size, 0, none⟩) (n + 1) cap) w' ∧ n + 1 ≤ cap ∧ n + 1 + rs.length = cap ∧ w'.heap[w.heap.size]? = some (.cells (olds ++ y :: rs).toArray e (0, 0)) ∧ Below w.heap.size w w' := by
 have hfit : Builtin.nextslicecap (n + 1) n * i.bytes ≤ 281474976710656 := growslice_fits (by omega) (Nat.le_trans (Nat.mul_le_mul (show n + 1 ≤ 1001 by omega) hb) (by decide))
 have hr := run_append_grow (P := P) w t ty e i z ht hi hz b n n olds (by rw [hsz]; omega) holds a 1 c [y] (by rw [hsz]; rfl) (fun j v hj => by
  rcases j with _ | j
  ·simp at hj; subst hj; exact hy
  ·simp at hj) (by omega) (by omega) hfit
 have hge : n + 1 ≤ grownCap w (n + 1) n e := grownCap_ge w (n + 1) n e
 refine ⟨_, _, (Builtin.zeroCells z.cells (grownCap w (n + 1) n e - (n + 1))).toList, hr, hge, ?_, ?_, bD.alloc (by simp) _⟩
 ·simp [Builtin.zeroCells, hzs]; omega
 ·have e1 : (w.drew.alloc (Obj.cells (olds.toArray ++ [y].toArray ++ Builtin.zeroCells z.cells (grownCap w (n + 1) n e - (n + 1))) e)).heap[w.heap.size]? = some (Obj.cells (olds.toArray ++ [y].toArray ++ Builtin.zeroCells z.cells (grownCap w (n + 1) n e - (n + 1))) e) := Array.getElem?_push_size
  rw [e1]
  congr 2
  apply Array.ext'
  simp
theorem grow_zeros {P : Program} (w : World) (t tn ty e : TypeId) (i : TypeInfo) (ht : P.underlying t = some (.slice e)) (htn : P.underlying tn = some (.int .i64)) (hi : P.info? e = some i) (hz : i.zero = some (.int .i64 0)) (hsz : i.size = 1)
  (b : Addr) (n cap0 m : Nat) (olds : List Value) (hlo : olds.length = n) (holds : ∀ j v, olds[j]? = some v → w.cell? (b.add j) = some v) (hm : 0 < m) (hn : n + m ≤ 1000) (hc : cap0 < n + m) (hb : i.bytes ≤ 1000) :
  ∃ w' cap rs, (Builtin.append_ #[t, tn] ty #[.slice (some b) n cap0, .int .i64 m]).run P w = .ok (.slice (some ⟨w.heap.size, 0, none⟩) (n + m) cap) w' ∧ n + m ≤ cap ∧ n + m + rs.length = cap ∧ w'.heap[w.heap.size]? = some (.cells (olds ++ (List.replicate m (Value.int .i64 0) ++ rs)).toArray e (0, 0)) ∧ Below w.heap.size w w' := by
 have hfit : Builtin.nextslicecap (n + m) cap0 * i.bytes ≤ 281474976710656 := growslice_fits (by omega) (Nat.le_trans (Nat.mul_le_mul (show n + m ≤ 1000 by omega) hb) (by decide))
 have hge : n + m ≤ grownCap w (n + m) cap0 e := grownCap_ge w (n + m) cap0 e
 have hz1 : (Value.int .i64 0).cells.size = 1 := by simp [Value.cells]
 have hw : IntKind.i64.wrap (m : Int) = (m : Int) := wrap_small (by omega) (by omega)
 have hn1 : ¬ (n + m ≤ cap0) := by omega
 have hneg : ¬ ((m : Int) < 0) := by omega
 have hm0 : ¬ (m * i.size = 0) := by rw [hsz]; omega
 have hmx : max (m : Int) 0 = (m : Int) := by omega
 have h63' : ¬ (9223372036854775807 < ((n : Int) + (m : Int))) := by omega
 have h48' : ¬ (281474976710656 < Builtin.nextslicecap (n + m) cap0 * i.bytes) := by omega
 have hmb : ¬ ((281474976710656 : Int) < (m : Int) * (i.bytes : Int)) := by
  have : m * i.bytes ≤ 1000 * 1000 := Nat.mul_le_mul (by omega) hb
  have h2 : ((m * i.bytes : Nat) : Int) ≤ 1000000 := by omega
  rw [Int.natCast_mul] at h2
  omega
 have hfo := run_firstCells_some (P := P) w.drew i.size n b n cap0 olds (by rw [hsz]; omega) (by simpa using holds)
 have hr : (Builtin.append_ #[t, tn] ty #[.slice (some b) n cap0, .int .i64 m]).run P w = Result.ok (Value.slice (some ⟨w.heap.size, 0, none⟩) (n + m) (grownCap w (n + m) cap0 e)) (w.drew.alloc (Obj.cells (olds.toArray ++ Builtin.zeroCells (Value.int .i64 0).cells m ++ Builtin.zeroCells (Value.int .i64 0).cells (grownCap w (n + m) cap0 e - (n + m))) e)) := by
  simp [Builtin.append_, run_underlying ht, run_underlying htn, sizeOf, typeInfo, zeroValue, hi, hz, hw, hn1, h63', h48', hmb, hneg, hm0, hmx, Question.forced, hfo, newRow, grownCap, asInt, asIntOf]
 refine ⟨_, _, (Builtin.zeroCells (Value.int .i64 0).cells (grownCap w (n + m) cap0 e - (n + m))).toList, hr, hge, ?_, ?_, bD.alloc (by simp) _⟩
 ·simp [Builtin.zeroCells, hz1]; omega
 ·have e1 : (w.drew.alloc (Obj.cells (olds.toArray ++ Builtin.zeroCells (Value.int .i64 0).cells m ++ Builtin.zeroCells (Value.int .i64 0).cells (grownCap w (n + m) cap0 e - (n + m))) e)).heap[w.heap.size]? = some (Obj.cells (olds.toArray ++ Builtin.zeroCells (Value.int .i64 0).cells m ++ Builtin.zeroCells (Value.int .i64 0).cells (grownCap w (n + m) cap0 e - (n + m))) e) := Array.getElem?_push_size
  rw [e1]
  congr 2
  apply Array.ext'
  simp [Builtin.zeroCells, Value.cells]
  refine List.eq_replicate_iff.2 ⟨by simp, fun b hb => ?_⟩
  obtain ⟨i, _, rfl⟩ := List.mem_map.1 hb
  simp [Nat.mod_one]
theorem add_at {g j : Nat} : (⟨g, 0, none⟩ : Addr).add j = ⟨g, j, none⟩ := by
 by_cases h : j = 0
 ·subst h; simp [Addr.add]
 ·simp [Addr.add, h]
theorem cells_ints {w : World} {g : Nat} {xs : List Int} (h : ∀ j (hj : j < xs.length), w.cell? ⟨g, j, none⟩ = some (.int .i64 xs[j])) : ∀ (j : Nat) (v : Value), (xs.map (Value.int .i64))[j]? = some v → w.cell? ((⟨g, 0, none⟩ : Addr).add j) = some v := fun j v hj => by
 obtain ⟨hj', rfl⟩ := List.getElem?_eq_some_iff.1 hj
 have h2 : j < xs.length := by simpa using hj'
 rw [add_at, h j h2, List.getElem_map]
/-- a number put behind a list that is full -/
theorem wpList_growI {P : Program} (w : World) {ops : Array Oper} {rest : List Oper} {o : Oper} {a : Act} {Q : Exit → Act → World → Prop} (hgd : o.guard = none) (s x : Operand) (t e : TypeId) {bytes : Nat}
  (ho : o.op = .call { callee := .builtin .append, args := #[s, x], argTypes := #[t, t] }) (ht : P.underlying t = some (.slice e)) (hinfo : (P.info? e).map (fun i => (i.zero, i.size, i.bytes)) = some (some (.int .i64 0), 1, bytes)) (hby : bytes ≤ 1000)
  {g n : Nat} {xs : List Int} (hs : a.eval s = .slice (some ⟨g, 0, none⟩) n n) (hl : xs.length = n) (holds : ∀ j (hj : j < xs.length), w.cell? ⟨g, j, none⟩ = some (.int .i64 xs[j]))
  {gv c : Nat} {y : Int} (hx : a.eval x = .slice (some ⟨gv, 0, none⟩) 1 c) (hy : w.cell? ⟨gv, 0, none⟩ = some (.int .i64 y)) (hn : n ≤ 1000)
  (h : ∀ w' cap, CellsI w' w.heap.size e (xs ++ [y]) cap → n + 1 ≤ cap → Below w.heap.size w w' → wpList P ops Q rest (a.put o.dst (.slice (some ⟨w.heap.size, 0, none⟩) (n + 1) cap)) w') : wpList P ops Q (o :: rest) a w := by
 obtain ⟨i, hi, hz, hsz, rfl⟩ := info_parts hinfo
 refine wpList_plain hgd fun K hK => ?_
 obtain ⟨w', cap, rs, hr, h1, h2, h3, h4⟩ := grow_cells (P := P) w t o.type e i (.int .i64 0) ht hi hz hsz (by simp [Value.cells]) ⟨g, 0, none⟩ n (xs.map (Value.int .i64)) (by simpa using hl) (cells_ints holds) ⟨gv, 0, none⟩ c (.int .i64 y) (by rw [add_at]; exact hy) hn hby
 unfold Oper.wp execOp
 simp only [ho, resolve, invoke, builtin, Sem.run_bind, Sem.run_pure, Result.andThen_ok, List.map_toArray, List.map_cons, List.map_nil, hs, hx, hr]
 exact hK _ _ (h w' cap ⟨rs, by simp; omega, by rw [h3]; simp⟩ h1 h4)
/-- so many zeros put behind a list without so much room -/
theorem wpList_zerosI {P : Program} (w : World) {ops : Array Oper} {rest : List Oper} {o : Oper} {a : Act} {Q : Exit → Act → World → Prop} (hgd : o.guard = none) (s x : Operand) (t tn e : TypeId) {bytes : Nat}
  (ho : o.op = .call { callee := .builtin .append, args := #[s, x], argTypes := #[t, tn] }) (ht : P.underlying t = some (.slice e)) (htn : P.underlying tn = some (.int .i64)) (hinfo : (P.info? e).map (fun i => (i.zero, i.size, i.bytes)) = some (some (.int .i64 0), 1, bytes)) (hby : bytes ≤ 1000)
  {g n cap0 m : Nat} {xs : List Int} (hs : a.eval s = .slice (some ⟨g, 0, none⟩) n cap0) (hl : xs.length = n) (holds : ∀ j (hj : j < xs.length), w.cell? ⟨g, j, none⟩ = some (.int .i64 xs[j]))
  (hx : a.eval x = .int .i64 (m : Int)) (hm : 0 < m) (hn : n + m ≤ 1000) (hc : cap0 < n + m)
  (h : ∀ w' cap, CellsI w' w.heap.size e (xs ++ List.replicate m 0) cap → n + m ≤ cap → Below w.heap.size w w' → wpList P ops Q rest (a.put o.dst (.slice (some ⟨w.heap.size, 0, none⟩) (n + m) cap)) w') : wpList P ops Q (o :: rest) a w := by
 obtain ⟨i, hi, hz, hsz, rfl⟩ := info_parts hinfo
 refine wpList_plain hgd fun K hK => ?_
 obtain ⟨w', cap, rs, hr, h1, h2, h3, h4⟩ := grow_zeros (P := P) w t tn o.type e i ht htn hi hz hsz ⟨g, 0, none⟩ n cap0 m (xs.map (Value.int .i64)) (by simpa using hl) (cells_ints holds) hm hn hc hby
 unfold Oper.wp execOp
 simp only [ho, resolve, invoke, builtin, Sem.run_bind, Sem.run_pure, Result.andThen_ok, List.map_toArray, List.map_cons, List.map_nil, hs, hx, hr]
 exact hK _ _ (h w' cap ⟨rs, by simp; omega, by rw [h3]; simp⟩ h1 h4)
theorem splice_ints {xs cs : List Int} {rs : List Value} {off : Nat} (h : off + cs.length ≤ xs.length) : splice (xs.map (Value.int .i64) ++ rs) off (cs.map (Value.int .i64)) = (splice xs off cs).map (Value.int .i64) ++ rs := by
 unfold splice
 rw [List.length_map, List.take_append_of_le_length (by simp; omega), List.drop_append_of_le_length (by simp; omega)]
 simp only [List.map_append, List.map_take, List.map_drop, List.append_assoc]
/-- numbers copied into a row -/
theorem wpList_copyI {P : Program} {w : World} {ops : Array Oper} {rest : List Oper} {o : Oper} {a : Act} {Q : Exit → Act → World → Prop} (hgd : o.guard = none) (d s : Operand) (dT : TypeId)
  (ho : o.op = .call { callee := .builtin .copy, args := #[d, s], argTypes := #[dT, dT] }) (elem : TypeId) (hu : P.underlying dT = some (.slice elem)) (hsz : (P.info? elem).map (·.size) = some 1)
  (dp : Option Addr) (gs so dLen dCap sLen sCap : Nat) (hd : a.eval d = .slice dp dLen dCap) (hs : a.eval s = .slice (some ⟨gs, so, none⟩) sLen sCap)
  (g off : Nat) (hdp : dp = some ⟨g, off, none⟩) (xs : List Int) (m : Nat) (hg : CellsI w g elem xs m) (cs : List Int) (hn : cs.length = Nat.min sLen dLen)
  (hcs : ∀ j (hj : j < cs.length), w.cell? ⟨gs, so + j, none⟩ = some (.int .i64 cs[j])) (hfit : off + cs.length ≤ xs.length) (B : Nat) (w0 : World) (hb : Below B w0 w) (hBg : B ≤ g)
  (h : ∀ w', CellsI w' g elem (splice xs off cs) m → Below B w0 w' → wpList P ops Q rest (a.put o.dst (goInt cs.length)) w') :
  wpList P ops Q (o :: rest) a w := by
 obtain ⟨rs, h1, h2⟩ := hg
 refine wpList_copy_splice hgd d s dT dT ho elem hu hsz dp (some ⟨gs, so, none⟩) dLen dCap sLen sCap hd hs g off (xs.map (Value.int .i64) ++ rs) elem h2 (cs.map (Value.int .i64)) (by rw [List.length_map]; exact hn) (fun _ => ⟨hdp, _, rfl, fun j v hj => ?_⟩) (by simp; omega) (fun v hv => by obtain ⟨z, _, rfl⟩ := List.mem_map.1 hv; rfl) B w0 hb hBg (fun w' h3 h4 => ?_)
 ·obtain ⟨hj', rfl⟩ := List.getElem?_eq_some_iff.1 hj
  have hj2 : j < cs.length := by simpa using hj'
  have := hcs j hj2
  rw [List.getElem_map, ← this]
  by_cases h0 : j = 0
  ·subst h0; simp [Addr.add]
  ·simp [Addr.add, h0]
 ·rw [splice_ints hfit] at h3
  rw [List.length_map]
  exact h w' ⟨rs, by rw [length_splice _ _ _ hfit]; exact h1, h3.out⟩ h4
theorem step_copyI {P : Program} {ops : Array Oper} {o : Oper} {a : Act} {w : World} {K : Act → World → Prop} {Q : Exit → Act → World → Prop} {E : Prop} (hgd : o.guard = none) (d s : Operand) (dT : TypeId)
  (ho : o.op = .call { callee := .builtin .copy, args := #[d, s], argTypes := #[dT, dT] }) (elem : TypeId) (hu : P.underlying dT = some (.slice elem)) (hsz : (P.info? elem).map (·.size) = some 1)
  (dp : Option Addr) (gs so dLen dCap sLen sCap : Nat) (hd : a.eval d = .slice dp dLen dCap) (hs : a.eval s = .slice (some ⟨gs, so, none⟩) sLen sCap)
  (g off : Nat) (hdp : dp = some ⟨g, off, none⟩) (xs : List Int) (m : Nat) (hg : CellsI w g elem xs m) (cs : List Int) (hn : cs.length = Nat.min sLen dLen)
  (hcs : ∀ j (hj : j < cs.length), w.cell? ⟨gs, so + j, none⟩ = some (.int .i64 cs[j])) (hfit : off + cs.length ≤ xs.length) (B : Nat) (w0 : World) (hb : Below B w0 w) (hBg : B ≤ g)
  (h : ∀ w', CellsI w' g elem (splice xs off cs) m → Below B w0 w' → K (a.put o.dst (goInt cs.length)) w') :
  if Region.wanted o (yielded ops a.tmps) = true then Oper.wp P o a w K Q else E := by
 obtain ⟨rs, h1, h2⟩ := hg
 refine step_copy_splice hgd d s dT dT ho elem hu hsz dp (some ⟨gs, so, none⟩) dLen dCap sLen sCap hd hs g off (xs.map (Value.int .i64) ++ rs) elem h2 (cs.map (Value.int .i64)) (by rw [List.length_map]; exact hn) (fun _ => ⟨hdp, _, rfl, fun j v hj => ?_⟩) (by simp; omega) (fun v hv => by obtain ⟨z, _, rfl⟩ := List.mem_map.1 hv; rfl) B w0 hb hBg (fun w' h3 h4 => ?_)
 ·obtain ⟨hj', rfl⟩ := List.getElem?_eq_some_iff.1 hj
  have hj2 : j < cs.length := by simpa using hj'
  have := hcs j hj2
  rw [List.getElem_map, ← this]
  by_cases h0 : j = 0
  ·subst h0; simp [Addr.add]
  ·simp [Addr.add, h0]
 ·rw [splice_ints hfit] at h3
  rw [List.length_map]
  exact h w' ⟨rs, by rw [length_splice _ _ _ hfit]; exact h1, h3.out⟩ h4
set_option maxHeartbeats 800000 in
set_option maxRecDepth 100000 in
theorem listOfX_any (w : World) (s idx : Int) (n : Nat) (hs : 1 ≤ s) (hs1 : s ≤ 1000) (hn : n ≤ 5) (h0 : 0 ≤ idx) (h1 : idx ≤ 1000000000000000) :
  Calls Tryz.prog 118 #[.int .i64 s, .int .i64 n, .int .i64 idx] w fun e w' => e = .returned (.slice (some ⟨w.heap.size, 0, none⟩) n n) ∧ intsT.Fr w.heap.size w' [.slice (some ⟨w.heap.size, 0, none⟩) n n] (digL s idx n) ∧ Below w.heap.size w w' := by
 go_enter Tryz.func118, Tryz.ntmps118
 go_wp2_with (refine wpList_mkI _ rfl _ _ 42 2 rfl Tryz.underlying42 infoInt w.heap.size n rfl rfl (by omega) (by decide) (by simp) ?_; intro w1 hA hg1 hs1)
 have hb1 := below_of_grown hg1
 go_loopw [8, 2] (fun i q wr => ∃ (k : Nat) (L : List Int), k ≤ n ∧ i = .int .i64 ((n : Int) - 1 - k) ∧ q = .int .i64 (idx / s ^ k) ∧ IR 2 w.heap.size wr w.heap.size n n L ∧ (∀ (j : Nat) (h : j < L.length), n - k ≤ j → L[j] = dig s idx (n - 1 - j)) ∧ Below w.heap.size w wr) (fun i _ _ => ((intOf i) + 1).toNat)
 case atStart => exact ⟨0, _, Nat.zero_le _, by simp, by simp, hA, fun j h hj => by simp at h; omega, hb1⟩
 case round =>
  obtain ⟨k, L, hk, rfl, rfl, hIR, hL, hbel⟩ := hrel
  have hLl := hIR.1
  by_cases hkl : k < n
  ·obtain ⟨j, hj⟩ : ∃ j : Nat, (n : Int) - 1 - k = j := ⟨n - 1 - k, by omega⟩
   have hjn : j < n := by omega
   have hjk : n - 1 - j = k := by omega
   obtain ⟨u0, d0⟩ := hIR.cell hjn
   have d1 := hIR.free j
   have hg := hIR.lt
   have hd := dig_nn (idx := idx) hs k
   have hq := quo_nn hs h0 k
   have hIs := hIR.set j (I64.small (n := dig s idx k) (by omega) (by omega))
   have HQ := Lib.hid (quo_succ (idx := idx) hs k)
   have HDG : Hid ((idx / s ^ k) % s = dig s idx k) := rfl
   have HIS := Lib.hid hIs
   have HLL := Lib.hid hL
   have HIR := Lib.hid hIR
   clear hIs hL hIR hA
   rw [hj]
   go_wp2_with fail
   refine ⟨⟨k + 1, L.set j (dig s idx k), by omega, congrArg _ (by omega), by rw [HQ.out], HIS.out, fun j' h hj' => ?_, hbel.setCell (Nat.le_refl _) _⟩, by simp [intOf]⟩
   by_cases e : j = j'
   ·subst e
    rw [List.getElem_set_self, hjk]
   ·rw [List.getElem_set_ne e]
    exact HLL.out j' (by simpa using h) (by omega)
  ·obtain rfl : k = n := by omega
   have hfr := Lib.hid (hIR.fr (by unfold capMax; omega))
   have HE : Hid (L = digL s idx k) := List.ext_getElem (by rw [hLl, digL_len]) fun j h h' => by rw [hL j h (by omega)]; simp [digL]
   clear hIR hL hA
   go_wp2_with fail
   go_ret
   exact ⟨rfl, by rw [← HE.out]; exact hfr.out, hbel⟩
theorem insAt_get {L : List Int} {p : Nat} {x : Int} (hp : p < L.length) : insAt L p x = splice (splice (L.take p ++ List.replicate (L.length + 1 - p) 0) p [x]) (p + 1) (L.drop p) := by
 have hl : (L.take p).length = p := List.length_take_of_le (by omega)
 have e1 : splice (L.take p ++ List.replicate (L.length + 1 - p) 0) p [x] = L.take p ++ x :: List.replicate (L.length - p) 0 := by
  unfold splice
  rw [List.take_left' hl, List.drop_append, List.drop_eq_nil_of_le (by rw [hl]; simp), hl, List.drop_replicate]
  simp only [List.length_singleton, List.nil_append, List.singleton_append]
  rw [show L.length + 1 - p - (p + 1 - p) = L.length - p by omega]
 rw [e1]
 have e2 : (L.take p ++ x :: List.replicate (L.length - p) (0 : Int)).take (p + 1) = L.take p ++ [x] := by
  rw [List.take_append, hl, List.take_of_length_le (l := L.take p) (i := p + 1) (by omega), show p + 1 - p = 1 by omega]
  rfl
 have e3 : (L.take p ++ x :: List.replicate (L.length - p) (0 : Int)).drop (p + 1 + (L.drop p).length) = [] := List.drop_eq_nil_of_le (by simp; omega)
 unfold splice insAt
 rw [e2, e3]
 simp
theorem insEnd {L : List Int} {x : Int} {p : Nat} (h : L.length = p) : insAt L p x = L ++ [x] := by
 unfold insAt
 rw [List.take_of_length_le (by omega), List.drop_eq_nil_of_le (by omega)]
set_option maxHeartbeats 800000 in
set_option maxRecDepth 100000 in
theorem insertEnd_any (w : World) {g n gv : Nat} {L : List Int} {x : Int} (hL : L.length = n) (hn : n ≤ 5) (h : ∀ j (hj : j < L.length), w.cell? ⟨g, j, none⟩ = some (.int .i64 L[j])) (hx : w.cell? ⟨gv, 0, none⟩ = some (.int .i64 x)) (hI : ∀ a ∈ L ++ [x], I64 a) :
  Calls Tryz.prog 140 #[.slice (some ⟨g, 0, none⟩) n n, .int .i64 n, .slice (some ⟨gv, 0, none⟩) 1 1] w (RetS intsT w (insAt L n x)) := by
 have HL := Lib.hid hL
 have H := Lib.hid h
 have HI := Lib.hid hI
 clear hL h hI
 go_enter Tryz.func140, Tryz.ntmps140
 go_wp2_with (refine wpList_growI _ rfl _ _ 42 2 rfl Tryz.underlying42 infoInt (by decide) rfl HL.out H.out rfl hx (by omega) ?_; intro w1 cap hC hcap hb1)
 go_ret
 refine ⟨_, rfl, ?_, hb1⟩
 have hl : (insAt L n x).length = n + 1 := by rw [insAt_len, HL.out]
 rw [← hl]
 rw [insEnd HL.out] at hl ⊢
 exact hC.fr (Nat.le_refl _) HI.out (by omega) (by unfold capMax; omega)
set_option maxHeartbeats 1600000 in
set_option maxRecDepth 100000 in
theorem insertMid_any (w : World) {g n p gv : Nat} {L : List Int} {x : Int} (hL : L.length = n) (hn : n ≤ 5) (hp : p < n) (h : ∀ j (hj : j < L.length), w.cell? ⟨g, j, none⟩ = some (.int .i64 L[j])) (hx : w.cell? ⟨gv, 0, none⟩ = some (.int .i64 x)) (hI : ∀ a ∈ insAt L p x, I64 a) (hgw : g < w.heap.size) (hgv : gv < w.heap.size) :
  Calls Tryz.prog 140 #[.slice (some ⟨g, 0, none⟩) n n, .int .i64 p, .slice (some ⟨gv, 0, none⟩) 1 1] w (RetS intsT w (insAt L p x)) := by
 have HL := Lib.hid hL
 have H := Lib.hid h
 have HI := Lib.hid hI
 have HT : Hid ((L.take p).length = p) := by unfold Hid; rw [List.length_take]; omega
 have HTC : Hid (∀ j (hj : j < (L.take p).length), w.cell? ⟨g, j, none⟩ = some (.int .i64 (L.take p)[j])) := fun j hj => by
  rw [List.getElem_take]
  exact h j (by rw [List.length_take] at hj; omega)
 obtain ⟨m, hm⟩ : ∃ m : Nat, (n : Int) + 1 - p = (m : Int) := ⟨n + 1 - p, by omega⟩
 have hpc : (p : Int) ≤ n := by omega
 have hne : ((p : Int) == (n : Int)) = false := by simp; omega
 have hgt : decide ((n : Int) < (n : Int) + 1) = true := by simp; omega
 clear hL h hI
 go_enter Tryz.func140, Tryz.ntmps140
 have H1M : Hid ((1 : Nat) = Nat.min 1 m) := by show 1 = min 1 m; omega
 have hlx : (L.take p ++ List.replicate m 0).length = p + m := by rw [List.length_append, HT.out, List.length_replicate]
 have HLX := Lib.hid hlx
 have HDL : Hid ((L.drop p).length = n - p) := by unfold Hid; rw [List.length_drop, HL.out]
 have HDC : Hid (∀ j (hj : j < (L.drop p).length), w.cell? ⟨g, p + j, none⟩ = some (.int .i64 (L.drop p)[j])) := fun j hj => by
  rw [List.getElem_drop]
  exact H.out (p + j) (by rw [List.length_drop] at hj; omega)
 have HFIN : Hid (insAt L p x = splice (splice (L.take p ++ List.replicate m 0) p [x]) (p + 1) (L.drop p)) := by
  unfold Hid
  rw [insAt_get (by rw [HL.out]; omega), show L.length + 1 - p = m by rw [HL.out]; omega]
 have hw1 : IntKind.i64.wrap ((p : Int) + 1) = ((p + 1 : Nat) : Int) := by rw [wrap_small (by omega) (by omega)]; omega
 have hw2 : (1 : Int) ≤ (m : Int) := by omega
 have hw3 : (0 : Int) ≤ (p : Int) + 1 := by omega
 have hnp : ¬ (n = p) := by omega
 clear hlx
 go_wp2_with (first | (refine wpList_zerosI _ rfl _ _ 42 3 2 rfl Tryz.underlying42 Tryz.underlying3 infoInt (by decide) rfl HT.out HTC.out (m := m) (by first | rfl | (rw [← hm]; rfl)) (by omega) (by omega) (by omega) ?_; intro w1 cap hC hcap hb1; have HC := Lib.hid hC; have hz1 := hb1.size; clear hC) | (refine wpList_copyI rfl (.tmp 43) (.tmp 44) 42 rfl 2 Tryz.underlying42 (by kernel_rfl) (some ⟨w.heap.size, p, none⟩) gv 0 m (cap - p) 1 1 rfl rfl w.heap.size p rfl (L.take p ++ List.replicate m 0) cap HC.out [x] H1M.out (fun j hj => ?_) ?_ w.heap.size w hb1 (Nat.le_refl _) ?_; rotate_left 2; intro w2 hC2 hb2; have HC2 := Lib.hid hC2; clear hC2))
 have hc1 : ¬ (cap = p + 1) := by omega
 rotate_left
 ·obtain rfl : j = 0 := by simpa using hj
  exact (cellB hb1 hgv).trans hx
 ·rw [HLX.out]; simp; omega
 refine wp_region_T (fun _ => True) [8] (by kernel_rfl) trivial (fun hHeld => ?_)
 refine wpAnyT_take (i := 0) (v := ?_) rfl (by kernel_rfl) (fun _ _ _ h => h) (Or.inl ⟨by rfl, ?_⟩) (by assumption) ?_
 rotate_left
 ·(intro w hSw; (try dsimp only at hSw); go_simp <;> with_reducible rfl)
 go_simp
 refine wpAnyT_take (i := 1) (v := ?_) rfl (by kernel_rfl) (fun _ _ _ h => h) (Or.inl ⟨by rfl, ?_⟩) (by assumption) ?_
 rotate_left
 ·(intro w hSw; (try dsimp only at hSw); go_simp <;> with_reducible rfl)
 go_simp
 refine wpAnyT_take (i := 2) (v := ?_) rfl (by kernel_rfl) (fun _ _ _ h => h) (Or.inl ⟨by rfl, ?_⟩) (by assumption) ?_
 rotate_left
 ·(intro w hSw; (try dsimp only at hSw); go_simp <;> with_reducible rfl)
 go_simp
 refine wpAnyT_take (i := 3) (v := ?_) rfl (by kernel_rfl) (fun _ _ _ h => h) (Or.inl ⟨by rfl, ?_⟩) (by assumption) ?_
 rotate_left
 ·(intro w hSw; (try dsimp only at hSw); go_simp <;> with_reducible rfl)
 go_simp
 refine wpAnyT_take (i := 4) (v := ?_) rfl (by kernel_rfl) (fun _ _ _ h => h) (Or.inl ⟨by rfl, ?_⟩) (by assumption) ?_
 rotate_left
 ·(intro w hSw; (try dsimp only at hSw); go_simp <;> with_reducible rfl)
 go_simp
 refine wpAnyT_take (i := 5) (v := ?_) rfl (by kernel_rfl) (fun _ _ _ h => h) (Or.inl ⟨by rfl, ?_⟩) (by assumption) ?_
 rotate_left
 ·(intro w hSw; (try dsimp only at hSw); go_simp <;> with_reducible rfl)
 go_simp
 refine wpAnyT_take (i := 6) (v := ?_) rfl (by kernel_rfl) (fun _ _ _ h => h) (Or.inl ⟨by rfl, ?_⟩) (by assumption) ?_
 rotate_left
 ·(intro w hSw; (try dsimp only at hSw); go_simp <;> with_reducible rfl)
 go_simp
 refine wpAnyT_take (i := 7) (v := ?_) rfl (by kernel_rfl) (fun _ _ _ h => h) (Or.inl ⟨by rfl, ?_⟩) (by assumption) ?_
 rotate_left
 ·(intro w hSw; (try dsimp only at hSw); go_simp <;> with_reducible rfl)
 go_simp
 refine wpAnyT_last (i := 8) rfl (by kernel_rfl) (by kernel_rfl) (fun K hK => ?_)
 refine step_copyI rfl (.tmp 50) (.tmp 53) 42 rfl 2 Tryz.underlying42 (by kernel_rfl) (some ⟨w.heap.size, p + 1, none⟩) g p (p + m - (p + 1)) (cap - (p + 1)) (n - p) (n - p) rfl rfl w.heap.size (p + 1) rfl (splice (L.take p ++ List.replicate m 0) p [x]) cap HC2.out (L.drop p) ?_ (fun j hj => ?_) ?_ w.heap.size w hb2.drew (Nat.le_refl _) ?_
 ·rw [HDL.out]; show n - p = min (n - p) (p + m - (p + 1)); omega
 ·exact (cellB hb2.drew hgw).trans (HDC.out j hj)
 ·rw [length_splice _ _ _ (by rw [HLX.out]; simp; omega), HLX.out, HDL.out]; omega
 intro w3 hC3 hb3
 rw [← HFIN.out] at hC3
 have HC3 := Lib.hid hC3
 clear hC3
 refine hK.out _ _ ?_
 clear hK K
 refine wpAnyT_done (by kernel_rfl) ?_ _
 go_simp
 go_wp2_with fail
 go_ret
 refine ⟨_, rfl, ?_, hb3⟩
 have hl : (insAt L p x).length = p + m := by rw [insAt_len, HL.out]; omega
 rw [← hl]
 exact HC3.out.fr (Nat.le_refl _) HI.out (by omega) (by unfold capMax; omega)
theorem Insert_any (w : World) {g n p gv : Nat} {L : List Int} {x : Int} (hL : L.length = n) (hn : n ≤ 5) (hp : p ≤ n) (h : ∀ j (hj : j < L.length), w.cell? ⟨g, j, none⟩ = some (.int .i64 L[j])) (hx : w.cell? ⟨gv, 0, none⟩ = some (.int .i64 x)) (hI : ∀ a ∈ insAt L p x, I64 a) (hgw : g < w.heap.size) (hgv : gv < w.heap.size) :
  Calls Tryz.prog 140 #[.slice (some ⟨g, 0, none⟩) n n, .int .i64 p, .slice (some ⟨gv, 0, none⟩) 1 1] w (RetS intsT w (insAt L p x)) := by
 by_cases e : p = n
 ·subst e
  exact insertEnd_any w hL hn h hx (by rw [insEnd hL] at hI; exact hI)
 ·exact insertMid_any w hL hn (by omega) h hx hI hgw hgv
end Go.Proofs.YtggelmbnliajeaaGreatDoor
namespace Go.Proofs.YtggelmbnliajeaaGreatDoor
open Go.RowKit Go.Sort
theorem hasI_iff {xs : List Int} {n : Int} : hasI xs n = true ↔ n ∈ xs := by
 unfold hasI anyB
 rw [List.any_eq_true]
 constructor
 ·rintro ⟨a, ha, h⟩
  have : n = a := by simpa using h
  rw [this]; exact ha
 ·intro h
  exact ⟨n, h, by simp⟩
theorem ints_take {w : World} {g n p : Nat} {xs : List Int} (h : intsT.Rd w [.slice (some ⟨g, 0, none⟩) n n] xs) (hp : p ≤ n) : intsT.Rd w [.slice (some ⟨g, 0, none⟩) p n] (xs.take p) := by
 obtain ⟨fp, ad, cap, hv, h1, h2, h3⟩ := h
 simp only [List.cons.injEq, Value.slice.injEq, and_true] at hv
 obtain ⟨rfl, rfl, rfl⟩ := hv
 have hl : (xs.take p).length = p := List.length_take_of_le hp
 rcases Nat.eq_zero_or_pos p with h0 | h0
 ·subst h0
  rw [List.take_zero]
  exact ⟨[], _, _, rfl, Nat.zero_le _, Nat.zero_le _, .inl ⟨rfl, rfl⟩⟩
 ·rcases h3 with ⟨h3, _⟩ | ⟨h3, b, o, fps, he, hb, rfl, h4⟩
  ·omega
  ·simp only [Option.some.injEq, Addr.mk.injEq, and_true] at he
   obtain ⟨rfl, rfl⟩ := he
   refine ⟨_, some ⟨g, 0, none⟩, xs.length, by rw [hl], by omega, by omega, .inr ⟨by omega, g, 0, fps, rfl, hb, rfl, fun i hi => ?_⟩⟩
   obtain ⟨cs, h5, h6⟩ := h4 i (by omega)
   rw [List.getElem_take]
   exact ⟨cs, h5, h6⟩
theorem pickL_get {L : List (List Int)} {ks : List Int} {j d : Nat} (hj : j < ks.length) (hd : ks[j] = (d : Int)) (hdl : d < L.length) (h : j < (pickL L ks).length) : (pickL L ks)[j] = L[d] := by
 have e : (pickL L ks)[j] = L.getD (ks[j]).toNat [] := by simp [pickL]
 rw [e, hd, Int.toNat_natCast, List.getD_eq_getElem?_getD, List.getElem?_eq_getElem hdl]
 rfl
theorem take_get {L : List (List Int)} {n d : Nat} (hd : d < n) (hn : n ≤ L.length) : ∃ _h : d < (L.take n).length, (L.take n)[d] = L[d]'(by omega) := ⟨by rw [List.length_take]; omega, List.getElem_take⟩
/-- the state while an operation is applied -/
structure CmbW (P : Program) (km em te B bs ba mb : Nat) (s : Int) (ops : List (Int × List Int)) (ar : Nat) (T : List (List Int)) (f : Int × List Int) (w0 W : World) (bx g n : Nat) (vs : List Value) (A : List (List Int)) (p k bd : Nat) (wr : World) (v' : Value) (vs' : List Value) (A' : List (List Int)) : Prop where
 st : AddI P km em te B bs ba mb wr v' vs' A'
 pre : A <+: A'
 pvs : vs <+: vs'
 cli : ClI s ops ar T A'
 cmb : CmbTo s f ar (A.take n) A' p k
 len : A'.length ≤ bd
 cel : ∀ j (h : j < n) (h' : j < vs.length), wr.cell? ⟨g, j, none⟩ = some vs[j]
 bel : Below B w0 wr
 box : ∀ j, wr.cell? ⟨bx, j, none⟩ = W.cell? ⟨bx, j, none⟩
 bxl : bx < wr.heap.size
 own : v'.ownBlock ≠ some bx
 gl : g < bx
 siz : w0.heap.size ≤ wr.heap.size
section
variable {P : Program} {km em te B bs ba mb : Nat} {s : Int} {ops : List (Int × List Int)} {ar : Nat} {T : List (List Int)} {f : Int × List Int} {w0 W : World} {bx g n : Nat} {vs : List Value} {A : List (List Int)} {p k bd : Nat} {wr wr' : World} {v' : Value} {vs' : List Value} {A' : List (List Int)}
theorem CmbW.below (h : CmbW P km em te B bs ba mb s ops ar T f w0 W bx g n vs A p k bd wr v' vs' A') (hb : Below wr.heap.size wr wr') (hB : B ≤ w0.heap.size) : CmbW P km em te B bs ba mb s ops ar T f w0 W bx g n vs A p k bd wr' v' vs' A' where
 st := h.st.below hb (Nat.le_refl _)
 pre := h.pre
 pvs := h.pvs
 cli := h.cli
 cmb := h.cmb
 len := h.len
 cel := fun j h1 h2 => (cellB hb (Nat.lt_trans h.gl h.bxl)).trans (h.cel j h1 h2)
 bel := h.bel.trans (hb.mono (Nat.le_trans hB h.siz))
 box := fun j => (cellB hb h.bxl).trans (h.box j)
 bxl := Nat.lt_of_lt_of_le h.bxl hb.size
 own := h.own
 gl := h.gl
 siz := Nat.le_trans h.siz hb.size
theorem CmbW.to {p' k' bd' : Nat} (h : CmbW P km em te B bs ba mb s ops ar T f w0 W bx g n vs A p k bd wr v' vs' A') (hc : CmbTo s f ar (A.take n) A' p k → CmbTo s f ar (A.take n) A' p' k') (hb : bd ≤ bd') : CmbW P km em te B bs ba mb s ops ar T f w0 W bx g n vs A p' k' bd' wr v' vs' A' where
 st := h.st
 pre := h.pre
 pvs := h.pvs
 cli := h.cli
 cmb := hc h.cmb
 len := Nat.le_trans h.len hb
 cel := h.cel
 bel := h.bel
 box := h.box
 bxl := h.bxl
 own := h.own
 gl := h.gl
 siz := h.siz
/-- behind an addition -/
theorem CmbW.add {v2 : Value} {vs2 : List Value} {l : List Int} (h : CmbW P km em te B bs ba mb s ops ar T f w0 W bx g n vs A p k bd wr v' vs' A') (hB : B ≤ w0.heap.size) (hst : AddI P km em te B bs ba mb wr' v2 vs2 (adL A' l)) (hvs : vs' <+: vs2) (hF : AddF ba mb v' vs'.length wr wr') (hown : v2.ownBlock = v'.ownBlock ∨ ∃ q, v2.ownBlock = some q ∧ wr.heap.size ≤ q)
  (hbx : bx ≠ ba ∧ bx ≠ mb) (hg : g ≠ ba ∧ g ≠ mb) (hn : n ≤ vs.length) (hcl : Clo s ops ar T l) (hl : madeL s f.2 (pickL (A.take n) (insAt (digL (A.take n).length k (f.1.toNat - 1)) p (((A.take n).length : Int) - 1))) ar = l) : CmbW P km em te B bs ba mb s ops ar T f w0 W bx g n vs A p (k + 1) (bd + 1) wr' v2 vs2 (adL A' l) where
 st := hst
 pre := h.pre.trans adL_pre
 pvs := h.pvs.trans hvs
 cli := by
  by_cases e : l ∈ A'
  ·rw [adL_yes e]; exact h.cli
  ·rw [adL_no e]; exact cli_add h.cli e hcl
 cmb := cmb_put h.cmb (fun x hx => adL_pre.subset hx) (by rw [hl]; exact adL_mem)
 len := Nat.le_trans adL_len (Nat.succ_le_succ h.len)
 cel := fun j h1 h2 => (hF.2 g j (Nat.lt_trans h.gl h.bxl) hg.1 hg.2 (fun _ => Nat.lt_of_lt_of_le h1 (Nat.le_trans hn h.pvs.length_le))).trans (h.cel j h1 h2)
 bel := h.bel.trans (hF.1.below (Nat.le_trans hB h.siz) (fun q hq hh => by
  obtain ⟨_, g2, g3⟩ := h.st.ge
  rcases hh with hh | hh | hh
  ·omega
  ·omega
  ·have := h.st.row.own hh; omega))
 box := fun j => (hF.2 bx j h.bxl hbx.1 hbx.2 (fun e => absurd e h.own)).trans (h.box j)
 bxl := Nat.lt_of_lt_of_le h.bxl hF.1.size
 own := fun e => by
  rcases hown with h1 | ⟨q, h1, h2⟩
  ·exact h.own (h1.symm.trans e)
  ·rw [h1] at e; cases e; have := h.bxl; omega
 gl := h.gl
 siz := Nat.le_trans h.siz hF.1.size
end
set_option maxHeartbeats 6400000 in
set_option maxRecDepth 100000 in
theorem combine_any (w : World) {B bs ba mb : Nat} {v : Value} {vs : List Value} {A : List (List Int)} (hI : AddI Tryz.prog 9 4 42 B bs ba mb w v vs A) {s : Int} (hs : sizeOk s) {ops : List (Int × List Int)} {ar : Nat} {T : List (List Int)} {f : Int × List Int} (hf : f ∈ ops) (ho : ∀ f ∈ ops, opOk s f) (hT : ∀ l ∈ T, tupP s ar l) (har : ar ≤ 1000) (hCl : ClI s ops ar T A) {cs : Array Value} (hcs : opT.RdP (fun k => k < B) w cs.toList f) {g n cap : Nat} (hg : v.ownBlock = some g) (hn : 1 ≤ n ∧ n ≤ 300 ∧ n ≤ A.length) (hA : A.length ≤ 300) (hB : B ≤ w.heap.size) :
  Calls Tryz.prog 108 #[.int .i64 s, .agg cs, .slice (some ⟨g, 0, none⟩) n cap, .func (.func 106) #[] #[.pointer (some ⟨bs, 0, none⟩), .pointer (some ⟨ba, 0, none⟩)]] w fun e w' => e = .returned (.tuple #[]) ∧ ∃ v' vs' A', AddI Tryz.prog 9 4 42 B bs ba mb w' v' vs' A' ∧ A <+: A' ∧ ClI s ops ar T A' ∧ CmbP s f ar (A.take n) A' ∧ Below B w w' ∧ A'.length ≤ 1000000 := by
 obtain ⟨u, hv, hI1, hx⟩ := pair_ex hcs.rd
 obtain rfl := agg_of hv
 obtain ⟨tad, tcap, htv, -, -, -⟩ := ints_ex hx
 obtain rfl : u = _ := by simpa using htv
 have hfo := ho f hf
 obtain ⟨af, haf⟩ : ∃ af : Nat, f.1 = (af : Int) := ⟨f.1.toNat, by have := hfo.2.1; omega⟩
 have haf3 : 1 ≤ af ∧ af ≤ 3 := by have := hfo.2.1; omega
 obtain ⟨aq, haq⟩ : ∃ aq, af = aq + 1 := ⟨af - 1, by omega⟩
 have hw1 : IntKind.i64.wrap ((af : Int) - 1) = (aq : Int) := by rw [wrap_small (by omega) (by omega)]; omega
 obtain ⟨ln, hln⟩ : ∃ ln, n = ln + 1 := ⟨n - 1, by omega⟩
 have hw2 : IntKind.i64.wrap ((n : Int) - 1) = (ln : Int) := by rw [wrap_small (by omega) (by omega)]; omega
 obtain ⟨M, hM⟩ : ∃ M : Nat, (n : Int) ^ aq = (M : Int) := ⟨((n : Int) ^ aq).toNat, by have := pow_nn (s := (n : Int)) (by omega) aq; omega⟩
 have hMle : M ≤ 90000 := by
  have h1 : (n : Int) ^ aq ≤ 90000 := by
   refine Int.le_trans (pow_mono' (by omega) (show (n : Int) ≤ 300 by omega) aq) ?_
   rcases (show aq = 0 ∨ aq = 1 ∨ aq = 2 by omega) with e | e | e <;> rw [e] <;> decide
  omega
 have hLn : (A.take n).length = n := List.length_take_of_le hn.2.2
 have hfn : f.1.toNat - 1 = aq := by omega
 have HF : Hid (∀ X, Below B w X → opT.Rd X [.int .i64 f.1, .slice tad f.2.length tcap] f) := fun X hX => by
  obtain ⟨fp, h1, h2⟩ := hcs
  exact ⟨fp, opT.same h1 (fun k hk => hX.block k (h2 k hk))⟩
 have HVL : Hid (vs.length = A.length) := hI.len
 have hvn : n ≤ vs.length := by rw [hI.len]; exact hn.2.2
 have hgw : g < w.heap.size := hI.row.own_lt hg
 have hds := hI.ds
 have hgne : g ≠ ba ∧ g ≠ mb := ⟨fun e => hds.2.2.2.2.1 (by rw [← e]; exact hg), fun e => hds.2.2.2.2.2 (by rw [← e]; exact hg)⟩
 have HCE : Hid (∀ j (h : j < n) (h' : j < vs.length), w.cell? ⟨g, j, none⟩ = some vs[j]) := fun j h1 h2 => by
  obtain ⟨o1, -, -⟩ := bl_val_own hI.row
  rcases o1.2 with ⟨rfl, _⟩ | ⟨g', cap', cur, rfl, _⟩
  ·cases hg
  ·obtain rfl : g' = g := by simpa [Value.ownBlock] using hg
   rw [World.ownsRow.cellAt o1 j (by omega), List.getElem?_eq_getElem h2]
 have hlt3 := hI.lt
 have HI := Lib.hid hI
 have HFO := Lib.hid hfo
 have HO := Lib.hid ho
 have HT := Lib.hid hT
 have HCL := Lib.hid hCl
 have HM := Lib.hid hM
 have HG := Lib.hid hg
 have HAF := Lib.hid haf
 have HAQ := Lib.hid haq
 have HLN := Lib.hid hln
 have HLL := Lib.hid hLn
 have HFN := Lib.hid hfn
 have HFM := Lib.hid hf
 have HS := Lib.hid hs
 have hs4 : 1 ≤ s ∧ s ≤ 4 := hs
 have hq2 : aq + 1 ≤ af ∧ af ≤ aq + 1 := by omega
 have hl2 : ln + 1 ≤ n ∧ n ≤ ln + 1 := by omega
 clear hcs hv htv hx hI1 hI hfo ho hT hCl hM hg haf hLn hfn hf hs haq hln
 rw [HAF.out]
 go_enter Tryz.func108, Tryz.ntmps108
 go_wp2_with fail
 generalize hW : World.alloc w _ = W
 have hbW : Below w.heap.size w W := hW ▸ bA
 have hsW : w.heap.size < W.heap.size := by rw [← hW]; simp
 have c0 : W.cell? ⟨w.heap.size, 0, none⟩ = some (.int .i64 (af : Int)) := by rw [← hW]; simp [go_sem]
 have c1 : W.cell? ⟨w.heap.size, 1, none⟩ = some (.slice tad f.2.length tcap) := by rw [← hW]; simp [go_sem]
 clear hW
 have HST : Hid (CmbW Tryz.prog 9 4 42 B bs ba mb s ops ar T f w W w.heap.size g n vs A 0 0 (300 + 0 * M) W v vs A) := by
  refine ⟨HI.out.below hbW (Nat.le_refl _), List.prefix_refl _, List.prefix_refl _, HCL.out, cmb_zero, by omega, fun j h1 h2 => (cellB hbW hgw).trans (HCE.out j h1 h2), hbW.mono hB, fun _ => rfl, hsW, HI.out.row.own_ne (Nat.le_refl _), hgw, hbW.size⟩
 clear HI HCL
 go_wp2_with fail
 go_loopw [22] (fun i wr => ∃ (p : Nat) (v' : Value) (vs' : List Value) (A' : List (List Int)), p ≤ af ∧ i = .int .i64 p ∧ CmbW Tryz.prog 9 4 42 B bs ba mb s ops ar T f w W w.heap.size g n vs A p 0 (300 + p * M) wr v' vs' A') (fun i _ => af - (intOf i).toNat)
 case atStart => exact ⟨0, v, vs, A, Nat.zero_le _, rfl, HST.out⟩
 case round =>
  obtain ⟨p, v1, vs1, A1, hp, rfl, hC1⟩ := hrel
  have HC1 := Lib.hid hC1
  have e0 := (hC1.box 0).trans c0
  clear hC1 HST
  by_cases hpl : p < af
  ·go_wp2_with fail
   refine (power_any wr (n : Int) (aq : Int) (by omega) (by omega) (by omega)).mono ?_
   rintro e _ ⟨rfl, rfl⟩
   rw [Int.toNat_natCast, HM.out]
   clear e0
   go_wp2_with fail
   go_loopw [30] (fun i wr => ∃ (k : Nat) (v' : Value) (vs' : List Value) (A' : List (List Int)), k ≤ M ∧ i = .int .i64 k ∧ CmbW Tryz.prog 9 4 42 B bs ba mb s ops ar T f w W w.heap.size g n vs A p k (300 + p * M + k) wr v' vs' A') (fun i _ => M - (intOf i).toNat)
   case atStart => exact ⟨0, v1, vs1, A1, Nat.zero_le _, rfl, HC1.out⟩
   case round =>
    obtain ⟨k, v2, vs2, A2, hk, rfl, hC2⟩ := hrel
    obtain ⟨wv, rfl⟩ : ∃ wv : World, wv = wr := ⟨_, rfl⟩
    have HC2 := Lib.hid hC2
    have e0 := (hC2.box 0).trans c0
    have hbxl := hC2.bxl
    clear hC2 HC1
    by_cases hkl : k < M
    ·go_wp2_with fail
     refine (listOfX_any wv (n : Int) (k : Int) aq (by omega) (by omega) (by omega) (by omega) (by omega)).mono ?_
     rintro e w1 ⟨rfl, hfr, hb1⟩
     obtain ⟨D, hD⟩ : ∃ D, D = digL (n : Int) (k : Int) aq := ⟨_, rfl⟩
     rw [← hD] at hfr
     have HD := Lib.hid hD
     have HDL : Hid (D.length = aq) := by unfold Hid; rw [hD, digL_len]
     have HFR := Lib.hid hfr
     have hz1 := hb1.size
     have hpq : (p : Int) ≤ (aq : Int) := by omega
     have hpq2 : p ≤ aq := by omega
     have HCW := Lib.hid (HC2.out.below hb1 hB)
     clear hfr hD e0
     go_wp2_with fail
     refine (ContainsI_any _ (ints_take HFR.out.rd hpq2) (ln : Int)).mono ?_
     rintro e _ ⟨rfl, rfl⟩
     cases hh : hasI (D.take p) (ln : Int)
     ·go_wp2_with fail
      have HDC : Hid (∀ j (hj : j < D.length), w1.cell? ⟨wv.heap.size, j, none⟩ = some (.int .i64 D[j])) := fun j hj => by
       obtain ⟨ad, cp, hv, -, -, hc⟩ := ints_ex HFR.out.rd
       simp only [List.cons.injEq, Value.slice.injEq, and_true] at hv
       obtain ⟨rfl, h2, rfl⟩ := hv
       obtain ⟨b, o, e, _, hce⟩ := hc (by omega)
       simp only [Option.some.injEq, Addr.mk.injEq, and_true] at e
       obtain ⟨rfl, rfl⟩ := e
       simpa using (hce j hj).2
      have HDR : Hid (∀ a ∈ insAt D p (ln : Int), 0 ≤ a ∧ a < (n : Int)) := fun a ha => by
       rcases insAt_mem ha with e | e
       ·omega
       ·rw [HD.out] at e
        exact dig_mem (by omega) e
      generalize hWb : World.alloc (World.alloc w1 _) _ = wb
      have hbb : Below w1.heap.size w1 wb := hWb ▸ bAA
      have hsb : w1.heap.size + 2 ≤ wb.heap.size := by rw [← hWb]; simp
      have x0 : wb.cell? ⟨w1.heap.size + 1, 0, none⟩ = some (.int .i64 (ln : Int)) := by rw [← hWb]; simp [go_sem]
      have HB0 : Hid (Bl Ty.val 42 w1.heap.size wb.heap.size wb (.slice (some ⟨w1.heap.size, 0, none⟩) 0 0) []) := by
       unfold Hid
       rw [← hWb]
       exact ((Bl.lit0 (E := Ty.val) (e := 42) (w := w1) (Nat.le_refl _)).below (bA (w := w1.alloc (.cells #[] 42))) (by simp)).mono (by simp)
      clear hWb
      refine (Insert_any wb (g := wv.heap.size) (n := aq) (p := p) (gv := w1.heap.size + 1) (L := D) (x := (ln : Int)) HDL.out (by omega) hpq2 (fun j hj => (cellB hbb (by have := HFR.out.rd; have := hb1.size; have := HDC.out j hj; exact cell_lt this)).trans (HDC.out j hj)) x0 (fun a ha => by have := HDR.out a ha; exact I64.small (by omega) (by omega)) ?_ (by omega)).mono ?_
      ·omega
      rintro e w4 ⟨u, rfl, hfr4, hb4⟩
      obtain ⟨IA, hIA⟩ : ∃ IA, IA = insAt D p (ln : Int) := ⟨_, rfl⟩
      rw [← hIA] at hfr4
      have hIAl : IA.length = af := by rw [hIA, insAt_len, HDL.out, HAQ.out]
      have HIAL := Lib.hid hIAl
      have HIA := Lib.hid hIA
      have HIR : Hid (∀ a ∈ IA, 0 ≤ a ∧ a < (n : Int)) := by unfold Hid; rw [hIA]; exact HDR.out
      obtain ⟨dad, dcap, hdv, -, -, hdc⟩ := ints_ex hfr4.rd
      obtain rfl : u = _ := by simpa using hdv
      obtain ⟨db, dof, rfl, hdb, hdce⟩ := hdc (by omega)
      rw [hIAl]
      have hdbl := fr_block hfr4 (by omega)
      have HDC4 := Lib.hid hdce
      have hz4 := hb4.size
      have hb14 : Below w1.heap.size w1 w4 := bthen hbb hb4
      have HBL0 : Hid (Bl Ty.val 42 w1.heap.size w4.heap.size w4 (.slice (some ⟨w1.heap.size, 0, none⟩) 0 0) []) := (HB0.out.below hb4 (Nat.le_refl _)).mono hz4
      have hbv4 : Below wv.heap.size wv w4 := bthen hb1 hb14
      have HPV : Hid (∀ d, d < n → ∃ (y : Value) (h : d < (A.take n).length), wv.cell? ⟨g, d, none⟩ = some y ∧ intsT.Rd wv [y] (A.take n)[d]) := fun d hd => by
       have hd1 : d < vs.length := by omega
       have hc := HC2.out.cel d hd hd1
       have hd2 : d < vs2.length := Nat.lt_of_lt_of_le hd1 HC2.out.pvs.length_le
       have hd3 : d < A2.length := by have := HC2.out.st.len; omega
       have hr := HC2.out.st.rd d hd2 hd3
       obtain ⟨h4, e4⟩ := take_get hd hn.2.2
       refine ⟨_, h4, hc, ?_⟩
       rw [e4]
       have e5 : vs2[d] = vs[d] := (List.IsPrefix.getElem HC2.out.pvs hd1).symm
       have e6 : A2[d] = A[d] := (List.IsPrefix.getElem HC2.out.pre (by omega)).symm
       rw [e5, e6] at hr
       exact hr.rd
      clear hdv hdc hdce hfr4 hIA hIAl x0 HB0 HDR HFR HDC
      go_wp2_with fail
      go_loopw [51, 13] (fun i q wr => ∃ (j : Nat) (pv : List Value), j ≤ af ∧ i = .int .i64 j ∧ pv.length = j ∧ picked wv pv (pickL (A.take n) IA) ∧ Bl Ty.val 42 w1.heap.size wr.heap.size wr q pv ∧ Below w1.heap.size w1 wr ∧ (q.ownBlock ≠ some db ∧ wr.heap[db]? = w4.heap[db]? ∧ w4.heap.size ≤ wr.heap.size)) (fun i _ _ => af - (intOf i).toNat)
      case atStart => exact ⟨0, [], Nat.zero_le _, rfl, rfl, picked_nil, HBL0.out, hb14, by simp [Value.ownBlock]; omega, rfl, Nat.le_refl _⟩
      case round =>
       obtain ⟨j, pv, hj, rfl, hvl, hpk, hBl, hb5, hdg⟩ := hrel
       have HB2 := Lib.hid hBl
       have HVL := Lib.hid hvl
       have HPK := Lib.hid hpk
       have HDG := Lib.hid hdg
       have hbv5 : Below wv.heap.size wv wr := bthen hb1 hb5
       have hz5 := hb5.size
       clear hBl hvl hpk hdg
       by_cases hjl : j < af
       ·have hjd : j < IA.length := by rw [HIAL.out]; exact hjl
        have hdm := HIR.out _ (List.getElem_mem hjd)
        obtain ⟨dn, hdn⟩ : ∃ dn : Nat, IA[j] = (dn : Int) := ⟨(IA[j]).toNat, by omega⟩
        have hdl : dn < n := by omega
        have e0 := (World.cell?_of_block (a := ⟨db, dof + j, none⟩) HDG.out.2.1).trans (HDC4.out j hjd).2
        rw [hdn] at e0
        obtain ⟨y, hyl, hcy, hry⟩ := HPV.out dn hdl
        obtain ⟨ua, un, uc, rfl⟩ := rd_sl hry
        have e1 := (hbv5.cell (p := ⟨g, dn, none⟩) (show g < wv.heap.size by omega)).trans hcy
        have HPN : Hid (picked wv (pv ++ [.slice ua un uc]) (pickL (A.take n) IA)) := by
         have hl : j < (pickL (A.take n) IA).length := by rw [pickL_len]; exact hjd
         have hg := pickL_get hjd hdn hyl hl
         have hv := HVL.out
         subst hv
         exact picked_snoc HPK.out hl (by rw [hg]; exact hry)
        have hvj : pv.length ≤ 1000000000 := by rw [HVL.out]; omega
        clear hdm hdn hry hcy
        go_wp2_with (refine wpList_push (E := Ty.val) _ rfl _ _ 23 42 rfl elInt64SS rfl (HB2.out.below bA (Nat.le_refl _)) rfl news1 (fr_val rfl) hvj (by decide) hz5 (by simp) ?_; intro v1 w6 hB6 hg6 ho6)
        have hbel6 : Below w1.heap.size w1 w6 := (hb5.alloc hb5.size _).grown hg6 (by simp; omega) (fun k hk => HB2.out.own hk)
        have HB6 := Lib.hid hB6
        have HDN : Hid (v1.ownBlock ≠ some db ∧ w6.heap[db]? = w4.heap[db]? ∧ w4.heap.size ≤ w6.heap.size) := by
         obtain ⟨n1, n2, n3⟩ := HDG.out
         have hz6 := hg6.size
         simp only [World.size_alloc] at hz6
         refine ⟨?_, ?_, by omega⟩
         ·rcases ho6 with e | e <;> rw [e]
          ·exact n1
          ·intro h; simp at h; omega
         ·rw [hg6.block db (by simp; omega) (fun h => n1 h.symm), ← n2]
          exact (bA (w := wr)).block db (by omega)
        clear hB6 ho6 hg6
        go_wp2_with fail
        refine ⟨⟨j + 1, _, by omega, by go_num, by rw [List.length_append, HVL.out]; rfl, HPN.out, HB6.out, hbel6, HDN.out⟩, by simp [intOf]; omega⟩
       ·obtain rfl : j = af := by omega
        obtain ⟨wl, rfl⟩ : ∃ wl : World, wl = wr := ⟨_, rfl⟩
        have hfv := HB2.out.fr (by rw [HVL.out]; unfold capMax; omega)
        have HLR := Lib.hid (rows_of_vals hfv.rd (by rw [HVL.out, pickL_len, HIAL.out]) (fun i h h' => (HPK.out.2 i h h').below hbv5))
        obtain ⟨la, lnn, lc, hq⟩ := ex_slice hfv
        subst hq
        have HC5 := Lib.hid (HC2.out.below hbv5 hB)
        have a0 := (HC5.out.box 0).trans c0
        have a1 := (HC5.out.box 1).trans c1
        have HTL : Hid (∀ l ∈ A.take n, tupP s ar l ∧ Clo s ops ar T l) := fun l hl => by
         have h1 : l ∈ A2 := HC2.out.pre.subset (List.mem_of_mem_take hl)
         have h2 := HC2.out.cli.clo l h1
         exact ⟨clo_in HO.out HT.out h2, h2⟩
        have HIN : Hid (∀ l ∈ pickL (A.take n) IA, l ∈ A.take n) := pickL_in (fun k hk => by rw [HLL.out]; exact HIR.out k hk)
        have HTO : Hid (tupsOk s f.1 ar (pickL (A.take n) IA)) := ⟨by rw [pickL_len, HIAL.out, HAF.out], fun l hl => (HTL.out l (HIN.out l hl)).1⟩
        have HFX : Hid (opT.Rd wl (#[Value.int .i64 (j : Int), .slice tad f.2.length tcap] : Array Value).toList f) := by
         have := HF.out wl HC5.out.bel
         rw [HAF.out] at this
         exact this
        have HCLO : Hid (Clo s ops ar T (madeL s f.2 (pickL (A.take n) IA) ar)) := .step HFM.out (by rw [pickL_len, HIAL.out, HAF.out]) (fun l hl => (HTL.out l (HIN.out l hl)).2)
        have HDG2 : Hid (dgs (madeL s f.2 (pickL (A.take n) IA) ar)) := fun a ha => by
         have := (clo_in HO.out HT.out HCLO.out).2 a ha
         omega
        have HMK : Hid (madeL s f.2 (pickL (A.take n) (insAt (digL (A.take n).length k (f.1.toNat - 1)) p (((A.take n).length : Int) - 1))) ar = madeL s f.2 (pickL (A.take n) IA) ar) := by
         unfold Hid
         rw [HIA.out, HD.out, HLL.out, HFN.out, show (n : Int) - 1 = (ln : Int) by omega]
        have hml : (madeL s f.2 (pickL (A.take n) IA) ar).length = ar := madeL_len
        have HML := Lib.hid hml
        have ha2 : A2.length ≤ 100000000 := by
         have h1 := HC2.out.len
         have h2 : p * M ≤ 3 * 90000 := Nat.mul_le_mul (by omega) hMle
         omega
        clear hfv hml HDC4 HPV HBL0 HTL HIN
        go_wp2_with fail
        refine (made_any wl HFX.out HLR.out HFO.out HTO.out har).mono ?_
        rintro e w6 ⟨mg, rfl, hfm, hb6⟩
        generalize madeL s f.2 (pickL (A.take n) IA) ar = ml at HCLO HDG2 HMK HML hfm
        have HC6 := Lib.hid (HC5.out.below hb6 hB)
        have hlt5 := HC5.out.st.lt
        have HU : Hid (intsT.RdP (avd bs ba mb v2) w6 [.slice (some ⟨mg, 0, none⟩) ar ar] ml) := by
         obtain ⟨fp, q1, -, q3, -⟩ := hfm
         exact ⟨fp, q1, fun k hk => ⟨by have := q3 k hk; omega, by have := q3 k hk; omega, by have := q3 k hk; omega, HC5.out.st.row.own_ne (q3 k hk)⟩⟩
        clear hfm
        go_wp2_with fail
        refine (add_any w6 HC6.out.st HU.out HDG2.out (by rw [HML.out]; exact har) ha2 (Nat.le_trans hB HC6.out.siz)).mono ?_
        rintro e w7 ⟨rfl, v3, vs3, hst3, hvs3, hF3, hown3⟩
        have HFI := Lib.hid (CmbW.add HC6.out hB hst3 hvs3 hF3 hown3 (by omega) hgne hvn HCLO.out HMK.out)
        clear hst3 hvs3 hF3 hown3
        go_wp2_with fail
        go_roundw
        case rel => exact ⟨k + 1, v3, vs3, _, by omega, by go_num, HFI.out⟩
        case measure => simp [intOf]; omega
     ·go_wp2_with fail
      go_roundw
      case rel => exact ⟨k + 1, v2, vs2, A2, by omega, by go_num, HCW.out.to (fun h => cmb_skip h (by rw [HLL.out, HFN.out, ← HD.out]; have := hasI_iff.1 hh; have hl := HLN.out; subst hl; simpa using this)) (by omega)⟩
      case measure => simp [intOf]; omega
    ·obtain rfl : k = M := by omega
     go_wp2_with fail
     go_roundw
     case rel => exact ⟨p + 1, v2, vs2, A2, by omega, by go_num, HC2.out.to (fun h => cmb_next h (by rw [HLL.out, HFN.out]; exact HM.out)) (by rw [Nat.add_mul]; omega)⟩
     case measure => simp [intOf]; omega
  ·obtain rfl : p = af := by omega
   go_wp2_with fail
   go_end0
   exact ⟨rfl, v1, vs1, A1, HC1.out.st, HC1.out.pre, HC1.out.cli, cmb_end HFO.out.2.1.1 (by have := HC1.out.cmb; rw [HAF.out, Int.toNat_natCast]; exact this), HC1.out.bel, by have h1 := HC1.out.len; have h2 : p * M ≤ 3 * 90000 := Nat.mul_le_mul haf3.2 hMle; omega⟩
end Go.Proofs.YtggelmbnliajeaaGreatDoor
