/-
The marks of the laws: mark writes numbers from k on into all memory of a datum, held finds them there.
Rows whose listed variables and whose world's shape are both used: the wrap; what a call of ParseInt or Split asks of the package's variables.
-/
import Derived.Test.YtmnjlhcbabhhlaaGreatDoorQAB
import Derived.Test.YtmnjlhcbabhhlaaGreatDoorQAC
import Derived.HandedShaped
import Derived.Shelf.Vars
import Derived.Stop.LaidErr
import Derived.Lib.LaidU8
import Derived.Lib.LaidTab
namespace Go.Proofs.YtmnjlhcbabhhlaaGreatDoor
open Go.RowKit Go.Sort

set_option maxHeartbeats 800000 in
theorem markInt64S_any (w : World) {v : Value} {xs : List Int} {fp : List Nat} (h : intsT.rd w [v] xs fp) (hn : fp.Nodup) (hu : Unf w fp) (k : Int) (h0 : 0 ≤ k) (h1 : k + cntI xs ≤ 4611686018427387904) :
  Calls Tryz.prog 35 #[v, .int .i64 k] w fun e w' => e = .returned (.int .i64 (k + cntI xs)) ∧ TchF fp w w' ∧ intsT.rd w' [v] (mkI k xs) fp ∧ Unf w' fp := by
 obtain ⟨ad, cap, rfl⟩ := rd_slice ⟨fp, h⟩
 unfold cntI at h1
 go_enter Tryz.func35, Tryz.ntmps35
 go_wp2_with fail
 go_loopw [1, 5] (fun l i wr => ∃ j : Nat, j ≤ xs.length ∧ i = .int .i64 j ∧ l = .int .i64 (k + j) ∧ TchF fp w wr ∧ intsT.rd wr [.slice ad xs.length cap] (mkAt (fun k _ => k) (fun _ => 1) k xs j) fp ∧ Unf wr fp) (fun _ i _ => xs.length - (intOf i).toNat)
 case atStart => exact ⟨0, Nat.zero_le _, rfl, by simp, TchF.refl _ _, by rw [mkAt_zero]; exact h, hu⟩
 case round =>
  obtain ⟨j, hj, rfl, rfl, ht, hr, hU⟩ := hrel
  by_cases hjl : j < xs.length
  ·obtain ⟨b, o, cap', hv, hb, hc, hf, hw⟩ := ints_mark hr hn hU (i := j) (by rw [mkAt_len]; exact hjl)
   simp only [mkAt_len, Value.slice.injEq, true_and] at hv
   obtain ⟨rfl, rfl⟩ := hv
   have H := Lib.hid (hw (k + j) ⟨by omega, by omega⟩)
   have e := mkAt_set (f := fun k _ => k) (c := fun _ => 1) (k := k) hjl
   rw [sumL_one, take_len hj] at e
   have HR := Lib.hid hr
   have HU := Lib.hid hU
   have HE := Lib.hid e
   clear hr hU hw h hu e
   go_wp2_with fail
   go_roundw
   case rel => exact ⟨j + 1, by omega, by go_num, by go_num, ht.trans H.out.2.2, by rw [← HE.out]; exact H.out.1, H.out.2.1⟩
   case measure => simp [intOf]; omega
  ·obtain rfl : j = xs.length := by omega
   rw [mkAt_full] at hr
   have HR := Lib.hid hr
   have HU := Lib.hid hU
   clear hr hU h hu
   go_wp2_with fail
   go_ret
   exact ⟨rfl, ht, HR.out, HU.out⟩
set_option maxHeartbeats 800000 in
theorem heldInt64S_any (w : World) {v : Value} {xs : List Int} (k : Int) (h : intsT.Rd w [v] (mkI k xs)) (h0 : 0 ≤ k) (h1 : k + cntI xs ≤ 4611686018427387904) :
  Calls Tryz.prog 36 #[v, .int .i64 k] w fun e w' => e = .returned (.int .i64 (k + cntI xs)) ∧ Below w.heap.size w w' := by
 obtain ⟨ad, cap, hv, -, -, hcell⟩ := ints_ex h
 have hlen : (mkI k xs).length = xs.length := mkL_len
 rw [hlen] at hv
 obtain rfl : v = _ := by simpa using hv
 unfold cntI at h1
 clear h hv
 go_enter Tryz.func36, Tryz.ntmps36
 go_wp2_with fail
 go_loopw [1, 5] (fun l i wr => ∃ j : Nat, j ≤ xs.length ∧ i = .int .i64 j ∧ l = .int .i64 (k + j) ∧ Below w.heap.size w wr) (fun _ i _ => xs.length - (intOf i).toNat)
 case atStart => exact ⟨0, Nat.zero_le _, rfl, by simp, Below.refl _ _⟩
 case round =>
  obtain ⟨j, hj, rfl, rfl, hbel⟩ := hrel
  by_cases hjl : j < xs.length
  ·obtain ⟨b, o, rfl, hb, hce⟩ := hcell (by omega)
   obtain ⟨-, hc0⟩ := hce j (by omega)
   have e : (mkI k xs)[j]'(by omega) = k + j := by
    have := mkL_get (f := fun (k : Int) (_ : Int) => k) (c := fun _ => 1) (k := k) hjl (by rw [mkL_len]; exact hjl)
    rw [sumL_one, take_len hj] at this
    exact this
   rw [e] at hc0
   have d0 : wr.cell? ⟨b, o + j, none⟩ = some (.int .i64 (k + j)) := (hbel.cell hb).trans hc0
   clear hcell hce hc0 e hlen
   go_wp2_with fail
   go_roundw
   case rel => exact ⟨j + 1, by omega, by go_num, by go_num, hbel⟩
   case measure => simp [intOf]; omega
  ·obtain rfl : j = xs.length := by omega
   clear hcell
   go_wp2_with fail
   go_ret
   exact ⟨rfl, hbel⟩
set_option maxHeartbeats 800000 in
theorem markAtomS_any (w : World) {v : Value} {xs : List (Int × List Int)} {fp : List Nat} (h : opsT.rd w [v] xs fp) (hn : fp.Nodup) (hu : Unf w fp) (k : Int) (h0 : 0 ≤ k) (h1 : k + cntOps xs ≤ 4611686018427387904) :
  Calls Tryz.prog 18 #[v, .int .i64 k] w fun e w' => e = .returned (.int .i64 (k + cntOps xs)) ∧ TchF fp w w' ∧ opsT.rd w' [v] (mkOps k xs) fp ∧ Unf w' fp := by
 obtain ⟨_, _, _, _, hL, _⟩ := Ty.slice_ex ⟨fp, h⟩
 obtain ⟨ad, cap, rfl⟩ := rd_slice ⟨fp, h⟩
 have HS : Hid (cntOps xs = sumL cntOp1 xs) := rfl
 rw [HS.out] at h1
 go_enter Tryz.func18, Tryz.ntmps18
 go_wp2_with fail
 go_loopw [1, 5] (fun l i wr => ∃ j : Nat, j ≤ xs.length ∧ i = .int .i64 j ∧ l = .int .i64 (k + sumL cntOp1 (xs.take j)) ∧ TchF fp w wr ∧ opsT.rd wr [.slice ad xs.length cap] (mkAt mkOp1 cntOp1 k xs j) fp ∧ Unf wr fp) (fun _ i _ => xs.length - (intOf i).toNat)
 case atStart => exact ⟨0, Nat.zero_le _, rfl, by simp [sumL], TchF.refl _ _, by rw [mkAt_zero]; exact h, hu⟩
 case round =>
  obtain ⟨j, hj, rfl, rfl, ht, hr, hU⟩ := hrel
  have hs0 := sumL_nonneg cntOp1_nn (xs.take j)
  by_cases hjl : j < xs.length
  ·obtain ⟨b, o, cap', u, f, hv, hb, hc, hc1, hfz, hw⟩ := pairs_mark hr hn hU (i := j) (by rw [mkAt_len]; exact hjl)
   simp only [mkAt_len, Value.slice.injEq, true_and] at hv
   obtain ⟨rfl, rfl⟩ := hv
   have hs1 := sumL_succ cntOp1 hjl
   have hs2 := sumL_take_le cntOp1_nn xs (j + 1)
   have hi0 := cntI_nn xs[j].2
   have hi1 : cntOp1 xs[j] = 1 + cntI xs[j].2 := rfl
   obtain ⟨w1, hw1, c1, hd, hfn, hfu, -, hw'⟩ := hw (k + sumL cntOp1 (xs.take j)) ⟨by omega, by omega⟩
   rw [mkAt_get hjl] at hd
   have HE := Lib.hid (mkAt_set (f := mkOp1) (c := cntOp1) (k := k) hjl)
   have HD := Lib.hid hd
   have HW := Lib.hid hw'
   have HFN := Lib.hid hfn
   have HFU := Lib.hid hfu
   clear hr hU hw hw' h hu hd hfn hfu
   go_wp2_with fail
   rw [← hw1]
   go_wp2_with fail
   refine (markInt64S_any _ HD.out HFN.out HFU.out _ (by omega) (by omega)).mono ?_
   rintro e w2 ⟨rfl, g1, g2, g3⟩
   obtain ⟨q1, q2, q3⟩ := HW.out _ _ g1 g2 g3
   have he : (mkAt mkOp1 cntOp1 k xs j).set j (k + sumL cntOp1 (xs.take j), mkI (k + sumL cntOp1 (xs.take j) + 1) xs[j].2) = mkAt mkOp1 cntOp1 k xs (j + 1) := HE.out
   rw [he] at q1
   have HQ := Lib.hid q1
   have HQ2 := Lib.hid q2
   clear q1 q2 g1 g2 g3 hc hc1 c1 hfz he
   go_wp2_with fail
   go_roundw
   case rel => exact ⟨j + 1, by omega, by go_num, by rw [hs1, hi1]; go_num, ht.trans q3, HQ.out, HQ2.out⟩
   case measure => simp [intOf]; omega
  ·obtain rfl : j = xs.length := by omega
   rw [mkAt_full] at hr
   rw [List.take_length]
   have HR := Lib.hid hr
   have HU := Lib.hid hU
   clear hr hU h hu
   go_wp2_with fail
   go_ret
   exact ⟨by rw [HS.out]; rfl, ht, HR.out, HU.out⟩
set_option maxHeartbeats 800000 in
theorem heldAtomS_any (w : World) {v : Value} {xs : List (Int × List Int)} (k : Int) (h : opsT.Rd w [v] (mkOps k xs)) (h0 : 0 ≤ k) (h1 : k + cntOps xs ≤ 4611686018427387904) :
  Calls Tryz.prog 19 #[v, .int .i64 k] w fun e w' => e = .returned (.int .i64 (k + cntOps xs)) ∧ Below w.heap.size w w' := by
 obtain ⟨ad, cap, hv, -, hL, hcell⟩ := pairs_ex h
 have hlen : (mkOps k xs).length = xs.length := mkL_len
 rw [hlen] at hv hL
 obtain rfl : v = _ := by simpa using hv
 have HS : Hid (cntOps xs = sumL cntOp1 xs) := rfl
 rw [HS.out] at h1
 clear h hv
 go_enter Tryz.func19, Tryz.ntmps19
 go_wp2_with fail
 go_loopw [1, 5] (fun l i wr => ∃ j : Nat, j ≤ xs.length ∧ i = .int .i64 j ∧ l = .int .i64 (k + sumL cntOp1 (xs.take j)) ∧ Below w.heap.size w wr) (fun _ i _ => xs.length - (intOf i).toNat)
 case atStart => exact ⟨0, Nat.zero_le _, rfl, by simp [sumL], Below.refl _ _⟩
 case round =>
  obtain ⟨j, hj, rfl, rfl, hbel⟩ := hrel
  have hs0 := sumL_nonneg cntOp1_nn (xs.take j)
  by_cases hjl : j < xs.length
  ·obtain ⟨b, o, rfl, hb, hce⟩ := hcell (by omega)
   obtain ⟨u, hd, -, hc0, hc1⟩ := hce j (by omega)
   have e : (mkOps k xs)[j]'(by omega) = mkOp1 (k + sumL cntOp1 (xs.take j)) xs[j] := mkL_get hjl (by rw [mkL_len]; exact hjl)
   rw [e] at hd hc0
   have d0 : wr.cell? ⟨b, o + j * 2, none⟩ = some (.int .i64 (k + sumL cntOp1 (xs.take j))) := (hbel.cell hb).trans hc0
   have d1 : wr.cell? ⟨b, o + j * 2 + 1, none⟩ = some u := (hbel.cell hb).trans hc1
   have hd' : _ := hd.below hbel
   have HD := Lib.hid hd'
   have hs1 := sumL_succ cntOp1 hjl
   have hs2 := sumL_take_le cntOp1_nn xs (j + 1)
   have hi0 := cntI_nn xs[j].2
   have hi1 : cntOp1 xs[j] = 1 + cntI xs[j].2 := rfl
   clear hcell hce hc0 hc1 e hlen hd hd'
   go_wp2_with fail
   refine (heldInt64S_any _ _ HD.out (by omega) (by omega)).mono ?_
   rintro e w1 ⟨rfl, hb1⟩
   have hp : 0 ≤ k + sumL cntOp1 (xs.take j) + 1 + cntI xs[j].2 := by omega
   go_wp2_with fail
   go_roundw
   case rel => exact ⟨j + 1, by omega, by go_num, by rw [hs1, hi1]; go_num, bthen hbel hb1⟩
   case measure => simp [intOf]; omega
  ·obtain rfl : j = xs.length := by omega
   rw [List.take_length]
   clear hcell
   go_wp2_with fail
   go_ret
   exact ⟨by rw [HS.out]; rfl, hbel⟩
set_option maxHeartbeats 800000 in
theorem markFormula_any (w : World) {cs : Array Value} {xs : Int × Int × List (Int × List Int)} {fp : List Nat} (h : frmT.rd w cs.toList xs fp) (hn : fp.Nodup) (hu : Unf w fp) (k : Int) (h0 : 0 ≤ k) (h1 : k + cntFrm xs ≤ 4611686018427387904) :
  Calls Tryz.prog 7 #[.agg cs, .int .i64 k] w fun e w' => e = .returned (.int .i64 (k + cntFrm xs)) ∧ TchF fp w w' ∧ frmT.rd w' cs.toList (mkFrm k xs) fp ∧ Unf w' fp := by
 obtain ⟨u, hv, hd, hcl⟩ := rd_trip h
 obtain rfl := agg_of hv
 clear hv
 go_enter Tryz.func7, Tryz.ntmps7
 go_wp2_with fail
 refine (markAtomS_any _ ((Ty.slice _).same hd (Same.below bA ((Ty.slice _).lt hd))) hn (hu.same (Same.below bA ((Ty.slice _).lt hd))) _ h0 h1).mono ?_
 rintro e w1 ⟨rfl, g1, g2, g3⟩
 go_wp2_with fail
 go_ret
 exact ⟨rfl, (Below.tchF bA fp).trans g1, hcl _ _ g2, g3⟩
set_option maxHeartbeats 800000 in
theorem heldFormula_any (w : World) {cs : Array Value} {xs : Int × Int × List (Int × List Int)} (k : Int) (h : frmT.Rd w cs.toList (mkFrm k xs)) (h0 : 0 ≤ k) (h1 : k + cntFrm xs ≤ 4611686018427387904) :
  Calls Tryz.prog 8 #[.agg cs, .int .i64 k] w fun e w' => e = .returned (.int .i64 (k + cntFrm xs)) ∧ Below w.heap.size w w' := by
 obtain ⟨u, hv, -, -, hd⟩ := trip_ex h
 obtain rfl := agg_of hv
 clear hv h
 go_enter Tryz.func8, Tryz.ntmps8
 go_wp2_with fail
 refine (heldAtomS_any _ _ (hd.below bA) h0 h1).mono ?_
 rintro e w1 ⟨rfl, hb1⟩
 have hp : 0 ≤ k + cntFrm xs := by have := cntOps_nn xs.2.2; unfold cntFrm; omega
 unfold cntFrm at hp
 go_wp2_with fail
 go_ret
 exact ⟨rfl, (by repeat (first | exact Below.refl _ _ | exact bA | assumption | refine Below.setCell ?_ (by first | omega | (simp; try omega)) _ | refine Below.alloc ?_ (by first | omega | (simp; try omega)) _ | refine Below.drew ?_ | refine bDN ?_ | refine bthen ?_ (by assumption)))⟩
theorem markFormula_fx (w : World) {cs : Array Value} {xs : Int × Int × List (Int × List Int)} {lo hi : Nat} (h : frmT.Fx lo hi w cs.toList xs) (k : Int) (h0 : 0 ≤ k) (h1 : k + cntFrm xs ≤ 4611686018427387904) :
  Calls Tryz.prog 7 #[.agg cs, .int .i64 k] w fun e w' => e = .returned (.int .i64 (k + cntFrm xs)) ∧ Tch lo hi w w' ∧ frmT.Fx lo hi w' cs.toList (mkFrm k xs) := by
 obtain ⟨fp, g1, g2, g3, g4⟩ := h
 exact (markFormula_any w g1 g2 g4 k h0 h1).mono fun e w' ⟨he, ht, hr, hu⟩ => ⟨he, ht.tch g3, fp, hr, g2, g3, hu⟩
end Go.Proofs.YtmnjlhcbabhhlaaGreatDoor
namespace Go.Proofs.YtmnjlhcbabhhlaaGreatDoor
open Go.ChangeShapes Go.WideShapes Go.ChangeAt Go.RowKit
theorem handed_and_shaped {H : Type} {enc : TypeId × Value → H} {a : Assume} {C : Checked} {os : Os} {f : FuncId} {fn : Func} {s : ChangeSpec} {conds : List PathCond} {apart fresh handsOn again : Bool} {X : World → Array Value → Prop}
  (hX : ∀ (w w' : World) (args : Array Value), w.heap = w'.heap → X w args → X w' args)
  (own : ownKnob C.prog.godebug = none) (started : os.Started) (noInit : C.prog.inits.idxOf? f = none) (hfn : C.prog.funcs[f]? = some fn)
  (witness : ∃ (w : World) (tape : Tape) (i : Input), w.os = os ∧ (w.forCall tape i).Shaped C.prog ∧ i.vars = [] ∧ Input.okWide C.prog (w.forCall tape i) .any w.heap.size f i ∧
   ((s.pre enc C.prog fn conds apart (w.forCall tape i).memory i.args ∧ X (w.forCall tape i).memory i.args) ∧ sizedMet enc C.prog fn (OpenSpec.ofChange s) apart (w.forCall tape i).memory i.args) ∧ a.holds C.prog (lone (Frame.enter C.prog f i.args .normal) [] (w.forCall tape i)))
  (contract : ∀ (W : World) (base : Nat) (args : Array Value) (ds gs : List (DataW H)) (before : List MemPlace),
   (∀ (j : Nat) t v, fn.params[j]? = some t → args[j]? = some v → Value.okWide C.prog W .any base t v) →
   DataW.Whole enc C.prog fn.params.toList s.vars apart W args.toList ds gs before →
   (DataW.weightsEach C.prog (fn.params.toList ++ s.plain.varTypes C.prog) (ds ++ gs)).all (· ≤ reachBytes) = true → X W args → W.ShapedOpen C.prog →
   Calls C.prog f args W fun e W' => ∃ v, e = .returned v ∧ s.post enc C.prog fn apart fresh handsOn again W args v W') :
  ReturnsInHanded a C os f .any (fun w args => (s.pre enc C.prog fn conds apart w args ∧ X w args) ∧ sizedMet enc C.prog fn (OpenSpec.ofChange s) apart w args) (s.post enc C.prog fn apart fresh handsOn again) := by
 refine returnsInHanded_of_calls own started noInit witness ?_
 intro w tape i _ hsh _ hok hpre _
 obtain ⟨_, _, _, fn', hfn', _, _, _, _, hval⟩ := hok
 obtain rfl : fn' = fn := Option.some.inj (hfn'.symm.trans hfn)
 obtain ⟨⟨⟨ds, gs, before, hw, _⟩, hx⟩, hz⟩ := hpre
 refine (contract (w.forCall tape i) w.heap.size i.args ds gs before hval (DataW.Whole.of_heap (w' := w.forCall tape i) (by rfl) hw) (hz.weights hw) (hX _ _ _ (by rfl) hx) hsh).mono fun e W' ⟨v, he, hp⟩ => ?_
 subst he
 exact ChangeSpec.post_blind hp
theorem err_cell {W : World} {n nm : String} {d : DataW Unit} {g : Nat} {ti : TypeId} {ms : Array (String × TypeId)} (hg : Tryz.prog.globalNamed n = some g) (ht : (Tryz.prog.globals[g]?).map (·.type) = some ti) (hi : Tryz.prog.underlying ti = some (.interface ms)) (h : Lib.VarReads Tryz.prog W n (.iface nm d)) :
  ∃ ev, W.cell? ⟨g, 0, none⟩ = some ev ∧ (ev = .nilIface ∨ ∃ te pe, ev = .iface te pe) := by
 obtain ⟨g', t', cs, fuel, p, hg', ht', hv, hd⟩ := h
 obtain rfl := Option.some.inj (hg.symm.trans hg')
 obtain rfl := Option.some.inj (ht.symm.trans ht')
 obtain ⟨_, u, v, hcs, -, -⟩ := iface_of_trod hi hd
 refine ⟨.iface u v, ?_, .inr ⟨u, v, rfl⟩⟩
 rw [World.var?_cell hg hv 0]
 obtain ⟨l⟩ := cs
 have hl : l = [.iface u v] := hcs
 rw [hl]
 rfl
theorem maxLen_cell {W : World} (h : W.ShapedOpen Tryz.prog) : ∃ m, W.cell? ⟨0, 0, none⟩ = some (.int .i64 m) :=
 Go.Proofs.cell_of_shapedOpen_int (t := 3) (zero := #[.int .i64 0]) h (of_decide_eq_true (by kernel_rfl)) (by kernel_rfl) rfl (by kernel_rfl) (by kernel_rfl) Tryz.underlying3
theorem rfPre_of {W : World} (hs : W.ShapedOpen Tryz.prog) {d1 d2 : DataW Unit} {n1 n2 : String} (h1 : Lib.VarReads Tryz.prog W "strconv.ErrSyntax" (.iface n1 d1)) (h2 : Lib.VarReads Tryz.prog W "strconv.ErrRange" (.iface n2 d2)) (h3 : Lib.TabIs Tryz.prog W "internal/strconv.uint64pow10" .u64 Lib.pow10Tab) : RfPre W := by
 have e2 := err_cell (g := 2) (ti := 53) (by kernel_rfl) (by kernel_rfl) Tryz.underlying53 h2
 exact ⟨let ⟨_, c, _⟩ := e2; World.block_lt_of_cell? W _ c, maxLen_cell hs, err_cell (g := 1) (ti := 53) (by kernel_rfl) (by kernel_rfl) Tryz.underlying53 h1, e2, h3⟩
end Go.Proofs.YtmnjlhcbabhhlaaGreatDoor
