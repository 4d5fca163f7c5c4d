/-
Contracts: the reference's sameness of formulas and of instances.
Contracts: a relation drawn, numbers compared, operations compared, the full relation; whether an operation keeps all.
Contracts: the reference's tests of a kind: idempotent, conservative, flat.
Contracts: the reference's tests of a kind: flat, symmetric.
Contracts: the reference's tests of a kind: symmetric, associative.
Rows whose listed variables and whose world's shape are both used: the wrap; what a call of ParseInt or Split asks of the package's variables.
-/
import Derived.Test.YtnhdohednekhjaaGreatDoorQAG
import Derived.Test.YtnhdohednekhjaaGreatDoorQAJ
import Derived.Test.YtnhdohednekhjaaGreatDoorQAF
import Derived.Test.YtnhdohednekhjaaGreatDoorQAA
import Derived.Test.YtnhdohednekhjaaGreatDoorQAC
import Derived.Test.YtnhdohednekhjaaGreatDoorQBA
import Derived.HandedShaped
import Derived.Shelf.Vars
import Derived.Stop.LaidErr
import Derived.Lib.LaidU8
import Derived.Lib.LaidTab
namespace Go.Proofs.YtnhdohednekhjaaGreatDoor
open Go.RowKit Go.Sort
set_option maxHeartbeats 800000 in
theorem l03Same_quiet (w : World) {v v' : Value} {x y : Int × Int × List (Int × List Int)} (h : frmT.Pt w v x) (h' : frmT.Pt w v' y) :
  Calls Tryz.prog 81 #[v, v'] w fun e w' => e = .returned (.bool (eqB x y)) ∧ Quiet w w' := by
 obtain ⟨b, o, ad, cap, rfl, hb, hI, hI2, c0, c1, c2, hx⟩ := pt_trip h
 obtain ⟨b', o', ad', cap', rfl, hb', hI', hI2', c0', c1', c2', hx'⟩ := pt_trip h'
 clear h h'
 cases hn : (x.1 != y.1)
 rotate_left
 ·go_enter Tryz.func81, Tryz.ntmps81
  go_wp2_with fail
  go_quiet (fail)
  go_wp2_with fail
  go_ret
  exact ⟨ret_bool (eqB_fst (by simpa using hn)).symm, (by first | exact Quiet.refl _ | exact Quiet.drewN _ _ | exact (Quiet.drewN _ _).then (Quiet.drewN _ _) | exact ((Quiet.drewN _ _).then (Quiet.drewN _ _)).then (Quiet.drewN _ _))⟩
 have HN : Hid (x.1 = y.1) := by simpa [Hid] using hn
 cases hm : (x.2.1 != y.2.1)
 rotate_left
 ·go_enter Tryz.func81, Tryz.ntmps81
  go_wp2_with fail
  go_quiet (fail)
  go_wp2_with fail
  go_ret
  exact ⟨ret_bool (eqB_snd HN.out (eqB_fst (by simpa using hm))).symm, (by first | exact Quiet.refl _ | exact Quiet.drewN _ _ | exact (Quiet.drewN _ _).then (Quiet.drewN _ _) | exact ((Quiet.drewN _ _).then (Quiet.drewN _ _)).then (Quiet.drewN _ _))⟩
 have HM : Hid (x.2.1 = y.2.1) := by simpa [Hid] using hm
 cases hl : (((x.2.2.length : Nat) : Int) != (y.2.2.length : Nat))
 rotate_left
 ·go_enter Tryz.func81, Tryz.ntmps81
  go_wp2_with fail
  go_quiet (fail)
  go_wp2_with fail
  go_ret
  exact ⟨ret_bool (eqB_snd HN.out (eqB_snd HM.out (eqB_len (by simp at hl; omega)))).symm, (by first | exact Quiet.refl _ | exact Quiet.drewN _ _ | exact (Quiet.drewN _ _).then (Quiet.drewN _ _) | exact ((Quiet.drewN _ _).then (Quiet.drewN _ _)).then (Quiet.drewN _ _))⟩
 have hl' : x.2.2.length = y.2.2.length := by simp at hl; omega
 have HL := Lib.hid hl'
 clear hl'
 obtain ⟨_, _, e1, hle, hle2, hcell⟩ := pairs_ex hx
 obtain ⟨_, _, e2, hle', hle2', hcell'⟩ := pairs_ex hx'
 simp only [List.cons.injEq, Value.slice.injEq, and_true, true_and] at e1 e2
 obtain ⟨rfl, rfl⟩ := e1
 obtain ⟨rfl, rfl⟩ := e2
 go_enter Tryz.func81, Tryz.ntmps81
 go_wp2_with fail
 go_quiet (fail)
 go_wp2_with fail
 go_loopw [5] (fun i wr => ∃ k : Nat, k ≤ x.2.2.length ∧ i = .int .i64 k ∧ x.2.2.take k = y.2.2.take k ∧ Quiet w wr) (fun i _ => x.2.2.length - (intOf i).toNat)
 case atStart => exact ⟨0, Nat.zero_le _, rfl, rfl, (by first | exact Quiet.refl _ | exact Quiet.drewN _ _ | exact (Quiet.drewN _ _).then (Quiet.drewN _ _) | exact ((Quiet.drewN _ _).then (Quiet.drewN _ _)).then (Quiet.drewN _ _))⟩
 case round =>
  obtain ⟨k, hk, rfl, ht, hqw⟩ := hrel
  have HT := Lib.hid ht
  have d2 := (hqw.below.cell hb).trans c2
  have d2' := (hqw.below.cell hb').trans c2'
  clear ht hn hm hl c0 c1 c2 c0' c1' c2'
  by_cases hkl : k < x.2.2.length
  ·have hkl' : k < y.2.2.length := by have := HL.out; omega
   obtain ⟨a, q, rfl, ha, -⟩ := hcell (by omega)
   obtain ⟨a', q', rfl, ha', -⟩ := hcell' (by omega)
   have p1 := (pt_elem hx hkl).below hqw.below
   have p2 := (pt_elem hx' hkl').below hqw.below
   have cQ : ∀ n, Calls Tryz.prog 160 #[.pointer (some ⟨a, q + k * 2, none⟩), .pointer (some ⟨a', q' + k * 2, none⟩)] (wr.drewN n) fun e w'' => e = .returned (.bool (eqB x.2.2[k] y.2.2[k])) ∧ ∃ m, w'' = wr.drewN m := fun n =>
    quiet_call (l03SameAtom_quiet _ (p1.below (Quiet.drewN wr n).below) (p2.below (Quiet.drewN wr n).below))
   cases hq : eqB x.2.2[k] y.2.2[k]
   ·rw [hq] at cQ
    go_wp2_with fail
    go_quiet (exact cQ _)
    go_wp2_with fail
    go_ret
    exact ⟨ret_bool (eqB_snd HN.out (eqB_snd HM.out (eqB_get hkl hkl' (fun e => by rw [eqB_true e] at hq; cases hq)))).symm, hqw.then (by first | exact Quiet.refl _ | exact Quiet.drewN _ _ | exact (Quiet.drewN _ _).then (Quiet.drewN _ _) | exact ((Quiet.drewN _ _).then (Quiet.drewN _ _)).then (Quiet.drewN _ _))⟩
   ·rw [hq] at cQ
    go_wp2_with fail
    go_quiet (exact cQ _)
    go_wp2_with fail
    go_roundw
    case rel => exact ⟨k + 1, by omega, by go_num, take_eq_succ hkl hkl' HT.out (eqB_iff.1 hq), hqw.then (by first | exact Quiet.refl _ | exact Quiet.drewN _ _ | exact (Quiet.drewN _ _).then (Quiet.drewN _ _) | exact ((Quiet.drewN _ _).then (Quiet.drewN _ _)).then (Quiet.drewN _ _))⟩
    case measure => simp [intOf]; omega
  ·obtain rfl : k = x.2.2.length := by omega
   go_wp2_with fail
   go_ret
   exact ⟨ret_bool (eqB_snd HN.out (eqB_snd HM.out (eqB_true (by have h1 := HT.out; have h2 := HL.out; rw [List.take_length, h2, List.take_length] at h1; exact h1)))).symm, hqw⟩
theorem specSameFormula_any (w : World) {cs cs' : Array Value} {x y : Int × Int × List (Int × List Int)} (h : frmT.Rd w cs.toList x) (h' : frmT.Rd w cs'.toList y) :
  Calls Tryz.prog 17 #[.agg cs, .agg cs'] w fun e w' => e = .returned (.bool (eqB x y)) ∧ Below w.heap.size w w' := by
 have p1 := (pt_box (T := 31) h)
 have p2 := (pt_box (T := 31) (h'.below (bA (o := .cells cs.toList.toArray 31))))
 obtain ⟨u, hv, _⟩ := trip_ex h
 obtain rfl := agg_of hv
 obtain ⟨u', hv', _⟩ := trip_ex h'
 obtain rfl := agg_of hv'
 have p1' := p1.below (bA (o := .cells [.int .i64 y.1, .int .i64 y.2.1, u'].toArray 31))
 clear hv hv' h h' p1
 go_enter Tryz.func17, Tryz.ntmps17
 go_wp2_with fail
 rw [World.size_alloc] at p2
 refine (l03Same_quiet _ p1' p2).mono ?_
 rintro e w1 ⟨rfl, n, rfl⟩
 go_wp2_with fail
 go_ret
 exact ⟨rfl, (by repeat (first | exact Below.refl _ _ | exact bA | assumption | refine Below.setCell ?_ (by first | omega | (simp; try omega)) _ | refine Below.alloc ?_ (by first | omega | (simp; try omega)) _ | refine Below.drew ?_ | refine bDN ?_ | refine bthen ?_ (by assumption)))⟩
end Go.Proofs.YtnhdohednekhjaaGreatDoor
namespace Go.Proofs.YtnhdohednekhjaaGreatDoor
open Go.RowKit Go.Sort
theorem SameNumbers_any (w : World) {v u : Value} {xs ys : List Int} (h : intsT.Rd w [v] xs) (h' : intsT.Rd w [u] ys) : Calls Tryz.prog 32 #[v, u] w fun e w' => e = .returned (.bool (eqB xs ys)) ∧ Below w.heap.size w w' := by
 have H := Lib.hid h
 have H' := Lib.hid h'
 obtain ⟨a, c, rfl⟩ := rd_slice h
 obtain ⟨a', c', rfl⟩ := rd_slice h'
 clear h h'
 go_enter Tryz.func32, Tryz.ntmps32
 go_wp2_with fail
 refine (l00Same_quiet w H.out H'.out).mono ?_
 rintro e w1 ⟨rfl, hq⟩
 have hb := hq.below
 clear hq
 go_wp2_with fail
 go_ret
 exact ⟨rfl, hb⟩
end Go.Proofs.YtnhdohednekhjaaGreatDoor
namespace Go.Proofs.YtnhdohednekhjaaGreatDoor
open Go.RowKit Go.Sort
end Go.Proofs.YtnhdohednekhjaaGreatDoor
namespace Go.Proofs.YtnhdohednekhjaaGreatDoor
open Go.RowKit Go.Sort
/-- a row of numbers, by its cells -/
theorem rd_ints_mk {w : World} {b o c n : Nat} {ys : List Int} (hl : ys.length = n) (h0 : 0 < n) (hc : n ≤ c) (hcm : n ≤ capMax) (hb : b < w.heap.size) (hI : ∀ a ∈ ys, I64 a)
  (hcell : ∀ j (h : j < ys.length), w.cell? ⟨b, o + j, none⟩ = some (.int .i64 ys[j])) : intsT.Rd w [.slice (some ⟨b, o, none⟩) n c] ys := by
 subst hl
 refine ⟨b :: (List.range ys.length).flatMap fun _ => [], _, c, rfl, hc, hcm, .inr ⟨h0, b, o, fun _ => [], rfl, hb, rfl, fun i hi => ⟨[.int .i64 ys[i]], ⟨rfl, hI _ (List.getElem_mem hi), rfl⟩, fun j hj => ?_⟩⟩⟩
 obtain rfl : j = 0 := by simpa using hj
 simp [Ty.int, hcell i hi]
end Go.Proofs.YtnhdohednekhjaaGreatDoor
namespace Go.Proofs.YtnhdohednekhjaaGreatDoor
open Go.RowKit Go.Sort
/-- a part of a row of numbers -/
theorem rd_sub {w : World} {b o n c : Nat} {xs : List Int} (h : intsT.Rd w [.slice (some ⟨b, o, none⟩) n c] xs) {i m c' : Nat} (him : i + m ≤ xs.length) (hm : 0 < m) (hc' : m ≤ c') : intsT.Rd w [.slice (some ⟨b, o + i, none⟩) m c'] ((xs.drop i).take m) := by
 obtain ⟨ad, cap, e1, h1, h2, hcell⟩ := ints_ex h
 obtain ⟨rfl, rfl, rfl⟩ : some ⟨b, o, none⟩ = ad ∧ n = xs.length ∧ c = cap := by simpa using e1
 obtain ⟨b', o', e2, hb, hce⟩ := hcell (by omega)
 obtain ⟨rfl, rfl⟩ : b = b' ∧ o = o' := by simpa using e2
 have hl : ((xs.drop i).take m).length = m := by simp; omega
 have hg : ∀ j (hj : j < m), ((xs.drop i).take m)[j]'(by rw [hl]; exact hj) = xs[i + j]'(by omega) := fun j hj => by simp
 refine rd_ints_mk hl hm hc' (by unfold capMax; omega) hb (fun a ha => ?_) (fun j hj => ?_)
 ·obtain ⟨j, hj, rfl⟩ := List.getElem_of_mem ha
  rw [hg j (by omega)]
  exact (hce (i + j) (by omega)).1
 ·rw [hg j (by omega), Nat.add_assoc]
  exact (hce (i + j) (by omega)).2
end Go.Proofs.YtnhdohednekhjaaGreatDoor
namespace Go.Proofs.YtnhdohednekhjaaGreatDoor
open Go.ChangeShapes Go.WideShapes Go.ChangeAt Go.RowKit
theorem handed_and_shaped {H : Type} {enc : TypeId × Value → H} {a : Assume} {C : Checked} {os : Os} {f : FuncId} {fn : Func} {s : ChangeSpec} {conds : List PathCond} {apart fresh handsOn again : Bool} {X : World → Array Value → Prop}
  (hX : ∀ (w w' : World) (args : Array Value), w.heap = w'.heap → X w args → X w' args)
  (own : ownKnob C.prog.godebug = none) (started : os.Started) (noInit : C.prog.inits.idxOf? f = none) (hfn : C.prog.funcs[f]? = some fn)
  (witness : ∃ (w : World) (tape : Tape) (i : Input), w.os = os ∧ (w.forCall tape i).Shaped C.prog ∧ i.vars = [] ∧ Input.okWide C.prog (w.forCall tape i) .any w.heap.size f i ∧
   ((s.pre enc C.prog fn conds apart (w.forCall tape i).memory i.args ∧ X (w.forCall tape i).memory i.args) ∧ sizedMet enc C.prog fn (OpenSpec.ofChange s) apart (w.forCall tape i).memory i.args) ∧ a.holds C.prog (lone (Frame.enter C.prog f i.args .normal) [] (w.forCall tape i)))
  (contract : ∀ (W : World) (base : Nat) (args : Array Value) (ds gs : List (DataW H)) (before : List MemPlace),
   (∀ (j : Nat) t v, fn.params[j]? = some t → args[j]? = some v → Value.okWide C.prog W .any base t v) →
   DataW.Whole enc C.prog fn.params.toList s.vars apart W args.toList ds gs before →
   (DataW.weightsEach C.prog (fn.params.toList ++ s.plain.varTypes C.prog) (ds ++ gs)).all (· ≤ reachBytes) = true → X W args → W.ShapedOpen C.prog →
   Calls C.prog f args W fun e W' => ∃ v, e = .returned v ∧ s.post enc C.prog fn apart fresh handsOn again W args v W') :
  ReturnsInHanded a C os f .any (fun w args => (s.pre enc C.prog fn conds apart w args ∧ X w args) ∧ sizedMet enc C.prog fn (OpenSpec.ofChange s) apart w args) (s.post enc C.prog fn apart fresh handsOn again) := by
 refine returnsInHanded_of_calls own started noInit witness ?_
 intro w tape i _ hsh _ hok hpre _
 obtain ⟨_, _, _, fn', hfn', _, _, _, _, hval⟩ := hok
 obtain rfl : fn' = fn := Option.some.inj (hfn'.symm.trans hfn)
 obtain ⟨⟨⟨ds, gs, before, hw, _⟩, hx⟩, hz⟩ := hpre
 refine (contract (w.forCall tape i) w.heap.size i.args ds gs before hval (DataW.Whole.of_heap (w' := w.forCall tape i) (by rfl) hw) (hz.weights hw) (hX _ _ _ (by rfl) hx) hsh).mono fun e W' ⟨v, he, hp⟩ => ?_
 subst he
 exact ChangeSpec.post_blind hp
theorem err_cell {W : World} {n nm : String} {d : DataW Unit} {g : Nat} {ti : TypeId} {ms : Array (String × TypeId)} (hg : Tryz.prog.globalNamed n = some g) (ht : (Tryz.prog.globals[g]?).map (·.type) = some ti) (hi : Tryz.prog.underlying ti = some (.interface ms)) (h : Lib.VarReads Tryz.prog W n (.iface nm d)) :
  ∃ ev, W.cell? ⟨g, 0, none⟩ = some ev ∧ (ev = .nilIface ∨ ∃ te pe, ev = .iface te pe) := by
 obtain ⟨g', t', cs, fuel, p, hg', ht', hv, hd⟩ := h
 obtain rfl := Option.some.inj (hg.symm.trans hg')
 obtain rfl := Option.some.inj (ht.symm.trans ht')
 obtain ⟨_, u, v, hcs, -, -⟩ := iface_of_trod hi hd
 refine ⟨.iface u v, ?_, .inr ⟨u, v, rfl⟩⟩
 rw [World.var?_cell hg hv 0]
 obtain ⟨l⟩ := cs
 have hl : l = [.iface u v] := hcs
 rw [hl]
 rfl
theorem maxLen_cell {W : World} (h : W.ShapedOpen Tryz.prog) : ∃ m, W.cell? ⟨0, 0, none⟩ = some (.int .i64 m) :=
 Go.Proofs.cell_of_shapedOpen_int (t := 3) (zero := #[.int .i64 0]) h (of_decide_eq_true (by kernel_rfl)) (by kernel_rfl) rfl (by kernel_rfl) (by kernel_rfl) Tryz.underlying3
theorem rfPre_of {W : World} (hs : W.ShapedOpen Tryz.prog) {d1 d2 : DataW Unit} {n1 n2 : String} (h1 : Lib.VarReads Tryz.prog W "strconv.ErrSyntax" (.iface n1 d1)) (h2 : Lib.VarReads Tryz.prog W "strconv.ErrRange" (.iface n2 d2)) (h3 : Lib.TabIs Tryz.prog W "internal/strconv.uint64pow10" .u64 Lib.pow10Tab) : RfPre W := by
 have e2 := err_cell (g := 2) (ti := 169) (by kernel_rfl) (by kernel_rfl) Tryz.underlying169 h2
 exact ⟨let ⟨_, c, _⟩ := e2; World.block_lt_of_cell? W _ c, maxLen_cell hs, err_cell (g := 1) (ti := 169) (by kernel_rfl) (by kernel_rfl) Tryz.underlying169 h1, e2, h3⟩
end Go.Proofs.YtnhdohednekhjaaGreatDoor
