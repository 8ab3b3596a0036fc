/- NumberPrints: from the row's condition to the tables, and the row's parts. No conditions beyond each theorem's own. -/
import Derived.Test.YtepfodmbjojdbaaGreatDoorQ24
import Derived.Test.YtepfodmbjojdbaaGreatDoorRows
import Derived.ProofKit
import Derived.OpenShut
import Derived.LaidMore
import Derived.PinnedBridge
import Derived.Lib.LaidU8
import Derived.Test.YtepfodmbjojdbaaGreatDoorTie
import Derived.Test.YtepfodmbjojdbaaGreatDoorCards
import Derived.Lay
import Derived.SevenTiedAt
set_option linter.all false
namespace Go.Proofs.YtepfodmbjojdbaaGreatDoor.Num
open Go Go.RowKit Go.Lib Go.ChangeShapes Go.WideShapes Go.ChangeAt _root_.Nm
theorem tabIs_of_reads {P : Program} {W : World} {name : String} {k : IntKind} {zs : List Int} {g : Nat} {t e : TypeId} {n : Nat}
  (hg : P.globalNamed name = some g) (hty : (P.globals[g]?).map (·.type) = some t) (ht : P.underlying t = some (.array n e)) (he : P.underlying e = some (.int k)) (hce : P.cellsOf e = 1) (hct : P.cellsOf t = n)
  (h : VarReads P W name (tabData k zs)) : TabIs P W name k zs := by
 obtain ⟨g', t', cs, fuel, p, hg', ht', hvar, hd⟩ := h
 obtain rfl := Option.some.inj (hg.symm.trans hg')
 obtain rfl := Option.some.inj (hty.symm.trans ht')
 unfold TabIs
 rw [hvar, ← cells_of_tab ht he hce hct hd]
theorem c289 : Tryz.prog.cellsOf 289 = 2 := by kernel_rfl
theorem c22 : Tryz.prog.cellsOf 22 = 1 := by kernel_rfl
theorem gPow : Tryz.prog.globalNamed "internal/strconv.pow10Tab" = some 18 := by kernel_rfl
theorem tPow : (Tryz.prog.globals[18]?).map (·.type) = some 290 := by kernel_rfl
theorem powCells {W : World} (h : VarReads Tryz.prog W "internal/strconv.pow10Tab" Pinned.pow10Tab) (i : Nat) (hi : i < 696) (a b : Nat) (hr : Pinned.pow10Rows[i]? = some (a, b)) :
  W.cell? ⟨18, i * 2, none⟩ = some (.int .u64 (a : Int)) ∧ W.cell? ⟨18, i * 2 + 1, none⟩ = some (.int .u64 (b : Int)) := by
 obtain ⟨g', t', cs, fuel, p, hg', ht', hvar, hd⟩ := h
 obtain rfl := Option.some.inj (gPow.symm.trans hg')
 obtain rfl := Option.some.inj (tPow.symm.trans ht')
 obtain ⟨xs, m, _, hx, hl, hn, hel⟩ := DataW.trod_array Tryz.underlying290 hd
 have h0 := hel i hi
 rw [c289, List.getElem?_eq_getElem (by omega)] at h0
 have e1 : xs.map (·.1) = Pinned.pow10Rows.map fun x => (DataW.agg [.lit (.int .u64 x.1), .lit (.int .u64 x.2)] : DataW Unit) := (DataW.agg.inj (Prod.mk.inj hx).1).symm
 have e2 : (xs.map (·.1))[i]? = (Pinned.pow10Rows.map fun x => (DataW.agg [.lit (.int .u64 x.1), .lit (.int .u64 x.2)] : DataW Unit))[i]? := by rw [e1]
 rw [List.getElem?_map, List.getElem?_map, List.getElem?_eq_getElem (by omega : i < xs.length), hr] at e2
 simp only [Option.map_some, Option.some.injEq] at e2
 obtain ⟨y0, y1, n, hy, hyl, f0, f1⟩ := trod_struct2 Tryz.underlying289 h0
 rw [hy] at e2
 simp only [DataW.agg.injEq, List.cons.injEq, and_true] at e2
 obtain ⟨z0, a1, a2, _⟩ := DataW.trod_int Tryz.underlying22 f0
 obtain ⟨z1, b1, b2, _⟩ := DataW.trod_int Tryz.underlying22 f1
 rw [a2, b2] at e2
 simp only [DataW.lit.injEq, Lit.int.injEq, true_and] at e2
 rw [World.var?_cell gPow hvar (i * 2), World.var?_cell gPow hvar (i * 2 + 1)]
 simp only [c22, List.drop_drop, List.take_take] at a1 b1
 rw [e2.1] at a1
 rw [e2.2] at b1
 constructor
 ·have := congrArg (·[0]?) a1
  simpa [List.getElem?_take, List.getElem?_drop] using this
 ·have := congrArg (·[0]?) b1
  simpa [List.getElem?_take, List.getElem?_drop, Nat.add_comm] using this
theorem powTab_of {W : World} (hz : 18 < W.heap.size) (h : VarReads Tryz.prog W "internal/strconv.pow10Tab" Pinned.pow10Tab) : PowTab W := by
 intro p h1 h2
 have hi : (p + 348).toNat < 696 := by omega
 obtain ⟨hr, _⟩ := tabOk_at Go.Pinned.pow10Rows (-348) (p + 348).toNat tab (by rw [tabLen]; exact hi)
 rw [show (-348 : Int) + (((p + 348).toNat : Nat) : Int) = p by omega] at hr
 obtain ⟨k1, k2⟩ := powCells h (p + 348).toNat hi _ _ hr
 exact ⟨h1, h2, hz, k1, k2⟩
theorem heap20 {W : World} (h : W.ShapedOpen Tryz.prog) : 20 ≤ W.heap.size := by
 have h0 : ((begin Tryz.prog (fun _ _ => 0) default).world.heap[19]?).bind Obj.row? = some (#[.slice none 0 0], 294) := by kernel_rfl
 obtain ⟨cs, hh, _⟩ := h.1 19 _ _ (show 19 < Tryz.prog.globals.size by have : Tryz.prog.globals.size = 20 := by kernel_rfl
                                                                       omega) h0
 have : 19 < W.heap.size := by
  rcases Nat.lt_or_ge 19 W.heap.size with g | g
  ·exact g
  ·rw [Array.getElem?_eq_none (by omega)] at hh; cases hh
 omega
theorem tabz_of {W : World} (h : laidMet Tryz.prog Rows.numberPrintsRow.laid W) (hsh : W.ShapedOpen Tryz.prog) : Tabz W := by
 have h20 := heap20 hsh
 have hp : VarReads Tryz.prog W "internal/strconv.pow10Tab" Pinned.pow10Tab := laidMet.reads h (by simp [Rows.numberPrintsRow, Rows.laid_internal_strconv_pow10Tab])
 have h10 : TabIs Tryz.prog W "internal/strconv.uint64pow10" .u64 Lib.pow10Tab :=
  tabIs_of_reads g_pow10 (t := 211) (by kernel_rfl) Tryz.underlying211 Tryz.underlying22 c22 (by kernel_rfl) (laidMet.reads h (show ("internal/strconv.uint64pow10", tabData .u64 Lib.pow10Tab) ∈ Rows.numberPrintsRow.laid by
   have e : (tabData .u64 Lib.pow10Tab : DataW Unit) = Rows.laid_internal_strconv_uint64pow10 := by kernel_rfl
   rw [e]; simp [Rows.numberPrintsRow]))
 have hsz : TabIs Tryz.prog W "stencil/prim.sizes" .i64 [1, 1, 2, 4, 8, 1, 2, 4, 8, 4, 8] :=
  tabIs_of_reads (g := 0) (by kernel_rfl) (t := 104) (by kernel_rfl) Tryz.underlying104 Tryz.underlying3 (by kernel_rfl) (by kernel_rfl) (laidMet.reads h (show ("stencil/prim.sizes", tabData .i64 [1, 1, 2, 4, 8, 1, 2, 4, 8, 4, 8]) ∈ Rows.numberPrintsRow.laid by
   have e : (tabData .i64 [1, 1, 2, 4, 8, 1, 2, 4, 8, 4, 8] : DataW Unit) = Rows.laid_stencil_prim_sizes := by kernel_rfl
   rw [e]; simp [Rows.numberPrintsRow]))
 obtain ⟨ds, hds⟩ : ∃ ds : List Int, ds = [0, 1, 56, 2, 57, 49, 28, 3, 61, 58, 42, 50, 38, 29, 17, 4, 62, 47, 59, 36, 45, 43, 51, 22, 53, 39, 33, 30, 24, 18, 12, 5, 63, 55, 48, 27, 60, 41, 37, 16, 46, 35, 44, 21, 52, 32, 23, 11, 54, 26, 40, 15, 34, 20, 31, 10, 25, 14, 19, 9, 13, 8, 7, 6] := ⟨_, rfl⟩
 have hdb : TabIs Tryz.prog W "math/bits.deBruijn64tab" .u8 ds :=
  tabIs_of_reads (g := 17) (by kernel_rfl) (t := 287) (by kernel_rfl) Tryz.underlying287 Tryz.underlying5 (by kernel_rfl) (by kernel_rfl) (laidMet.reads h (show ("math/bits.deBruijn64tab", tabData .u8 ds) ∈ Rows.numberPrintsRow.laid by
   have e : (tabData .u8 ds : DataW Unit) = Rows.laid_math_bits_deBruijn64tab := by rw [hds]; kernel_rfl
   rw [e]; simp [Rows.numberPrintsRow]))
 refine ⟨⟨h20, powTab_of (by omega) hp, h10, ⟨by omega, fun i hi => ?_⟩, Tryz.laysM219.s1_3 W hsh⟩, ?_⟩
 ·have := hsz.cell (g := 0) (by kernel_rfl) i hi
  rw [this]
  have h11 : i = 0 ∨ i = 1 ∨ i = 2 ∨ i = 3 ∨ i = 4 ∨ i = 5 ∨ i = 6 ∨ i = 7 ∨ i = 8 ∨ i = 9 ∨ i = 10 := by omega
  rcases h11 with rfl | rfl | rfl | rfl | rfl | rfl | rfl | rfl | rfl | rfl | rfl <;> rfl
 ·have := hdb.cell (g := 17) (by kernel_rfl) 15 (by rw [hds]; decide)
  rw [this, hds]; rfl
end Go.Proofs.YtepfodmbjojdbaaGreatDoor.Num
namespace Go.Proofs.YtepfodmbjojdbaaGreatDoor
open Go Go.ChangeShapes Go.WideShapes Go.ChangeAt Go.RowKit
set_option maxRecDepth 100000
theorem ownP : ownKnob Tryz.prog.godebug = none := by kernel_rfl
theorem wf_u64 {x : Int} (h : (Lit.int .u64 x).wf = true) : 0 ≤ x ∧ x < 18446744073709551616 := by
 simp [Lit.wf, IntKind.min, IntKind.max, IntKind.signed, IntKind.bits] at h; omega
theorem wf_i64 {x : Int} (h : (Lit.int .i64 x).wf = true) : -9223372036854775808 ≤ x ∧ x ≤ 9223372036854775807 := by
 simp [Lit.wf, IntKind.min, IntKind.max, IntKind.signed, IntKind.bits] at h; omega
theorem returns_laid_shaped {H : Type} {enc : TypeId × Value → H} {a : Assume} {C : Checked} {os : Os} {f : FuncId} {fn : Func} {s : ChangeSpec} {conds : List PathCond} {apart fresh handsOn again : Bool} {X : World → Array Value → Prop}
  (hX : ∀ (w w' : World) (args : Array Value), w.heap = w'.heap → X w args → X w' args)
  (own : ownKnob C.prog.godebug = none) (started : os.Started) (noInit : C.prog.inits.idxOf? f = none) (hfn : C.prog.funcs[f]? = some fn)
  (start : ∃ (w : World) (tape : Tape) (i : Input), w.os = os ∧ (w.forCall tape i).Shaped C.prog ∧ i.vars = [] ∧ Input.okWide C.prog (w.forCall tape i) .any w.heap.size f i ∧
   ((s.pre enc C.prog fn conds apart (w.forCall tape i).memory i.args ∧ X (w.forCall tape i).memory i.args) ∧ sizedMet enc C.prog fn (OpenSpec.ofChange s) apart (w.forCall tape i).memory i.args) ∧ a.holds C.prog (lone (Frame.enter C.prog f i.args .normal) [] (w.forCall tape i)))
  (law : ∀ (W : World) (base : Nat) (args : Array Value) (ds gs : List (DataW H)) (before : List MemPlace),
   (∀ (j : Nat) t v, fn.params[j]? = some t → args[j]? = some v → Value.okWide C.prog W .any base t v) →
   DataW.Whole enc C.prog fn.params.toList s.vars apart W args.toList ds gs before → X W args → W.ShapedOpen C.prog →
   Calls C.prog f args W fun e W' => ∃ v, e = .returned v ∧ s.post enc C.prog fn apart fresh handsOn again W args v W') :
  ReturnsInHanded a C os f .any (fun w args => (s.pre enc C.prog fn conds apart w args ∧ X w args) ∧ sizedMet enc C.prog fn (OpenSpec.ofChange s) apart w args) (s.post enc C.prog fn apart fresh handsOn again) := by
 apply returnsInHanded_of_calls own started noInit start
 rintro w tape i - shape - ⟨_, _, _, fn', same, _, _, _, _, fits⟩ ⟨⟨⟨ds, gs, before, whole, _⟩, met⟩, _⟩ -
 cases Option.some.inj (same.symm.trans hfn)
 have run := law (w.forCall tape i) w.heap.size i.args ds gs before fits (DataW.Whole.of_heap (w' := w.forCall tape i) (by rfl) whole) (hX _ _ _ (by rfl) met) shape
 exact run.mono fun e W' ⟨v, he, hp⟩ => by subst he; exact ChangeSpec.post_blind hp
theorem lifted (os : Os) (started : os.Started) (H : Type) (enc : TypeId × Value → H) :
  ReturnsInHanded {} Tryz.checked os 3 .any (fun w args => (Rows.numberPrintsSpec.pre enc Tryz.prog Tryz.f3 Rows.numberPrintsRow.domain false w args ∧ laidMetH Tryz.prog Rows.numberPrintsRow.laid w) ∧ sizedMet enc Tryz.prog Tryz.f3 (OpenSpec.ofChange Rows.numberPrintsSpec) false w args)
   (Rows.numberPrintsSpec.post enc Tryz.prog Tryz.f3 false true false false) := by
 refine returns_laid_shaped (C := Tryz.checked) (X := fun w _ => laidMetH Tryz.prog Rows.numberPrintsRow.laid w) (fun _ _ _ hh h => h.of_heap hh) ownP started (by kernel_rfl) Tryz.func3
  (ChangeSpec.witness_shaped (enc := enc) (C := Tryz.checked) (os := os) (X := fun w _ => laidMetH Tryz.prog Rows.numberPrintsRow.laid w) false (World.laidAll Tryz.prog os Rows.numberPrintsRow.laid) #[.int .u64 0, .int .i64 0] 8 (World.laidAll_os _ _ _)
   (World.shaped_of_ZipB (by kernel_rfl) (by kernel_rfl)) (by kernel_rfl) (by kernel_rfl) (by kernel_rfl)
   (by rw [MakeChecks.laidMetH_plain _ _ _ (by kernel_rfl)]; exact laidMet_laidAll _ (by kernel_rfl) (by kernel_rfl))) ?_
 intro W base args ds gs before hval0 hW hL hsh
 have hval : ∀ (j : Nat) t v, Tryz.f3.params[j]? = some t → args[j]? = some v → Value.okWide Tryz.prog W .any base t v := hval0
 have hW' := hW
 obtain ⟨p, q, hA0, hV, rfl, _, _⟩ := hW
 have hA : DataW.TrodAll enc Tryz.prog W 0 (fun _ => true) true Tryz.f3.params.toList args.toList ds p := hA0
 rw [Tryz.params3] at hA hval
 obtain ⟨v0, v1, d0, d1, p0, p1, rfl, rfl, rfl, h0, h1⟩ := trodAll_two hA
 obtain ⟨rfl, rfl⟩ := trodVars_none hV
 obtain ⟨a0, rfl, rfl, rfl, w0⟩ := open_int Tryz.underlying22 (hval 0 22 v0 rfl rfl) h0
 obtain ⟨a1, rfl, rfl, rfl, w1⟩ := open_int Tryz.underlying3 (hval 1 3 v1 rfl rfl) h1
 simp only [List.append_nil] at hW'
 have hL' : laidMet Tryz.prog Rows.numberPrintsRow.laid W := by
  rw [MakeChecks.laidMetH_plain _ _ _ (by kernel_rfl)] at hL; exact hL
 have hT := Num.tabz_of hL' hsh
 obtain ⟨x, rfl⟩ : ∃ x : Nat, a0 = x := ⟨a0.toNat, by have := (wf_u64 w0).1; omega⟩
 refine (Num.law_prints x a1 W (by have := (wf_u64 w0).2; omega) (wf_i64 w1) hT).mono fun e W' ⟨he, hb⟩ => ?_
 subst he
 exact ⟨_, rfl, _, _, _, [], [], [], hW', trodAll_mk1 (shut_bool Tryz.underlying4 _), trodAll_mk2 (shut_int Tryz.underlying22 w0) (shut_int Tryz.underlying3 w1), rfl, hb.frame _, fun h => by cases h⟩
end Go.Proofs.YtepfodmbjojdbaaGreatDoor
