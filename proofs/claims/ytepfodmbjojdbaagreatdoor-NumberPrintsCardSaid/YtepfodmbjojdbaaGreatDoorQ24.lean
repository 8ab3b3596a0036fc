/- NumberPrints: the program's Print and the reference's Print agree. No conditions beyond each theorem's own. -/
import Derived.Test.YtepfodmbjojdbaaGreatDoorQ23
import Derived.Test.YtepfodmbjojdbaaGreatDoorQ01
import Derived.Laws.EntriesVeiled
import Derived.Laws.BytesArg
set_option linter.all false
namespace Go.Proofs.YtepfodmbjojdbaaGreatDoor.Num
open Go Go.RowKit Go.Lib YtepfodmbjojdbaaGreatDoorW.PrintWords YtepfodmbjojdbaaGreatDoorW.PrintMore PNumberPrints
section
set_option maxHeartbeats 800000
set_option maxRecDepth 100000
abbrev kdV (f g : Nat) (c : Array Value) : Value := .agg #[.func (Fn.func f) c #[], .func (Fn.func g) c #[]]
theorem kindOf_0 (w : World) : Calls Tryz.prog 27 #[.int .i64 0] w (Rt w (kdV 52 53 #[])) := by
 go_enter Tryz.func27, Tryz.ntmps27
 go_wp2
 exact bodyPost_ret (v := kdV 52 53 #[]) (by simp [results, Tryz.results27, go_sem]) rfl ⟨rfl, (Below.refl _ _).alloc (Nat.le_refl _) _⟩
theorem kindOf_9 (w : World) : Calls Tryz.prog 27 #[.int .i64 9] w (Rt w (kdV 54 55 #[fmtV 32 8])) := by
 go_enter Tryz.func27, Tryz.ntmps27
 go_wp2
 exact bodyPost_ret (v := kdV 54 55 #[fmtV 32 8]) (by simp [results, Tryz.results27, go_sem]) rfl ⟨rfl, (Below.refl _ _).alloc (Nat.le_refl _) _⟩
theorem kindOf_10 (w : World) : Calls Tryz.prog 27 #[.int .i64 10] w (Rt w (kdV 54 55 #[fmtV 64 11])) := by
 go_enter Tryz.func27, Tryz.ntmps27
 go_wp2
 exact bodyPost_ret (v := kdV 54 55 #[fmtV 64 11]) (by simp [results, Tryz.results27, go_sem]) rfl ⟨rfl, (Below.refl _ _).alloc (Nat.le_refl _) _⟩
theorem kindOf_w (p : Int) (h0 : (p == 0) = false) (h9 : (p == 9) = false) (h10 : (p == 10) = false) (w : World) : Calls Tryz.prog 27 #[.int .i64 p] w (Rt w (kdV 56 57 #[])) := by
 go_enter Tryz.func27, Tryz.ntmps27
 go_wp2
 exact bodyPost_ret (v := kdV 56 57 #[]) (by simp [results, Tryz.results27, go_sem]) rfl ⟨rfl, (Below.refl _ _).alloc (Nat.le_refl _) _⟩
theorem print_no (p : Int) (x : Nat) (w : World) (hT : Tabz w) (hp : p < 0 ∨ 10 < p) :
  Calls Tryz.prog 8 #[.int .i64 p, .int .u64 (x : Int)] w (Rt w (.tuple #[.string ⟨#[]⟩, .int .i64 10])) := by
 have h26 : Calls Tryz.prog 26 #[.int .i64 p] w (Rt w (.bool false)) := by
  refine (isPrim_any p w hT.tabs.sizes).mono fun e w' ⟨a, b⟩ => ⟨?_, b⟩
  rw [a, decide_eq_false]
  unfold rowOf
  repeat rw [if_neg (by omega)]
  decide
 go_enter Tryz.func8, Tryz.ntmps8
 go_wp2_with fail
 refine h26.mono ?_
 rintro e w1 ⟨rfl, hb⟩
 go_wp2_with fail
 go_ret2
 exact ⟨rfl, hb⟩
theorem isPrim_yes (p : Int) (w : World) (hs : SizesAt w) (h : 0 < (rowOf p).1) : Calls Tryz.prog 26 #[.int .i64 p] w (Rt w (.bool true)) :=
 (isPrim_any p w hs).mono fun e w' ⟨a, b⟩ => ⟨by rw [a, decide_eq_true h], b⟩
theorem print_range (p : Int) (x : Nat) (w : World) (hT : Tabz w) (h0 : 0 < (rowOf p).1) (h17 : ∀ w, SizesAt w → Calls Tryz.prog 17 #[.int .i64 p, .int .u64 (x : Int)] w (Rt w (.bool false))) :
  Calls Tryz.prog 8 #[.int .i64 p, .int .u64 (x : Int)] w (Rt w (.tuple #[.string ⟨#[]⟩, .int .i64 12])) := by
 have H17 := Lib.hid h17
 clear h17
 go_enter Tryz.func8, Tryz.ntmps8
 go_wp2_with fail
 refine (isPrim_yes p w hT.tabs.sizes h0).mono ?_
 rintro e w1 ⟨rfl, hb⟩
 go_wp2_with fail
 refine (H17.out _ (hT.below hb).tabs.sizes).mono ?_
 rintro e w2 ⟨rfl, hb2⟩
 go_wp2_with fail
 go_ret2
 exact ⟨rfl, hb.trans (hb2.mono hb.size)⟩
theorem fld56_ch (w : World) : (Instr.field 56 (kdV 52 53 #[]) 1).run Tryz.prog w = .ok (.func (Fn.func 53) #[] #[]) w := by kernel_rfl
theorem print_yes_ch (p : Int) (x : Nat) (R : ByteArray) (w : World) (hT : Tabz w) (h0 : 0 < (rowOf p).1) (h17 : ∀ w, SizesAt w → Calls Tryz.prog 17 #[.int .i64 p, .int .u64 (x : Int)] w (Rt w (.bool true)))
  (h27 : ∀ w, Calls Tryz.prog 27 #[.int .i64 p] w (Rt w (kdV 52 53 #[])))
  (hg : ∀ w, Tabz w → Calls Tryz.prog 53 #[.int .i64 p, .int .u64 (x : Int)] w (Rt w (.string R))) :
  Calls Tryz.prog 8 #[.int .i64 p, .int .u64 (x : Int)] w (Rt w (.tuple #[.string R, .int .i64 0])) := by
 have H17 := Lib.hid h17
 have H27 := Lib.hid h27
 have HG := Lib.hid hg
 clear h17 h27 hg
 have hfl := fld56_ch
 go_enter Tryz.func8, Tryz.ntmps8
 go_wp2_with fail
 refine (isPrim_yes p w hT.tabs.sizes h0).mono ?_
 rintro e w1 ⟨rfl, hb⟩
 have hT1 := hT.below hb
 go_wp2_with fail
 refine (H17.out _ hT1.tabs.sizes).mono ?_
 rintro e w2 ⟨rfl, hb2⟩
 have hT2 := hT1.below hb2
 have hB2 := hb.trans (hb2.mono hb.size)
 go_wp2_with fail
 refine (H27.out _).mono ?_
 rintro e w3 ⟨rfl, hb3⟩
 have hT3 := hT2.below hb3
 have hB3 := hB2.trans (hb3.mono hB2.size)
 clear hb hb2 hb3 hT1 hT2 hB2
 go_wp2_with fail
 refine (HG.out _ hT3).mono ?_
 rintro e w4 ⟨rfl, hb4⟩
 go_wp2_with fail
 go_ret2
 exact ⟨rfl, hB3.trans (hb4.mono hB3.size)⟩
theorem fld56_f32 (w : World) : (Instr.field 56 (kdV 54 55 #[fmtV 32 8]) 1).run Tryz.prog w = .ok (.func (Fn.func 55) #[fmtV 32 8] #[]) w := by kernel_rfl
theorem print_yes_f32 (p : Int) (x : Nat) (R : ByteArray) (w : World) (hT : Tabz w) (h0 : 0 < (rowOf p).1) (h17 : ∀ w, SizesAt w → Calls Tryz.prog 17 #[.int .i64 p, .int .u64 (x : Int)] w (Rt w (.bool true)))
  (h27 : ∀ w, Calls Tryz.prog 27 #[.int .i64 p] w (Rt w (kdV 54 55 #[fmtV 32 8])))
  (hg : ∀ w, Tabz w → Calls Tryz.prog 55 #[fmtV 32 8, .int .i64 p, .int .u64 (x : Int)] w (Rt w (.string R))) :
  Calls Tryz.prog 8 #[.int .i64 p, .int .u64 (x : Int)] w (Rt w (.tuple #[.string R, .int .i64 0])) := by
 have H17 := Lib.hid h17
 have H27 := Lib.hid h27
 have HG := Lib.hid hg
 clear h17 h27 hg
 have hfl := fld56_f32
 go_enter Tryz.func8, Tryz.ntmps8
 go_wp2_with fail
 refine (isPrim_yes p w hT.tabs.sizes h0).mono ?_
 rintro e w1 ⟨rfl, hb⟩
 have hT1 := hT.below hb
 go_wp2_with fail
 refine (H17.out _ hT1.tabs.sizes).mono ?_
 rintro e w2 ⟨rfl, hb2⟩
 have hT2 := hT1.below hb2
 have hB2 := hb.trans (hb2.mono hb.size)
 go_wp2_with fail
 refine (H27.out _).mono ?_
 rintro e w3 ⟨rfl, hb3⟩
 have hT3 := hT2.below hb3
 have hB3 := hB2.trans (hb3.mono hB2.size)
 clear hb hb2 hb3 hT1 hT2 hB2
 go_wp2_with fail
 refine (HG.out _ hT3).mono ?_
 rintro e w4 ⟨rfl, hb4⟩
 go_wp2_with fail
 go_ret2
 exact ⟨rfl, hB3.trans (hb4.mono hB3.size)⟩
theorem fld56_f64 (w : World) : (Instr.field 56 (kdV 54 55 #[fmtV 64 11]) 1).run Tryz.prog w = .ok (.func (Fn.func 55) #[fmtV 64 11] #[]) w := by kernel_rfl
theorem print_yes_f64 (p : Int) (x : Nat) (R : ByteArray) (w : World) (hT : Tabz w) (h0 : 0 < (rowOf p).1) (h17 : ∀ w, SizesAt w → Calls Tryz.prog 17 #[.int .i64 p, .int .u64 (x : Int)] w (Rt w (.bool true)))
  (h27 : ∀ w, Calls Tryz.prog 27 #[.int .i64 p] w (Rt w (kdV 54 55 #[fmtV 64 11])))
  (hg : ∀ w, Tabz w → Calls Tryz.prog 55 #[fmtV 64 11, .int .i64 p, .int .u64 (x : Int)] w (Rt w (.string R))) :
  Calls Tryz.prog 8 #[.int .i64 p, .int .u64 (x : Int)] w (Rt w (.tuple #[.string R, .int .i64 0])) := by
 have H17 := Lib.hid h17
 have H27 := Lib.hid h27
 have HG := Lib.hid hg
 clear h17 h27 hg
 have hfl := fld56_f64
 go_enter Tryz.func8, Tryz.ntmps8
 go_wp2_with fail
 refine (isPrim_yes p w hT.tabs.sizes h0).mono ?_
 rintro e w1 ⟨rfl, hb⟩
 have hT1 := hT.below hb
 go_wp2_with fail
 refine (H17.out _ hT1.tabs.sizes).mono ?_
 rintro e w2 ⟨rfl, hb2⟩
 have hT2 := hT1.below hb2
 have hB2 := hb.trans (hb2.mono hb.size)
 go_wp2_with fail
 refine (H27.out _).mono ?_
 rintro e w3 ⟨rfl, hb3⟩
 have hT3 := hT2.below hb3
 have hB3 := hB2.trans (hb3.mono hB2.size)
 clear hb hb2 hb3 hT1 hT2 hB2
 go_wp2_with fail
 refine (HG.out _ hT3).mono ?_
 rintro e w4 ⟨rfl, hb4⟩
 go_wp2_with fail
 go_ret2
 exact ⟨rfl, hB3.trans (hb4.mono hB3.size)⟩
theorem fld56_wh (w : World) : (Instr.field 56 (kdV 56 57 #[]) 1).run Tryz.prog w = .ok (.func (Fn.func 57) #[] #[]) w := by kernel_rfl
theorem print_yes_wh (p : Int) (x : Nat) (R : ByteArray) (w : World) (hT : Tabz w) (h0 : 0 < (rowOf p).1) (h17 : ∀ w, SizesAt w → Calls Tryz.prog 17 #[.int .i64 p, .int .u64 (x : Int)] w (Rt w (.bool true)))
  (h27 : ∀ w, Calls Tryz.prog 27 #[.int .i64 p] w (Rt w (kdV 56 57 #[])))
  (hg : ∀ w, Tabz w → Calls Tryz.prog 57 #[.int .i64 p, .int .u64 (x : Int)] w (Rt w (.string R))) :
  Calls Tryz.prog 8 #[.int .i64 p, .int .u64 (x : Int)] w (Rt w (.tuple #[.string R, .int .i64 0])) := by
 have H17 := Lib.hid h17
 have H27 := Lib.hid h27
 have HG := Lib.hid hg
 clear h17 h27 hg
 have hfl := fld56_wh
 go_enter Tryz.func8, Tryz.ntmps8
 go_wp2_with fail
 refine (isPrim_yes p w hT.tabs.sizes h0).mono ?_
 rintro e w1 ⟨rfl, hb⟩
 have hT1 := hT.below hb
 go_wp2_with fail
 refine (H17.out _ hT1.tabs.sizes).mono ?_
 rintro e w2 ⟨rfl, hb2⟩
 have hT2 := hT1.below hb2
 have hB2 := hb.trans (hb2.mono hb.size)
 go_wp2_with fail
 refine (H27.out _).mono ?_
 rintro e w3 ⟨rfl, hb3⟩
 have hT3 := hT2.below hb3
 have hB3 := hB2.trans (hb3.mono hB2.size)
 clear hb hb2 hb3 hT1 hT2 hB2
 go_wp2_with fail
 refine (HG.out _ hT3).mono ?_
 rintro e w4 ⟨rfl, hb4⟩
 go_wp2_with fail
 go_ret2
 exact ⟨rfl, hB3.trans (hb4.mono hB3.size)⟩
end
section
set_option maxHeartbeats 800000
set_option maxRecDepth 100000
abbrev refOut (R : ByteArray) (k : Int) : Ending := .returned (.tuple #[.string R, .int .i64 k])
theorem rprint_no1 (p : Int) (x : Nat) (w : World) (h : decide (p < 0) = true) : Calls Tryz.prog 9 #[.int .i64 p, .int .u64 (x : Int)] w fun e w' => e = refOut ⟨#[]⟩ 10 ∧ Below w.heap.size w w' := by
 go_enter Tryz.func9, Tryz.ntmps9
 go_wp2_with fail
 go_ret2
 exact ⟨rfl, Below.refl _ _⟩
theorem rprint_no2 (p : Int) (x : Nat) (w : World) (h : decide (p < 0) = false) (h2 : decide (10 < p) = true) : Calls Tryz.prog 9 #[.int .i64 p, .int .u64 (x : Int)] w fun e w' => e = refOut ⟨#[]⟩ 10 ∧ Below w.heap.size w w' := by
 go_enter Tryz.func9, Tryz.ntmps9
 go_wp2_with fail
 go_ret2
 exact ⟨rfl, Below.refl _ _⟩
theorem refFits_b (p : Int) (x : Nat) (hx : x < 18446744073709551616) (h : 0 ≤ p ∧ p ≤ 10) (w : World) : Calls Tryz.prog 28 #[.int .i64 p, .int .u64 (x : Int)] w (Rt w (.bool (fitsB p x))) :=
 (stencilref01_Fits.calls 100 p x _ w (refFits_f p x hx h)).mono fun e w' ⟨a, b⟩ => ⟨a, b.below⟩
theorem rprint_range (p : Int) (x : Nat) (w : World) (h1 : decide (p < 0) = false) (h2 : decide (10 < p) = false) (h28 : ∀ w, Calls Tryz.prog 28 #[.int .i64 p, .int .u64 (x : Int)] w (Rt w (.bool false))) :
  Calls Tryz.prog 9 #[.int .i64 p, .int .u64 (x : Int)] w fun e w' => e = refOut ⟨#[]⟩ 12 ∧ Below w.heap.size w w' := by
 have H28 := Lib.hid h28
 clear h28
 go_enter Tryz.func9, Tryz.ntmps9
 go_wp2_with fail
 refine (H28.out _).mono ?_
 rintro e w1 ⟨rfl, hb⟩
 go_wp2_with fail
 go_ret2
 exact ⟨rfl, hb⟩
theorem rprint_float (p : Int) (x : Nat) (R : ByteArray) (w : World) (hp : p = 9 ∨ p = 10) (h28 : ∀ w, Calls Tryz.prog 28 #[.int .i64 p, .int .u64 (x : Int)] w (Rt w (.bool true)))
  (h29 : ∀ w, Calls Tryz.prog 29 #[.int .i64 p, .int .u64 (x : Int)] w (Rt w (.string R))) :
  Calls Tryz.prog 9 #[.int .i64 p, .int .u64 (x : Int)] w fun e w' => e = refOut R 0 ∧ Below w.heap.size w w' := by
 have H28 := Lib.hid h28
 have H29 := Lib.hid h29
 clear h28 h29
 rcases hp with rfl | rfl
 all_goals
  go_enter Tryz.func9, Tryz.ntmps9
  go_wp2_with fail
  refine (H28.out _).mono ?_
  rintro e w1 ⟨rfl, hb⟩
  go_wp2_with fail
  refine (H29.out _).mono ?_
  rintro e w2 ⟨rfl, hb2⟩
  go_wp2_with fail
  go_ret2
  exact ⟨rfl, hb.trans (hb2.mono hb.size)⟩
theorem rprint_whole (p : Int) (x : Nat) (w : World) (hx : x < 18446744073709551616) (h1 : decide (p < 0) = false) (h2 : decide (10 < p) = false) (h9 : (p == 9) = false) (h10 : (p == 10) = false) (h0 : (p == 0) = false)
  (h28 : ∀ w, Calls Tryz.prog 28 #[.int .i64 p, .int .u64 (x : Int)] w (Rt w (.bool true)))
  (h31 : ∀ w, Calls Tryz.prog 31 #[.int .i64 p] w (Rt w (.bool false))) :
  Calls Tryz.prog 9 #[.int .i64 p, .int .u64 (x : Int)] w fun e w' => e = refOut (decS x) 0 ∧ Below w.heap.size w w' := by
 have H28 := Lib.hid h28
 have H31 := Lib.hid h31
 have h30 := fun w => refDecimal_b x w hx
 have H30 := Lib.hid h30
 clear h28 h31 h30 hx
 go_enter Tryz.func9, Tryz.ntmps9
 go_wp2_with fail
 refine (H28.out _).mono ?_
 rintro e w1 ⟨rfl, hb⟩
 go_wp2_with fail
 refine (H31.out _).mono ?_
 rintro e w2 ⟨rfl, hb2⟩
 go_wp2_with fail
 refine (H30.out _).mono ?_
 rintro e w3 ⟨rfl, hb3⟩
 have hB2 := hb.trans (hb2.mono hb.size)
 go_wp2_with fail
 go_ret2
 exact ⟨rfl, hB2.trans (hb3.mono hB2.size)⟩
theorem rprint_pos (p : Int) (x : Nat) (w : World) (hx : x < 18446744073709551616) (h1 : decide (p < 0) = false) (h2 : decide (10 < p) = false) (h9 : (p == 9) = false) (h10 : (p == 10) = false) (h0 : (p == 0) = false)
  (hlt : decide ((9223372036854775808 : Int) ≤ (x : Int)) = false)
  (h28 : ∀ w, Calls Tryz.prog 28 #[.int .i64 p, .int .u64 (x : Int)] w (Rt w (.bool true)))
  (h31 : ∀ w, Calls Tryz.prog 31 #[.int .i64 p] w (Rt w (.bool true))) :
  Calls Tryz.prog 9 #[.int .i64 p, .int .u64 (x : Int)] w fun e w' => e = refOut (decS x) 0 ∧ Below w.heap.size w w' := by
 have H28 := Lib.hid h28
 have H31 := Lib.hid h31
 have h30 := fun w => refDecimal_b x w hx
 have H30 := Lib.hid h30
 clear h28 h31 h30 hx
 go_enter Tryz.func9, Tryz.ntmps9
 go_wp2_with fail
 refine (H28.out _).mono ?_
 rintro e w1 ⟨rfl, hb⟩
 go_wp2_with fail
 refine (H31.out _).mono ?_
 rintro e w2 ⟨rfl, hb2⟩
 have hB2 := hb.trans (hb2.mono hb.size)
 go_wp2_with fail
 refine (refPow63 _).mono ?_
 rintro e w3 ⟨rfl, hb3⟩
 have hB3 := hB2.trans (hb3.mono hB2.size)
 go_wp2_with fail
 refine (H30.out _).mono ?_
 rintro e w4 ⟨rfl, hb4⟩
 go_wp2_with fail
 go_ret2
 exact ⟨rfl, hB3.trans (hb4.mono hB3.size)⟩
theorem rprint_neg (p : Int) (x y : Nat) (w : World) (h1 : decide (p < 0) = false) (h2 : decide (10 < p) = false) (h9 : (p == 9) = false) (h10 : (p == 10) = false) (h0 : (p == 0) = false)
  (hlt : decide ((9223372036854775808 : Int) ≤ (x : Int)) = true) (hy : IntKind.u64.wrap (-(x : Int)) = (y : Int)) (hy2 : IntKind.u64.wrap (0 - (x : Int)) = (y : Int)) (hyb : Hid (y < 18446744073709551616))
  (h28 : ∀ w, Calls Tryz.prog 28 #[.int .i64 p, .int .u64 (x : Int)] w (Rt w (.bool true)))
  (h31 : ∀ w, Calls Tryz.prog 31 #[.int .i64 p] w (Rt w (.bool true))) :
  Calls Tryz.prog 9 #[.int .i64 p, .int .u64 (x : Int)] w fun e w' => e = refOut ((⟨#[45]⟩ : ByteArray) ++ decS y) 0 ∧ Below w.heap.size w w' := by
 have H28 := Lib.hid h28
 have H31 := Lib.hid h31
 have h30 := fun w => refDecimal_b y w hyb
 have H30 := Lib.hid h30
 have hsz := decS_le y hyb
 clear h28 h31 h30
 go_enter Tryz.func9, Tryz.ntmps9
 go_wp2_with fail
 refine (H28.out _).mono ?_
 rintro e w1 ⟨rfl, hb⟩
 go_wp2_with fail
 refine (H31.out _).mono ?_
 rintro e w2 ⟨rfl, hb2⟩
 have hB2 := hb.trans (hb2.mono hb.size)
 go_wp2_with fail
 refine (refPow63 _).mono ?_
 rintro e w3 ⟨rfl, hb3⟩
 have hB3 := hB2.trans (hb3.mono hB2.size)
 go_wp2_with fail
 refine (H30.out _).mono ?_
 rintro e w4 ⟨rfl, hb4⟩
 go_wp2_with fail
 go_ret2
 exact ⟨rfl, hB3.trans (hb4.mono hB3.size)⟩
theorem char_str (x : Nat) (hx : x ≤ 126) (w : World) : Sem.run Tryz.prog (convert 58 9 (.slice (some ⟨w.heap.size, 0, none⟩) 1 1)) (w.alloc (.cells #[.int .u8 (x : Int)] 5)) = .ok (.string ⟨#[UInt8.ofNat x]⟩) (w.alloc (.cells #[.int .u8 (x : Int)] 5)) := by
 have e : (⟨#[UInt8.ofNat x]⟩ : ByteArray) = strOfNums [(x : Int)] := by simp [strOfNums]
 rw [e]
 refine string_of_reads (e := 5) (by kernel_rfl) (by kernel_rfl) (by kernel_rfl) ⟨rfl, by omega, fun _ => ⟨_, rfl, ?_⟩⟩
 intro i hi
 have : i = 0 := by omega
 subst this
 simp [Addr.add]
theorem rprint_char (x : Nat) (w : World) (hx : x < 18446744073709551616)
  (h28 : ∀ w, Calls Tryz.prog 28 #[.int .i64 0, .int .u64 (x : Int)] w (Rt w (.bool true))) :
  Calls Tryz.prog 9 #[.int .i64 0, .int .u64 (x : Int)] w fun e w' => e = refOut (charS x) 0 ∧ Below w.heap.size w w' := by
 have H28 := Lib.hid h28
 clear h28
 unfold charS
 by_cases h : 33 ≤ x ∧ x ≤ 126 ∧ x ≠ 35 ∧ x ≠ 44
 ·rw [if_pos h]
  have d1 : decide ((33 : Int) ≤ (x : Int)) = true := by simp; omega
  have d2 : decide ((x : Int) ≤ 126) = true := by simp; omega
  have d3 : ((x : Int) != 35) = true := by rw [bne_iff_ne]; omega
  have d4 : ((x : Int) != 44) = true := by rw [bne_iff_ne]; omega
  have hb1 : (x : Int) ≤ 126 := by omega
  have hcv := fun w => char_str x (by omega) w
  go_enter Tryz.func9, Tryz.ntmps9
  go_wp2_with fail
  refine (H28.out _).mono ?_
  rintro e w1 ⟨rfl, hb⟩
  have hcv1 := hcv w1
  clear hcv
  go_wp2_with fail
  go_ret2
  exact ⟨rfl, hb.alloc hb.size _⟩
 ·rw [if_neg h]
  have hsz := decS_le x hx
  have h30 := fun w => refDecimal_b x w hx
  have hc := pick_or (decide ((33 : Int) ≤ (x : Int))) (decide ((x : Int) ≤ 126)) ((x : Int) != 35) ((x : Int) != 44) (by
   rintro ⟨a, b, c, d⟩
   apply h
   simp only [decide_eq_true_eq, bne_iff_ne] at a b c d
   omega)
  clear hx h
  have H30 := Lib.hid h30
  clear h30
  rcases hc with hc | ⟨hc, hc2⟩ | ⟨hc, hc2, hc3⟩ | ⟨hc, hc2, hc3, hc4⟩
  all_goals
   go_enter Tryz.func9, Tryz.ntmps9
   go_wp2_with fail
   refine (H28.out _).mono ?_
   rintro e w1 ⟨rfl, hb⟩
   go_wp2_with fail
   refine (H30.out _).mono ?_
   rintro e w2 ⟨rfl, hb2⟩
   go_wp2_with fail
   go_ret2
   exact ⟨rfl, hb.trans (hb2.mono hb.size)⟩
end
theorem Fits_b (p : Int) (x : Nat) (hx : x < 18446744073709551616) (h : 0 ≤ p ∧ p ≤ 10) (w : World) (hs : SizesAt w) :
  Calls Tryz.prog 17 #[.int .i64 p, .int .u64 (x : Int)] w (Rt w (.bool (fitsB p x))) := by
 obtain ⟨h0, r, hr, hf⟩ := progFits p x hx h
 exact (Fits_yes p x r w hs h0 hr).mono fun e w' ⟨a, b⟩ => ⟨by rw [a, hf], b⟩
theorem refSigned_b (p : Int) (b : Bool) (h : stencilref01_Signed.f p = some b) (w : World) : Calls Tryz.prog 31 #[.int .i64 p] w (Rt w (.bool b)) :=
 (stencilref01_Signed.calls p b w h).mono fun e w' ⟨a, b⟩ => ⟨a, b.below⟩
theorem whole_same (p : Int) (x : Nat) (hx : x < 18446744073709551616) (h : 1 ≤ p ∧ p ≤ 8) (h28 : ∀ w, Calls Tryz.prog 28 #[.int .i64 p, .int .u64 (x : Int)] w (Rt w (.bool true))) (w : World) :
  Calls Tryz.prog 9 #[.int .i64 p, .int .u64 (x : Int)] w fun e w' => e = refOut (wholeS (rowOf p).2.1 x) 0 ∧ Below w.heap.size w w' := by
 have h1 : decide (p < 0) = false := decide_eq_false (by omega)
 have h2 : decide (10 < p) = false := decide_eq_false (by omega)
 have h9 : (p == 9) = false := by rw [beq_eq_false_iff_ne]; omega
 have h10 : (p == 10) = false := by rw [beq_eq_false_iff_ne]; omega
 have h0 : (p == 0) = false := by rw [beq_eq_false_iff_ne]; omega
 by_cases hs : p ≤ 4
 ·have hrow : (rowOf p).2.1 = true := by
   have : p = 1 ∨ p = 2 ∨ p = 3 ∨ p = 4 := by omega
   rcases this with rfl | rfl | rfl | rfl <;> rfl
  have h31 := fun w => refSigned_b p true (by unfold stencilref01_Signed.f; rw [if_pos (by omega), decide_eq_true hs]) w
  unfold wholeS
  rw [hrow]
  by_cases hl : 9223372036854775808 ≤ x
  ·rw [if_pos ⟨rfl, hl⟩]
   have hy : IntKind.u64.wrap (-(x : Int)) = ((18446744073709551616 - x : Nat) : Int) := by rw [wu64_eq]; omega
   exact rprint_neg p x (18446744073709551616 - x) w h1 h2 h9 h10 h0 (decide_eq_true (by omega)) hy (by rw [Int.zero_sub]; exact hy) (show 18446744073709551616 - x < 18446744073709551616 by omega) h28 h31
  ·rw [if_neg (fun g => hl g.2)]
   exact rprint_pos p x w hx h1 h2 h9 h10 h0 (decide_eq_false (by omega)) h28 h31
 ·have hrow : (rowOf p).2.1 = false := by
   have : p = 5 ∨ p = 6 ∨ p = 7 ∨ p = 8 := by omega
   rcases this with rfl | rfl | rfl | rfl <;> rfl
  have h31 := fun w => refSigned_b p false (by unfold stencilref01_Signed.f; rw [if_pos (by omega), decide_eq_false hs]) w
  unfold wholeS
  rw [hrow, if_neg (fun g => absurd g.1 (by decide))]
  exact rprint_whole p x w hx h1 h2 h9 h10 h0 h28 h31
theorem print_same (p : Int) (x : Nat) (hx : x < 18446744073709551616) : ∃ (T : ByteArray) (E : Int),
  (∀ w, Tabz w → Calls Tryz.prog 8 #[.int .i64 p, .int .u64 (x : Int)] w fun e w' => e = refOut T E ∧ Below w.heap.size w w') ∧
  (∀ w, Calls Tryz.prog 9 #[.int .i64 p, .int .u64 (x : Int)] w fun e w' => e = refOut T E ∧ Below w.heap.size w w') := by
 by_cases hp : 0 ≤ p ∧ p ≤ 10
 ·have h0 := (progFits p x hx hp).1
  have h17 := fun w hs => Fits_b p x hx hp w hs
  have h28 := fun w => refFits_b p x hx hp w
  have h1 : decide (p < 0) = false := decide_eq_false (by omega)
  have h2 : decide (10 < p) = false := decide_eq_false (by omega)
  cases hf : fitsB p x with
  | false =>
   rw [hf] at h17 h28
   exact ⟨⟨#[]⟩, 12, fun w hT => print_range p x w hT h0 h17, fun w => rprint_range p x w h1 h2 h28⟩
  | true =>
   rw [hf] at h17 h28
   by_cases p9 : p = 9
   ·subst p9
    rw [fits_9] at hf
    have hf := of_decide_eq_true hf
    obtain ⟨T, t1, t2⟩ := float_same32 x (by omega)
    exact ⟨T, 0, fun w hT => print_yes_f32 9 x T w hT h0 h17 kindOf_9 t1, fun w => rprint_float 9 x T w (.inl rfl) h28 t2⟩
   by_cases p10 : p = 10
   ·subst p10
    obtain ⟨T, t1, t2⟩ := float_same64 x (by omega)
    exact ⟨T, 0, fun w hT => print_yes_f64 10 x T w hT h0 h17 kindOf_10 t1, fun w => rprint_float 10 x T w (.inr rfl) h28 t2⟩
   by_cases p0 : p = 0
   ·subst p0
    exact ⟨charS x, 0, fun w hT => print_yes_ch 0 x _ w hT h0 h17 kindOf_0 (fun w hT => printChar_any 0 x w hx), fun w => rprint_char x w hx h28⟩
   ·exact ⟨wholeS (rowOf p).2.1 x, 0, fun w hT => print_yes_wh p x _ w hT h0 h17 (kindOf_w p (by rw [beq_eq_false_iff_ne]; omega) (by rw [beq_eq_false_iff_ne]; omega) (by rw [beq_eq_false_iff_ne]; omega)) (fun w hT => printWhole_any p x w hT.tabs.sizes hx),
     fun w => whole_same p x hx (by omega) h28 w⟩
 ·refine ⟨⟨#[]⟩, 10, fun w hT => print_no p x w hT (by omega), fun w => ?_⟩
  by_cases hn : p < 0
  ·exact rprint_no1 p x w (decide_eq_true hn)
  ·exact rprint_no2 p x w (decide_eq_false hn) (decide_eq_true (by omega))
section
set_option maxHeartbeats 1600000
set_option maxRecDepth 100000
theorem law_prints (x : Nat) (other : Int) (w : World) (hx : x < 18446744073709551616) (ho : -9223372036854775808 ≤ other ∧ other ≤ 9223372036854775807) (hT : Tabz w) :
  Calls Tryz.prog 3 #[.int .u64 (x : Int), .int .i64 other] w (Rt w (.bool true)) := by
 have HS := Lib.hid fun p => print_same p x hx
 have ho1 := ho.1
 have ho2 := ho.2
 clear hx ho
 go_enter Tryz.func3, Tryz.ntmps3
 go_wp2_with fail
 go_loopw [5] (fun v5 wr => ∃ k : Int, -1 ≤ k ∧ k ≤ 13 ∧ v5 = .int .i64 k ∧ Tabz wr ∧ Below w.heap.size w wr) (fun v5 _ => (13 - intOf v5).toNat)
 case atStart => exact ⟨-1, by omega, by omega, rfl, hT, Below.refl _ _⟩
 case round =>
  obtain ⟨k, hk1, hk2, rfl, hTr, hBr⟩ := hrel
  by_cases hlt : k ≤ 12
  ·by_cases h12 : k = 12
   ·subst h12
    obtain ⟨T, E, t1, t2⟩ := HS.out other
    have H1 := Lib.hid t1
    have H2 := Lib.hid t2
    clear t1 t2
    go_wp2_with fail
    refine (H1.out _ hTr).mono ?_
    rintro e w1 ⟨rfl, hb1⟩
    have hT1 := hTr.below hb1
    have hB1 := hBr.trans (hb1.mono hBr.size)
    go_wp2_with fail
    refine (H2.out _).mono ?_
    rintro e w2 ⟨rfl, hb2⟩
    have hT2 := hT1.below hb2
    have hB2 := hB1.trans (hb2.mono hB1.size)
    go_wp2_with fail
    exact ⟨⟨13, by omega, by omega, rfl, hT2, hB2⟩, by simp [intOf]⟩
   ·have hne : (k == 12) = false := by rw [beq_eq_false_iff_ne]; omega
    have hk3 : k < 12 := by omega
    obtain ⟨T, E, t1, t2⟩ := HS.out k
    have H1 := Lib.hid t1
    have H2 := Lib.hid t2
    clear t1 t2
    go_wp2_with fail
    refine (H1.out _ hTr).mono ?_
    rintro e w1 ⟨rfl, hb1⟩
    have hT1 := hTr.below hb1
    have hB1 := hBr.trans (hb1.mono hBr.size)
    go_wp2_with fail
    refine (H2.out _).mono ?_
    rintro e w2 ⟨rfl, hb2⟩
    have hT2 := hT1.below hb2
    have hB2 := hB1.trans (hb2.mono hB1.size)
    go_wp2_with fail
    exact ⟨⟨k + 1, by omega, by omega, rfl, hT2, hB2⟩, by simp [intOf]; omega⟩
  ·have hk : k = 13 := by omega
   subst hk
   go_wp2_with fail
   go_ret
   exact ⟨rfl, hBr⟩
end
end Go.Proofs.YtepfodmbjojdbaaGreatDoor.Num
