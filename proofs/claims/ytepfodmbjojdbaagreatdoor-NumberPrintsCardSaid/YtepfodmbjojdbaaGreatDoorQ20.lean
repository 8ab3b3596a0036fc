/- NumberPrints: the program's print, its ways. No conditions beyond each theorem's own. -/
import Derived.Test.YtepfodmbjojdbaaGreatDoorQ19
import Derived.Test.YtepfodmbjojdbaaGreatDoorQ18
import Derived.Test.YtepfodmbjojdbaaGreatDoorQ01
import Derived.Deep.RegionWith
import Derived.Deep.RegionHeld3
set_option linter.all false
namespace Go.Proofs.YtepfodmbjojdbaaGreatDoor.Num
open Go Go.RowKit Go.Sort Go.Lib YtepfodmbjojdbaaGreatDoorW.PrintWords YtepfodmbjojdbaaGreatDoorW.PrintMore PNumberPrints
abbrev fmtV (b x : Int) : Value := .agg #[.int .i64 b, .int .i64 x]
theorem hexDigits32 (w : World) : Calls Tryz.prog 88 #[fmtV 32 8] w (Rt w (.int .i64 8)) := by
 go_enter Tryz.func88, Tryz.ntmps88
 go_wp2
 go_ret
 exact ⟨rfl, (Below.refl _ _).alloc (Nat.le_refl _) _⟩
theorem hexDigits64 (w : World) : Calls Tryz.prog 88 #[fmtV 64 11] w (Rt w (.int .i64 16)) := by
 go_enter Tryz.func88, Tryz.ntmps88
 go_wp2
 go_ret
 exact ⟨rfl, (Below.refl _ _).alloc (Nat.le_refl _) _⟩
theorem sign32 (w : World) : Calls Tryz.prog 91 #[fmtV 32 8] w (Rt w (.int .u64 2147483648)) := by
 go_enter Tryz.func91, Tryz.ntmps91
 go_wp2
 go_ret
 exact ⟨rfl, (Below.refl _ _).alloc (Nat.le_refl _) _⟩
theorem sign64 (w : World) : Calls Tryz.prog 91 #[fmtV 64 11] w (Rt w (.int .u64 9223372036854775808)) := by
 go_enter Tryz.func91, Tryz.ntmps91
 go_wp2
 go_ret
 exact ⟨rfl, (Below.refl _ _).alloc (Nat.le_refl _) _⟩
theorem infinity32 (w : World) : Calls Tryz.prog 96 #[fmtV 32 8] w (Rt w (.int .u64 2139095040)) := by
 go_enter Tryz.func96, Tryz.ntmps96
 go_wp2
 go_quiet (fail)
 go_wp2
 go_ret
 exact ⟨rfl, below_draws ((Below.refl _ _).alloc (Nat.le_refl _) _) _⟩
theorem infinity64 (w : World) : Calls Tryz.prog 96 #[fmtV 64 11] w (Rt w (.int .u64 9218868437227405312)) := by
 go_enter Tryz.func96, Tryz.ntmps96
 go_wp2
 go_quiet (fail)
 go_wp2
 go_ret
 exact ⟨rfl, below_draws ((Below.refl _ _).alloc (Nat.le_refl _) _) _⟩
theorem value32 (W b : Nat) (w : World) (hW : W < 4294967296) (hc : floatToFloatBits .f32 W .f64 = some b) : Calls Tryz.prog 102 #[fmtV 32 8, .int .u64 (W : Int)] w (Rt w (.float .f64 b)) := by
 have hcv : ∀ w, (convert 153 124 (.float .f32 W)).run Tryz.prog w = .ok (.float .f64 b) w := fun w => run_convert_float_float (P := Tryz.prog) w 153 124 .f32 .f64 W b (by kernel_rfl) (by kernel_rfl) hc
 have hf := f137 W
 go_enter Tryz.func102, Tryz.ntmps102
 go_wp2
 go_ret
 exact ⟨rfl, (Below.refl _ _).alloc (Nat.le_refl _) _⟩
theorem value64 (W : Nat) (w : World) : Calls Tryz.prog 102 #[fmtV 64 11, .int .u64 (W : Int)] w (Rt w (.float .f64 W)) := by
 have hf := f138 W
 go_enter Tryz.func102, Tryz.ntmps102
 go_wp2
 go_ret
 exact ⟨rfl, (Below.refl _ _).alloc (Nat.le_refl _) _⟩
section
set_option maxHeartbeats 1600000
set_option maxRecDepth 100000
structure Tabz (w : World) : Prop where
 tabs : Tabs w
 db : w.cell? ⟨17, 15, none⟩ = some (.int .u8 4)
theorem Tabz.below {w w' : World} (h : Tabz w) (hb : Below w.heap.size w w') : Tabz w' :=
 ⟨h.tabs.below hb, by rw [hb.cell (p := ⟨17, 15, none⟩) (by have := h.tabs.size; show 17 < _; omega)]; exact h.db⟩
structure Box2 (w : World) (b : Nat) (v0 v1 : Value) : Prop where
 c0 : w.cell? ⟨b, 0, none⟩ = some v0
 c1 : w.cell? ⟨b, 1, none⟩ = some v1
 lt : b < w.heap.size
theorem Box2.below {w w' : World} {b : Nat} {v0 v1 : Value} (h : Box2 w b v0 v1) (hb : Below w.heap.size w w') : Box2 w' b v0 v1 :=
 ⟨by rw [hb.cell (p := ⟨b, 0, none⟩) h.lt]; exact h.c0, by rw [hb.cell (p := ⟨b, 1, none⟩) h.lt]; exact h.c1, Nat.lt_of_lt_of_le h.lt hb.size⟩
theorem Box2.made (w : World) (v0 v1 : Value) (T : Nat) : Box2 (w.alloc (.cells #[v0, v1] T)) w.heap.size v0 v1 := ⟨by simp, by simp, by simp⟩
theorem Box2.draw {w : World} {b : Nat} {v0 v1 : Value} (h : Box2 w b v0 v1) (n : Nat) : Box2 (w.drewN n) b v0 v1 := ⟨h.c0, h.c1, h.lt⟩
theorem Box2.draw1 {w : World} {b : Nat} {v0 v1 : Value} (h : Box2 w b v0 v1) : Box2 w.drew b v0 v1 := ⟨h.c0, h.c1, h.lt⟩
def SignOf (x sz : Nat) (M : ByteArray) : Prop := (((x : Int) != (sz : Int)) = true ∧ M = ⟨#[45]⟩) ∨ (((x : Int) != (sz : Int)) = false ∧ M = ⟨#[]⟩)
theorem SignOf.size {x sz : Nat} {M : ByteArray} (h : SignOf x sz M) : M.size ≤ 1 := by rcases h with ⟨_, rfl⟩ | ⟨_, rfl⟩ <;> decide
theorem print_nan (fb fx p S nl : Int) (x sz : Nat) (M : ByteArray) (w : World) (hT : Tabs w)
  (h91 : ∀ w, Calls Tryz.prog 91 #[fmtV fb fx] w (Rt w (.int .u64 S)))
  (h95 : ∀ w, Tabs w → Calls Tryz.prog 95 #[.int .i64 p] w (Rt w (.int .u64 nl)))
  (hand : bits BinOp.andNot IntKind.u64 (x : Int) S = (sz : Int)) (hM : Hid (SignOf x sz M)) (hnl : ((x : Int) == nl) = true) :
  Calls Tryz.prog 55 #[fmtV fb fx, .int .i64 p, .int .u64 (x : Int)] w (Rt w (.string ⟨#[78, 97, 78]⟩)) := by
 have H91 := Lib.hid h91
 have H95 := Lib.hid h95
 clear h91 h95
 have hMs : M.size ≤ 1 := (show SignOf x sz M from hM).size
 go_enter Tryz.func55, Tryz.ntmps55
 go_wp2_with fail
 have hb0 : Below w.heap.size w (w.alloc (.cells #[.int .i64 fb, .int .i64 fx] 85)) := (Below.refl _ _).alloc (Nat.le_refl _) _
 refine (H91.out _).mono ?_
 rintro e w1 ⟨rfl, hb1⟩
 have hT1 := (hT.below hb0).below hb1
 have hB1 := hb0.trans (hb1.mono (by simp))
 have hX1 := (Box2.made w (.int .i64 fb) (.int .i64 fx) 85).below hb1
 clear hb0 hb1
 go_upto_if 21 with (fail)
 go_cut [8] (fun v8 wc => v8 = .string M ∧ wc = w1)
 case first =>
  rcases (show SignOf x sz M from hM) with ⟨c1, c2⟩ | ⟨c1, c2⟩
  ·rw [c1]
   go_wp2_with fail
   go_meet
   exact ⟨by rw [c2], rfl⟩
  ·rw [c1]
   go_wp2_with fail
   go_meet
   exact ⟨by rw [c2], rfl⟩
 case rest =>
  obtain ⟨rfl, rfl⟩ := hcut
  go_wp2_with fail
  refine (H95.out _ hT1).mono ?_
  rintro e w2 ⟨rfl, hb2⟩
  have hT2 := hT1.below hb2
  have hX2 := hX1.below hb2
  have hB2 := hB1.trans (hb2.mono hB1.size)
  clear hT1 hX1 hB1 hb2
  have ⟨x0, x1, x2⟩ := hX2
  go_wp2_with fail
  go_ret
  exact ⟨rfl, hB2⟩
theorem print_inf (fb fx p S nl I : Int) (x sz : Nat) (M : ByteArray) (w : World) (hT : Tabs w)
  (h91 : ∀ w, Calls Tryz.prog 91 #[fmtV fb fx] w (Rt w (.int .u64 S)))
  (h95 : ∀ w, Tabs w → Calls Tryz.prog 95 #[.int .i64 p] w (Rt w (.int .u64 nl)))
  (h96 : ∀ w, Calls Tryz.prog 96 #[fmtV fb fx] w (Rt w (.int .u64 I)))
  (hand : bits BinOp.andNot IntKind.u64 (x : Int) S = (sz : Int)) (hM : Hid (SignOf x sz M)) (hnl : ((x : Int) == nl) = false) (hI : ((sz : Int) == I) = true) :
  Calls Tryz.prog 55 #[fmtV fb fx, .int .i64 p, .int .u64 (x : Int)] w (Rt w (.string (M ++ ⟨#[73, 78, 70]⟩))) := by
 have H91 := Lib.hid h91
 have H95 := Lib.hid h95
 have H96 := Lib.hid h96
 clear h91 h95 h96
 have hMs : M.size ≤ 1 := (show SignOf x sz M from hM).size
 go_enter Tryz.func55, Tryz.ntmps55
 go_wp2_with fail
 have hb0 : Below w.heap.size w (w.alloc (.cells #[.int .i64 fb, .int .i64 fx] 85)) := (Below.refl _ _).alloc (Nat.le_refl _) _
 refine (H91.out _).mono ?_
 rintro e w1 ⟨rfl, hb1⟩
 have hT1 := (hT.below hb0).below hb1
 have hB1 := hb0.trans (hb1.mono (by simp))
 have hX1 := (Box2.made w (.int .i64 fb) (.int .i64 fx) 85).below hb1
 clear hb0 hb1
 go_upto_if 21 with (fail)
 go_cut [8] (fun v8 wc => v8 = .string M ∧ wc = w1)
 case first =>
  rcases (show SignOf x sz M from hM) with ⟨c1, c2⟩ | ⟨c1, c2⟩
  ·rw [c1]
   go_wp2_with fail
   go_meet
   exact ⟨by rw [c2], rfl⟩
  ·rw [c1]
   go_wp2_with fail
   go_meet
   exact ⟨by rw [c2], rfl⟩
 case rest =>
  obtain ⟨rfl, rfl⟩ := hcut
  go_wp2_with fail
  refine (H95.out _ hT1).mono ?_
  rintro e w2 ⟨rfl, hb2⟩
  have hT2 := hT1.below hb2
  have hX2 := hX1.below hb2
  have hB2 := hB1.trans (hb2.mono hB1.size)
  clear hT1 hX1 hB1 hb2
  have ⟨x0, x1, x2⟩ := hX2
  go_wp2_with fail
  refine (H96.out _).mono ?_
  rintro e w3 ⟨rfl, hb3⟩
  have hT3 := hT2.below hb3
  have hX3 := hX2.below hb3
  have hB3 := hB2.trans (hb3.mono hB2.size)
  clear hT2 hX2 hB2 hb3 x0 x1 x2
  have ⟨x0, x1, x2⟩ := hX3
  go_wp2_with fail
  go_ret
  exact ⟨rfl, hB3⟩
theorem print_zero (fb fx p S nl I : Int) (x sz : Nat) (M : ByteArray) (w : World) (hT : Tabs w)
  (h91 : ∀ w, Calls Tryz.prog 91 #[fmtV fb fx] w (Rt w (.int .u64 S)))
  (h95 : ∀ w, Tabs w → Calls Tryz.prog 95 #[.int .i64 p] w (Rt w (.int .u64 nl)))
  (h96 : ∀ w, Calls Tryz.prog 96 #[fmtV fb fx] w (Rt w (.int .u64 I)))
  (hand : bits BinOp.andNot IntKind.u64 (x : Int) S = (sz : Int)) (hM : Hid (SignOf x sz M)) (hnl : ((x : Int) == nl) = false) (hI : ((sz : Int) == I) = false) (hI2 : decide (I < (sz : Int)) = false) (hz : ((sz : Int) == 0) = true) :
  Calls Tryz.prog 55 #[fmtV fb fx, .int .i64 p, .int .u64 (x : Int)] w (Rt w (.string (M ++ ⟨#[48]⟩))) := by
 have H91 := Lib.hid h91
 have H95 := Lib.hid h95
 have H96 := Lib.hid h96
 clear h91 h95 h96
 have hMs : M.size ≤ 1 := (show SignOf x sz M from hM).size
 go_enter Tryz.func55, Tryz.ntmps55
 go_wp2_with fail
 have hb0 : Below w.heap.size w (w.alloc (.cells #[.int .i64 fb, .int .i64 fx] 85)) := (Below.refl _ _).alloc (Nat.le_refl _) _
 refine (H91.out _).mono ?_
 rintro e w1 ⟨rfl, hb1⟩
 have hT1 := (hT.below hb0).below hb1
 have hB1 := hb0.trans (hb1.mono (by simp))
 have hX1 := (Box2.made w (.int .i64 fb) (.int .i64 fx) 85).below hb1
 clear hb0 hb1
 go_upto_if 21 with (fail)
 go_cut [8] (fun v8 wc => v8 = .string M ∧ wc = w1)
 case first =>
  rcases (show SignOf x sz M from hM) with ⟨c1, c2⟩ | ⟨c1, c2⟩
  ·rw [c1]
   go_wp2_with fail
   go_meet
   exact ⟨by rw [c2], rfl⟩
  ·rw [c1]
   go_wp2_with fail
   go_meet
   exact ⟨by rw [c2], rfl⟩
 case rest =>
  obtain ⟨rfl, rfl⟩ := hcut
  go_wp2_with fail
  refine (H95.out _ hT1).mono ?_
  rintro e w2 ⟨rfl, hb2⟩
  have hT2 := hT1.below hb2
  have hX2 := hX1.below hb2
  have hB2 := hB1.trans (hb2.mono hB1.size)
  clear hT1 hX1 hB1 hb2
  have ⟨x0, x1, x2⟩ := hX2
  go_wp2_with fail
  refine (H96.out _).mono ?_
  rintro e w3 ⟨rfl, hb3⟩
  have hT3 := hT2.below hb3
  have hX3 := hX2.below hb3
  have hB3 := hB2.trans (hb3.mono hB2.size)
  clear hT2 hX2 hB2 hb3 x0 x1 x2
  have ⟨x0, x1, x2⟩ := hX3
  go_wp2_with fail
  refine (H96.out _).mono ?_
  rintro e w4 ⟨rfl, hb4⟩
  have hT4 := hT3.below hb4
  have hX4 := hX3.below hb4
  have hB4 := hB3.trans (hb4.mono hB3.size)
  clear hT3 hX3 hB3 hb4 x0 x1 x2
  have ⟨x0, x1, x2⟩ := hX4
  go_wp2_with fail
  go_ret
  exact ⟨rfl, hB4⟩
theorem print_hex (fb fx p S nl I : Int) (N : Nat) (L U Z : ByteArray) (x sz : Nat) (M : ByteArray) (w : World) (hT : Tabz w)
  (h91 : ∀ w, Calls Tryz.prog 91 #[fmtV fb fx] w (Rt w (.int .u64 S)))
  (h95 : ∀ w, Tabz w → Calls Tryz.prog 95 #[.int .i64 p] w (Rt w (.int .u64 nl)))
  (h96 : ∀ w, Calls Tryz.prog 96 #[fmtV fb fx] w (Rt w (.int .u64 I)))
  (h88 : ∀ w, Calls Tryz.prog 88 #[fmtV fb fx] w (Rt w (.int .i64 (N : Int))))
  (h98 : ∀ w, Tabz w → Calls Tryz.prog 98 #[.int .u64 (x : Int), .int .i64 16] w (Rt w (.string L)))
  (h97 : ∀ w, Calls Tryz.prog 97 #[.string L] w (Rt w (.string U)))
  (h99 : ∀ w, Calls Tryz.prog 99 #[.string ⟨#[48]⟩, .int .i64 ((N : Int) - (U.size : Int))] w (Rt w (.string Z)))
  (hand : bits BinOp.andNot IntKind.u64 (x : Int) S = (sz : Int)) (hM : Hid (SignOf x sz M)) (hnl : ((x : Int) == nl) = false) (hI : ((sz : Int) == I) = false) (hI2 : decide (I < (sz : Int)) = true) (hU : U.size ≤ 16) (hN : N ≤ 16) (hZ : Z.size ≤ 16) :
  Calls Tryz.prog 55 #[fmtV fb fx, .int .i64 p, .int .u64 (x : Int)] w (Rt w (.string (((⟨#[48, 120]⟩ : ByteArray) ++ Z) ++ U))) := by
 have H91 := Lib.hid h91
 have H95 := Lib.hid h95
 have H96 := Lib.hid h96
 have H88 := Lib.hid h88
 have H98 := Lib.hid h98
 have H97 := Lib.hid h97
 have H99 := Lib.hid h99
 clear h91 h95 h96 h88 h98 h97 h99
 have hMs : M.size ≤ 1 := (show SignOf x sz M from hM).size
 go_enter Tryz.func55, Tryz.ntmps55
 go_wp2_with fail
 have hb0 : Below w.heap.size w (w.alloc (.cells #[.int .i64 fb, .int .i64 fx] 85)) := (Below.refl _ _).alloc (Nat.le_refl _) _
 refine (H91.out _).mono ?_
 rintro e w1 ⟨rfl, hb1⟩
 have hT1 := (hT.below hb0).below hb1
 have hB1 := hb0.trans (hb1.mono (by simp))
 have hX1 := (Box2.made w (.int .i64 fb) (.int .i64 fx) 85).below hb1
 clear hb0 hb1
 go_upto_if 21 with (fail)
 go_cut [8] (fun v8 wc => v8 = .string M ∧ wc = w1)
 case first =>
  rcases (show SignOf x sz M from hM) with ⟨c1, c2⟩ | ⟨c1, c2⟩
  ·rw [c1]
   go_wp2_with fail
   go_meet
   exact ⟨by rw [c2], rfl⟩
  ·rw [c1]
   go_wp2_with fail
   go_meet
   exact ⟨by rw [c2], rfl⟩
 case rest =>
  obtain ⟨rfl, rfl⟩ := hcut
  go_wp2_with fail
  refine (H95.out _ hT1).mono ?_
  rintro e w2 ⟨rfl, hb2⟩
  have hT2 := hT1.below hb2
  have hX2 := hX1.below hb2
  have hB2 := hB1.trans (hb2.mono hB1.size)
  clear hT1 hX1 hB1 hb2
  have ⟨x0, x1, x2⟩ := hX2
  go_wp2_with fail
  refine (H96.out _).mono ?_
  rintro e w3 ⟨rfl, hb3⟩
  have hT3 := hT2.below hb3
  have hX3 := hX2.below hb3
  have hB3 := hB2.trans (hb3.mono hB2.size)
  clear hT2 hX2 hB2 hb3 x0 x1 x2
  have ⟨x0, x1, x2⟩ := hX3
  go_wp2_with fail
  refine (H96.out _).mono ?_
  rintro e w4 ⟨rfl, hb4⟩
  have hT4 := hT3.below hb4
  have hX4 := hX3.below hb4
  have hB4 := hB3.trans (hb4.mono hB3.size)
  clear hT3 hX3 hB3 hb4 x0 x1 x2
  have ⟨x0, x1, x2⟩ := hX4
  go_wp2_with fail
  refine (H98.out _ hT4).mono ?_
  rintro e w5 ⟨rfl, hb5⟩
  have hX5 := hX4.below hb5
  have hB5 := hB4.trans (hb5.mono hB4.size)
  clear hX4 hB4 hb5 hT4 x0 x1 x2
  go_wp2_with fail
  refine (H97.out _).mono ?_
  rintro e w6 ⟨rfl, hb6⟩
  have hX6 := hX5.below hb6
  have hB6 := hB5.trans (hb6.mono hB5.size)
  clear hX5 hB5 hb6
  have ⟨x0, x1, x2⟩ := hX6
  go_wp2_with fail
  refine (H88.out _).mono ?_
  rintro e w7 ⟨rfl, hb7⟩
  have hB7 := hB6.trans (hb7.mono hB6.size)
  clear hB6 hb7 x0 x1 x2 hX6
  go_wp2_with fail
  refine (H99.out _).mono ?_
  rintro e w8 ⟨rfl, hb8⟩
  have hB8 := hB7.trans (hb8.mono hB7.size)
  go_wp2_with fail
  go_ret
  exact ⟨rfl, hB8⟩
end
section
set_option maxHeartbeats 1600000
set_option maxRecDepth 100000
theorem print_num (fb fx p S nl I ex : Int) (b : Nat) (F A X Dg R : ByteArray) (x sz : Nat) (M : ByteArray) (w : World) (hT : Tabs w)
  (h91 : ∀ w, Calls Tryz.prog 91 #[fmtV fb fx] w (Rt w (.int .u64 S)))
  (h95 : ∀ w, Tabs w → Calls Tryz.prog 95 #[.int .i64 p] w (Rt w (.int .u64 nl)))
  (h96 : ∀ w, Calls Tryz.prog 96 #[fmtV fb fx] w (Rt w (.int .u64 I)))
  (h102 : ∀ w, Calls Tryz.prog 102 #[fmtV fb fx, .int .u64 (sz : Int)] w (Rt w (.float .f64 b)))
  (h101 : ∀ w, Tabs w → Calls Tryz.prog 101 #[.float .f64 b, .int .u8 101, .int .i64 (-1), .int .i64 fb] w (Rt w (.string F)))
  (h100 : ∀ w, Tabs w → Calls Tryz.prog 100 #[.string F, .string ⟨#[101]⟩] w fun e w' => e = .returned (.tuple #[.string A, .string X, .bool true]) ∧ ∃ n, w' = w.drewN n)
  (h103 : ∀ w, Calls Tryz.prog 103 #[.string X] w (Rt w (.tuple #[.int .i64 ex, .nilIface])))
  (h105 : ∀ w, Tabs w → Calls Tryz.prog 105 #[.string A, .string ⟨#[46]⟩, .string ⟨#[]⟩, .int .i64 1] w (Rt w (.string Dg)))
  (h104 : ∀ w, Tabs w → Calls Tryz.prog 104 #[.string Dg, .int .i64 (ex + 1)] w (Rt w (.string R)))
  (hand : bits BinOp.andNot IntKind.u64 (x : Int) S = (sz : Int)) (hM : Hid (SignOf x sz M)) (hnl : ((x : Int) == nl) = false) (hI : ((sz : Int) == I) = false) (hI2 : decide (I < (sz : Int)) = false) (hz : ((sz : Int) == 0) = false) (hex : -1000 ≤ ex ∧ ex ≤ 1000) (hR : R.size ≤ 1000) :
  Calls Tryz.prog 55 #[fmtV fb fx, .int .i64 p, .int .u64 (x : Int)] w (Rt w (.string (M ++ R))) := by
 have H91 := Lib.hid h91
 have H95 := Lib.hid h95
 have H96 := Lib.hid h96
 have H102 := Lib.hid h102
 have H101 := Lib.hid h101
 have H100 := Lib.hid h100
 have H103 := Lib.hid h103
 have H105 := Lib.hid h105
 have H104 := Lib.hid h104
 clear h91 h95 h96 h102 h101 h100 h103 h105 h104
 have hMs : M.size ≤ 1 := (show SignOf x sz M from hM).size
 go_enter Tryz.func55, Tryz.ntmps55
 go_wp2_with fail
 have hb0 : Below w.heap.size w (w.alloc (.cells #[.int .i64 fb, .int .i64 fx] 85)) := (Below.refl _ _).alloc (Nat.le_refl _) _
 refine (H91.out _).mono ?_
 rintro e w1 ⟨rfl, hb1⟩
 have hT1 := (hT.below hb0).below hb1
 have hB1 := hb0.trans (hb1.mono (by simp))
 have hX1 := (Box2.made w (.int .i64 fb) (.int .i64 fx) 85).below hb1
 clear hb0 hb1
 go_upto_if 21 with (fail)
 go_cut [8] (fun v8 wc => v8 = .string M ∧ wc = w1)
 case first =>
  rcases (show SignOf x sz M from hM) with ⟨c1, c2⟩ | ⟨c1, c2⟩
  ·rw [c1]
   go_wp2_with fail
   go_meet
   exact ⟨by rw [c2], rfl⟩
  ·rw [c1]
   go_wp2_with fail
   go_meet
   exact ⟨by rw [c2], rfl⟩
 case rest =>
  obtain ⟨rfl, rfl⟩ := hcut
  go_wp2_with fail
  refine (H95.out _ hT1).mono ?_
  rintro e w2 ⟨rfl, hb2⟩
  have hT2 := hT1.below hb2
  have hX2 := hX1.below hb2
  have hB2 := hB1.trans (hb2.mono hB1.size)
  clear hT1 hX1 hB1 hb2
  have ⟨x0, x1, x2⟩ := hX2
  go_wp2_with fail
  refine (H96.out _).mono ?_
  rintro e w3 ⟨rfl, hb3⟩
  have hT3 := hT2.below hb3
  have hX3 := hX2.below hb3
  have hB3 := hB2.trans (hb3.mono hB2.size)
  clear hT2 hX2 hB2 hb3 x0 x1 x2
  have ⟨x0, x1, x2⟩ := hX3
  go_wp2_with fail
  refine (H96.out _).mono ?_
  rintro e w4 ⟨rfl, hb4⟩
  have hT4 := hT3.below hb4
  have hX4 := hX3.below hb4
  have hB4 := hB3.trans (hb4.mono hB3.size)
  clear hT3 hX3 hB3 hb4 x0 x1 x2
  have ⟨x0, x1, x2⟩ := hX4
  go_wp2_with fail
  have HX4 := Lib.hid hX4
  have HX4d : Hid (Box2 w4.drew w.heap.size (.int .i64 fb) (.int .i64 fx)) := Lib.hid hX4.draw1
  have HT4 := Lib.hid hT4
  have HB4 := Lib.hid hB4
  clear hX4 hT4 hB4
  go_region_with (first | (go_at_call 102; refine (H102.out _).mono ?_; rintro e w5 ⟨rfl, hb5⟩; have HX5 := Lib.hid (by first | exact HX4.out.below hb5 | exact HX4d.out.below hb5); have HT5 := Lib.hid (by first | exact HT4.out.below hb5 | exact (HT4.out.drewN 1).below hb5); have ⟨y0, y1, y2⟩ := HX5.out; have HB5 := Lib.hid hb5; clear hb5) | (go_at_call 101; refine (H101.out _ (by first | exact HT5.out | exact HT5.out.drewN 1)).mono ?_; rintro e w6 ⟨rfl, hb6⟩; have HB6 := Lib.hid hb6; clear hb6) | (go_at_call 100; refine (H100.out _ (by first | exact HT5.out.below HB6.out | exact (HT5.out.drewN 1).below HB6.out)).mono ?_; rintro e w7 ⟨rfl, n7, rfl⟩))
  all_goals
   have hT6 : Tabs w6 := by first | exact HT5.out.below HB6.out | exact (HT5.out.drewN 1).below HB6.out
   have hB5' : Below w4.heap.size w4 w5 := by first | exact HB5.out | exact (below_drewN (Below.refl _ w4) 1).trans HB5.out
   have hB6' : Below w5.heap.size w5 w6 := by first | exact HB6.out | exact (below_drewN (Below.refl _ w5) 1).trans HB6.out
   have hBa := HB4.out.trans (hB5'.mono HB4.out.size)
   have hBb := hBa.trans (hB6'.mono hBa.size)
   have hBB := below_drewN hBb n7
   have hT7 := hT6.drewN n7
   clear hBa hBb hB5' hB6' hT6 HT5 HB5 HB6 HX4 HX4d HT4 HB4 HX5 y0 y1 y2 x0 x1 x2
   go_wp2_with fail
   refine (H103.out _).mono ?_
   rintro e w8 ⟨rfl, hb8⟩
   have hT8 := hT7.below hb8
   have hB8 := hBB.trans (hb8.mono hBB.size)
   clear hT7 hBB hb8
   go_wp2_with fail
   refine (H105.out _ hT8).mono ?_
   rintro e w9 ⟨rfl, hb9⟩
   have hT9 := hT8.below hb9
   have hB9 := hB8.trans (hb9.mono hB8.size)
   clear hT8 hB8 hb9
   go_wp2_with fail
   refine (H104.out _ hT9).mono ?_
   rintro e w10 ⟨rfl, hb10⟩
   have hB10 := hB9.trans (hb10.mono hB9.size)
   go_wp2_with fail
   go_ret
   exact ⟨rfl, hB10⟩
end
end Go.Proofs.YtepfodmbjojdbaaGreatDoor.Num
