/- NumberPrints: the reference's printFloat, its ways. No conditions beyond each theorem's own. -/
import Derived.Test.YtepfodmbjojdbaaGreatDoorQ04
import Derived.Test.YtepfodmbjojdbaaGreatDoorQ19
import Derived.Test.YtepfodmbjojdbaaGreatDoorQ21
import Derived.Lib.Hide
set_option linter.all false
namespace Go.Proofs.YtepfodmbjojdbaaGreatDoor.Num
open Go Go.RowKit Go.Lib YtepfodmbjojdbaaGreatDoorW.PrintWords YtepfodmbjojdbaaGreatDoorW.PrintMore PNumberPrints
section
open Go.Sort
set_option maxHeartbeats 1600000
set_option maxRecDepth 100000
def SignRef (x sz : Nat) (S : Int) (M : ByteArray) : Prop := (decide (S ≤ (x : Int)) = true ∧ IntKind.u64.wrap ((x : Int) - S) = (sz : Int) ∧ M = ⟨#[45]⟩) ∨ (decide (S ≤ (x : Int)) = false ∧ x = sz ∧ M = ⟨#[]⟩)
theorem SignRef.size {x sz : Nat} {S : Int} {M : ByteArray} (h : SignRef x sz S M) : M.size ≤ 1 := by rcases h with ⟨_, _, rfl⟩ | ⟨_, _, rfl⟩ <;> decide
abbrev kindV (D least most sg : Int) : Value := .agg #[.int .i64 D, .int .i64 least, .int .i64 most, .int .i64 sg]
theorem ref_nan (p D least most sg nl S I N : Int) (x sz : Nat) (M R : ByteArray) (w : World)
  (h62 : ∀ w, Calls Tryz.prog 62 #[.int .i64 p] w (Rt w (kindV D least most sg)))
  (h60 : ∀ w, Calls Tryz.prog 60 #[.int .i64 p] w (Rt w (.int .u64 nl)))
  (h32 : ∀ w, Calls Tryz.prog 32 #[.int .i64 sg] w (Rt w (.int .u64 S)))
  (hM : Hid (SignRef x sz S M)) (hnl : ((x : Int) == nl) = true) :
  Calls Tryz.prog 29 #[.int .i64 p, .int .u64 (x : Int)] w (Rt w (.string ⟨#[78, 97, 78]⟩)) := by
 have H62 := Lib.hid h62
 have H60 := Lib.hid h60
 have H32 := Lib.hid h32
 clear h62 h60 h32
 have hMs : M.size ≤ 1 := (show SignRef x sz S M from hM).size
 go_enter Tryz.func29, Tryz.ntmps29
 go_wp2_with fail
 refine (H62.out _).mono ?_
 rintro e w1 ⟨rfl, hb1⟩
 have hX2 := BoxAt.made w1 (.int .i64 D) (.int .i64 least) (.int .i64 most) (.int .i64 sg) 88
 have hB2 : Below w.heap.size w (w1.alloc (.cells #[.int .i64 D, .int .i64 least, .int .i64 most, .int .i64 sg] 88)) := hb1.alloc hb1.size _
 clear hb1
 go_wp2_with fail
 refine (H60.out _).mono ?_
 rintro e w3 ⟨rfl, hb3⟩
 have hX3 := hX2.below hb3
 have hB3 := hB2.trans (hb3.mono hB2.size)
 clear hX2 hB2 hb3
 have ⟨x0, x1, x2, x3, x4⟩ := hX3
 go_wp2_with fail
 refine (H32.out _).mono ?_
 rintro e w4 ⟨rfl, hb4⟩
 have hX4 := hX3.below hb4
 have hB4 := hB3.trans (hb4.mono hB3.size)
 clear hX3 hB3 hb4 x0 x1 x2 x3 x4
 have ⟨x0, x1, x2, x3, x4⟩ := hX4
 go_upto_if 19 with (fail)
 go_cut [7, 8] (fun v7 v8 wc => v7 = .string M ∧ v8 = .int .u64 (sz : Int) ∧ BoxAt wc w1.heap.size (.int .i64 D) (.int .i64 least) (.int .i64 most) (.int .i64 sg) ∧ Below w.heap.size w wc)
 case first =>
  rcases (show SignRef x sz S M from hM) with ⟨c1, c2, c3⟩ | ⟨c1, c2, c3⟩
  ·rw [c1]
   go_wp2_with fail
   refine (H32.out _).mono ?_
   rintro e w5 ⟨rfl, hb5⟩
   go_wp2_with fail
   go_meet
   exact ⟨by rw [c3], by rw [← c2], hX4.below hb5, hB4.trans (hb5.mono hB4.size)⟩
  ·rw [c1]
   go_wp2_with fail
   go_meet
   exact ⟨by rw [c3], by rw [← c2], hX4, hB4⟩
 case rest =>
  obtain ⟨rfl, rfl, hX6, hB6⟩ := hcut
  clear hX4 hB4 x0 x1 x2 x3 x4
  have ⟨x0, x1, x2, x3, x4⟩ := hX6
  go_wp2_with fail
  go_ret
  exact ⟨rfl, hB6⟩
theorem ref_inf (p D least most sg nl S I N : Int) (x sz : Nat) (M R : ByteArray) (w : World)
  (h62 : ∀ w, Calls Tryz.prog 62 #[.int .i64 p] w (Rt w (kindV D least most sg)))
  (h60 : ∀ w, Calls Tryz.prog 60 #[.int .i64 p] w (Rt w (.int .u64 nl)))
  (h32 : ∀ w, Calls Tryz.prog 32 #[.int .i64 sg] w (Rt w (.int .u64 S)))
  (h63 : ∀ w, Calls Tryz.prog 63 #[kindV D least most sg] w (Rt w (.int .u64 I)))
  (hM : Hid (SignRef x sz S M)) (hnl : ((x : Int) == nl) = false) (hI : ((sz : Int) == I) = true) :
  Calls Tryz.prog 29 #[.int .i64 p, .int .u64 (x : Int)] w (Rt w (.string (M ++ ⟨#[73, 78, 70]⟩))) := by
 have H62 := Lib.hid h62
 have H60 := Lib.hid h60
 have H32 := Lib.hid h32
 have H63 := Lib.hid h63
 clear h62 h60 h32 h63
 have hMs : M.size ≤ 1 := (show SignRef x sz S M from hM).size
 go_enter Tryz.func29, Tryz.ntmps29
 go_wp2_with fail
 refine (H62.out _).mono ?_
 rintro e w1 ⟨rfl, hb1⟩
 have hX2 := BoxAt.made w1 (.int .i64 D) (.int .i64 least) (.int .i64 most) (.int .i64 sg) 88
 have hB2 : Below w.heap.size w (w1.alloc (.cells #[.int .i64 D, .int .i64 least, .int .i64 most, .int .i64 sg] 88)) := hb1.alloc hb1.size _
 clear hb1
 go_wp2_with fail
 refine (H60.out _).mono ?_
 rintro e w3 ⟨rfl, hb3⟩
 have hX3 := hX2.below hb3
 have hB3 := hB2.trans (hb3.mono hB2.size)
 clear hX2 hB2 hb3
 have ⟨x0, x1, x2, x3, x4⟩ := hX3
 go_wp2_with fail
 refine (H32.out _).mono ?_
 rintro e w4 ⟨rfl, hb4⟩
 have hX4 := hX3.below hb4
 have hB4 := hB3.trans (hb4.mono hB3.size)
 clear hX3 hB3 hb4 x0 x1 x2 x3 x4
 have ⟨x0, x1, x2, x3, x4⟩ := hX4
 go_upto_if 19 with (fail)
 go_cut [7, 8] (fun v7 v8 wc => v7 = .string M ∧ v8 = .int .u64 (sz : Int) ∧ BoxAt wc w1.heap.size (.int .i64 D) (.int .i64 least) (.int .i64 most) (.int .i64 sg) ∧ Below w.heap.size w wc)
 case first =>
  rcases (show SignRef x sz S M from hM) with ⟨c1, c2, c3⟩ | ⟨c1, c2, c3⟩
  ·rw [c1]
   go_wp2_with fail
   refine (H32.out _).mono ?_
   rintro e w5 ⟨rfl, hb5⟩
   go_wp2_with fail
   go_meet
   exact ⟨by rw [c3], by rw [← c2], hX4.below hb5, hB4.trans (hb5.mono hB4.size)⟩
  ·rw [c1]
   go_wp2_with fail
   go_meet
   exact ⟨by rw [c3], by rw [← c2], hX4, hB4⟩
 case rest =>
  obtain ⟨rfl, rfl, hX6, hB6⟩ := hcut
  clear hX4 hB4 x0 x1 x2 x3 x4
  have ⟨x0, x1, x2, x3, x4⟩ := hX6
  go_wp2_with fail
  refine (H63.out _).mono ?_
  rintro e w7 ⟨rfl, hb7⟩
  have hX7 := hX6.below hb7
  have hB7 := hB6.trans (hb7.mono hB6.size)
  clear hX6 hB6 hb7 x0 x1 x2 x3 x4
  have ⟨x0, x1, x2, x3, x4⟩ := hX7
  go_wp2_with fail
  go_ret
  exact ⟨rfl, hB7⟩
theorem ref_zero (p D least most sg nl S I N : Int) (x sz : Nat) (M R : ByteArray) (w : World)
  (h62 : ∀ w, Calls Tryz.prog 62 #[.int .i64 p] w (Rt w (kindV D least most sg)))
  (h60 : ∀ w, Calls Tryz.prog 60 #[.int .i64 p] w (Rt w (.int .u64 nl)))
  (h32 : ∀ w, Calls Tryz.prog 32 #[.int .i64 sg] w (Rt w (.int .u64 S)))
  (h63 : ∀ w, Calls Tryz.prog 63 #[kindV D least most sg] w (Rt w (.int .u64 I)))
  (hM : Hid (SignRef x sz S M)) (hnl : ((x : Int) == nl) = false) (hI : ((sz : Int) == I) = false) (hI2 : decide (I < (sz : Int)) = false) (hz : ((sz : Int) == 0) = true) :
  Calls Tryz.prog 29 #[.int .i64 p, .int .u64 (x : Int)] w (Rt w (.string (M ++ ⟨#[48]⟩))) := by
 have H62 := Lib.hid h62
 have H60 := Lib.hid h60
 have H32 := Lib.hid h32
 have H63 := Lib.hid h63
 clear h62 h60 h32 h63
 have hMs : M.size ≤ 1 := (show SignRef x sz S M from hM).size
 go_enter Tryz.func29, Tryz.ntmps29
 go_wp2_with fail
 refine (H62.out _).mono ?_
 rintro e w1 ⟨rfl, hb1⟩
 have hX2 := BoxAt.made w1 (.int .i64 D) (.int .i64 least) (.int .i64 most) (.int .i64 sg) 88
 have hB2 : Below w.heap.size w (w1.alloc (.cells #[.int .i64 D, .int .i64 least, .int .i64 most, .int .i64 sg] 88)) := hb1.alloc hb1.size _
 clear hb1
 go_wp2_with fail
 refine (H60.out _).mono ?_
 rintro e w3 ⟨rfl, hb3⟩
 have hX3 := hX2.below hb3
 have hB3 := hB2.trans (hb3.mono hB2.size)
 clear hX2 hB2 hb3
 have ⟨x0, x1, x2, x3, x4⟩ := hX3
 go_wp2_with fail
 refine (H32.out _).mono ?_
 rintro e w4 ⟨rfl, hb4⟩
 have hX4 := hX3.below hb4
 have hB4 := hB3.trans (hb4.mono hB3.size)
 clear hX3 hB3 hb4 x0 x1 x2 x3 x4
 have ⟨x0, x1, x2, x3, x4⟩ := hX4
 go_upto_if 19 with (fail)
 go_cut [7, 8] (fun v7 v8 wc => v7 = .string M ∧ v8 = .int .u64 (sz : Int) ∧ BoxAt wc w1.heap.size (.int .i64 D) (.int .i64 least) (.int .i64 most) (.int .i64 sg) ∧ Below w.heap.size w wc)
 case first =>
  rcases (show SignRef x sz S M from hM) with ⟨c1, c2, c3⟩ | ⟨c1, c2, c3⟩
  ·rw [c1]
   go_wp2_with fail
   refine (H32.out _).mono ?_
   rintro e w5 ⟨rfl, hb5⟩
   go_wp2_with fail
   go_meet
   exact ⟨by rw [c3], by rw [← c2], hX4.below hb5, hB4.trans (hb5.mono hB4.size)⟩
  ·rw [c1]
   go_wp2_with fail
   go_meet
   exact ⟨by rw [c3], by rw [← c2], hX4, hB4⟩
 case rest =>
  obtain ⟨rfl, rfl, hX6, hB6⟩ := hcut
  clear hX4 hB4 x0 x1 x2 x3 x4
  have ⟨x0, x1, x2, x3, x4⟩ := hX6
  go_wp2_with fail
  refine (H63.out _).mono ?_
  rintro e w7 ⟨rfl, hb7⟩
  have hX7 := hX6.below hb7
  have hB7 := hB6.trans (hb7.mono hB6.size)
  clear hX6 hB6 hb7 x0 x1 x2 x3 x4
  have ⟨x0, x1, x2, x3, x4⟩ := hX7
  go_wp2_with fail
  refine (H63.out _).mono ?_
  rintro e w8 ⟨rfl, hb8⟩
  have hX8 := hX7.below hb8
  have hB8 := hB7.trans (hb8.mono hB7.size)
  clear hX7 hB7 hb8 x0 x1 x2 x3 x4
  have ⟨x0, x1, x2, x3, x4⟩ := hX8
  go_wp2_with fail
  go_ret
  exact ⟨rfl, hB8⟩
theorem ref_hex (p D least most sg nl S I N : Int) (x sz : Nat) (M R : ByteArray) (w : World)
  (h62 : ∀ w, Calls Tryz.prog 62 #[.int .i64 p] w (Rt w (kindV D least most sg)))
  (h60 : ∀ w, Calls Tryz.prog 60 #[.int .i64 p] w (Rt w (.int .u64 nl)))
  (h32 : ∀ w, Calls Tryz.prog 32 #[.int .i64 sg] w (Rt w (.int .u64 S)))
  (h63 : ∀ w, Calls Tryz.prog 63 #[kindV D least most sg] w (Rt w (.int .u64 I)))
  (h64 : ∀ w, Calls Tryz.prog 64 #[.int .u64 (x : Int), .int .i64 N] w (Rt w (.string R)))
  (hM : Hid (SignRef x sz S M)) (hnl : ((x : Int) == nl) = false) (hI : ((sz : Int) == I) = false) (hI2 : decide (I < (sz : Int)) = true) (hsg : wrap64 (wrap64 (sg + 1) / 4) = N) (hsg2 : (sg + 1) / 4 = N) (hsg3 : 0 ≤ sg ∧ sg ≤ 100) :
  Calls Tryz.prog 29 #[.int .i64 p, .int .u64 (x : Int)] w (Rt w (.string R)) := by
 have H62 := Lib.hid h62
 have H60 := Lib.hid h60
 have H32 := Lib.hid h32
 have H63 := Lib.hid h63
 have H64 := Lib.hid h64
 clear h62 h60 h32 h63 h64
 have hMs : M.size ≤ 1 := (show SignRef x sz S M from hM).size
 go_enter Tryz.func29, Tryz.ntmps29
 go_wp2_with fail
 refine (H62.out _).mono ?_
 rintro e w1 ⟨rfl, hb1⟩
 have hX2 := BoxAt.made w1 (.int .i64 D) (.int .i64 least) (.int .i64 most) (.int .i64 sg) 88
 have hB2 : Below w.heap.size w (w1.alloc (.cells #[.int .i64 D, .int .i64 least, .int .i64 most, .int .i64 sg] 88)) := hb1.alloc hb1.size _
 clear hb1
 go_wp2_with fail
 refine (H60.out _).mono ?_
 rintro e w3 ⟨rfl, hb3⟩
 have hX3 := hX2.below hb3
 have hB3 := hB2.trans (hb3.mono hB2.size)
 clear hX2 hB2 hb3
 have ⟨x0, x1, x2, x3, x4⟩ := hX3
 go_wp2_with fail
 refine (H32.out _).mono ?_
 rintro e w4 ⟨rfl, hb4⟩
 have hX4 := hX3.below hb4
 have hB4 := hB3.trans (hb4.mono hB3.size)
 clear hX3 hB3 hb4 x0 x1 x2 x3 x4
 have ⟨x0, x1, x2, x3, x4⟩ := hX4
 go_upto_if 19 with (fail)
 go_cut [7, 8] (fun v7 v8 wc => v7 = .string M ∧ v8 = .int .u64 (sz : Int) ∧ BoxAt wc w1.heap.size (.int .i64 D) (.int .i64 least) (.int .i64 most) (.int .i64 sg) ∧ Below w.heap.size w wc)
 case first =>
  rcases (show SignRef x sz S M from hM) with ⟨c1, c2, c3⟩ | ⟨c1, c2, c3⟩
  ·rw [c1]
   go_wp2_with fail
   refine (H32.out _).mono ?_
   rintro e w5 ⟨rfl, hb5⟩
   go_wp2_with fail
   go_meet
   exact ⟨by rw [c3], by rw [← c2], hX4.below hb5, hB4.trans (hb5.mono hB4.size)⟩
  ·rw [c1]
   go_wp2_with fail
   go_meet
   exact ⟨by rw [c3], by rw [← c2], hX4, hB4⟩
 case rest =>
  obtain ⟨rfl, rfl, hX6, hB6⟩ := hcut
  clear hX4 hB4 x0 x1 x2 x3 x4
  have ⟨x0, x1, x2, x3, x4⟩ := hX6
  go_wp2_with fail
  refine (H63.out _).mono ?_
  rintro e w7 ⟨rfl, hb7⟩
  have hX7 := hX6.below hb7
  have hB7 := hB6.trans (hb7.mono hB6.size)
  clear hX6 hB6 hb7 x0 x1 x2 x3 x4
  have ⟨x0, x1, x2, x3, x4⟩ := hX7
  go_wp2_with fail
  refine (H63.out _).mono ?_
  rintro e w8 ⟨rfl, hb8⟩
  have hX8 := hX7.below hb8
  have hB8 := hB7.trans (hb8.mono hB7.size)
  clear hX7 hB7 hb8 x0 x1 x2 x3 x4
  have ⟨x0, x1, x2, x3, x4⟩ := hX8
  go_wp2_with fail
  refine (H64.out _).mono ?_
  rintro e w9 ⟨rfl, hb9⟩
  have hX9 := hX8.below hb9
  have hB9 := hB8.trans (hb9.mono hB8.size)
  clear hX8 hB8 hb9 x0 x1 x2 x3 x4
  have ⟨x0, x1, x2, x3, x4⟩ := hX9
  go_wp2_with fail
  go_ret
  exact ⟨rfl, hB9⟩
theorem ref_num (p D least most sg nl S I N : Int) (x sz : Nat) (M R : ByteArray) (w : World)
  (h62 : ∀ w, Calls Tryz.prog 62 #[.int .i64 p] w (Rt w (kindV D least most sg)))
  (h60 : ∀ w, Calls Tryz.prog 60 #[.int .i64 p] w (Rt w (.int .u64 nl)))
  (h32 : ∀ w, Calls Tryz.prog 32 #[.int .i64 sg] w (Rt w (.int .u64 S)))
  (h63 : ∀ w, Calls Tryz.prog 63 #[kindV D least most sg] w (Rt w (.int .u64 I)))
  (h65 : ∀ w, Calls Tryz.prog 65 #[kindV D least most sg, .int .u64 (sz : Int)] w (Rt w (.string R)))
  (hM : Hid (SignRef x sz S M)) (hnl : ((x : Int) == nl) = false) (hI : ((sz : Int) == I) = false) (hI2 : decide (I < (sz : Int)) = false) (hz : ((sz : Int) == 0) = false) (hR : R.size ≤ 1000) :
  Calls Tryz.prog 29 #[.int .i64 p, .int .u64 (x : Int)] w (Rt w (.string (M ++ R))) := by
 have H62 := Lib.hid h62
 have H60 := Lib.hid h60
 have H32 := Lib.hid h32
 have H63 := Lib.hid h63
 have H65 := Lib.hid h65
 clear h62 h60 h32 h63 h65
 have hMs : M.size ≤ 1 := (show SignRef x sz S M from hM).size
 go_enter Tryz.func29, Tryz.ntmps29
 go_wp2_with fail
 refine (H62.out _).mono ?_
 rintro e w1 ⟨rfl, hb1⟩
 have hX2 := BoxAt.made w1 (.int .i64 D) (.int .i64 least) (.int .i64 most) (.int .i64 sg) 88
 have hB2 : Below w.heap.size w (w1.alloc (.cells #[.int .i64 D, .int .i64 least, .int .i64 most, .int .i64 sg] 88)) := hb1.alloc hb1.size _
 clear hb1
 go_wp2_with fail
 refine (H60.out _).mono ?_
 rintro e w3 ⟨rfl, hb3⟩
 have hX3 := hX2.below hb3
 have hB3 := hB2.trans (hb3.mono hB2.size)
 clear hX2 hB2 hb3
 have ⟨x0, x1, x2, x3, x4⟩ := hX3
 go_wp2_with fail
 refine (H32.out _).mono ?_
 rintro e w4 ⟨rfl, hb4⟩
 have hX4 := hX3.below hb4
 have hB4 := hB3.trans (hb4.mono hB3.size)
 clear hX3 hB3 hb4 x0 x1 x2 x3 x4
 have ⟨x0, x1, x2, x3, x4⟩ := hX4
 go_upto_if 19 with (fail)
 go_cut [7, 8] (fun v7 v8 wc => v7 = .string M ∧ v8 = .int .u64 (sz : Int) ∧ BoxAt wc w1.heap.size (.int .i64 D) (.int .i64 least) (.int .i64 most) (.int .i64 sg) ∧ Below w.heap.size w wc)
 case first =>
  rcases (show SignRef x sz S M from hM) with ⟨c1, c2, c3⟩ | ⟨c1, c2, c3⟩
  ·rw [c1]
   go_wp2_with fail
   refine (H32.out _).mono ?_
   rintro e w5 ⟨rfl, hb5⟩
   go_wp2_with fail
   go_meet
   exact ⟨by rw [c3], by rw [← c2], hX4.below hb5, hB4.trans (hb5.mono hB4.size)⟩
  ·rw [c1]
   go_wp2_with fail
   go_meet
   exact ⟨by rw [c3], by rw [← c2], hX4, hB4⟩
 case rest =>
  obtain ⟨rfl, rfl, hX6, hB6⟩ := hcut
  clear hX4 hB4 x0 x1 x2 x3 x4
  have ⟨x0, x1, x2, x3, x4⟩ := hX6
  go_wp2_with fail
  refine (H63.out _).mono ?_
  rintro e w7 ⟨rfl, hb7⟩
  have hX7 := hX6.below hb7
  have hB7 := hB6.trans (hb7.mono hB6.size)
  clear hX6 hB6 hb7 x0 x1 x2 x3 x4
  have ⟨x0, x1, x2, x3, x4⟩ := hX7
  go_wp2_with fail
  refine (H63.out _).mono ?_
  rintro e w8 ⟨rfl, hb8⟩
  have hX8 := hX7.below hb8
  have hB8 := hB7.trans (hb8.mono hB7.size)
  clear hX7 hB7 hb8 x0 x1 x2 x3 x4
  have ⟨x0, x1, x2, x3, x4⟩ := hX8
  go_wp2_with fail
  refine (H65.out _).mono ?_
  rintro e w9 ⟨rfl, hb9⟩
  have hX9 := hX8.below hb9
  have hB9 := hB8.trans (hb9.mono hB8.size)
  clear hX8 hB8 hb9 x0 x1 x2 x3 x4
  have ⟨x0, x1, x2, x3, x4⟩ := hX9
  go_wp2_with fail
  go_ret
  exact ⟨rfl, hB9⟩
end
theorem hexU_succ (j x : Nat) : hexU (j + 1) x = hexu (x / 16 ^ j % 16) :: hexU j x := by
 unfold hexU
 rw [List.range_succ_eq_map, List.map_cons, List.map_map]
 congr 1
 apply List.map_congr_left
 intro t ht
 have := List.mem_range.1 ht
 simp only [Function.comp]
 rw [show j + 1 - 1 - (t + 1) = j - 1 - t by omega]
theorem hexU_len (n x : Nat) : (hexU n x).length = n := by simp [hexU]
theorem dig16 (m : Nat) (hm : m < 16) : (⟨#[48, 49, 50, 51, 52, 53, 54, 55, 56, 57, 65, 66, 67, 68, 69, 70]⟩ : ByteArray).extract m (m + 1) = ⟨#[hexu m]⟩ := by
 have h : m = 0 ∨ m = 1 ∨ m = 2 ∨ m = 3 ∨ m = 4 ∨ m = 5 ∨ m = 6 ∨ m = 7 ∨ m = 8 ∨ m = 9 ∨ m = 10 ∨ m = 11 ∨ m = 12 ∨ m = 13 ∨ m = 14 ∨ m = 15 := by omega
 rcases h with rfl | rfl | rfl | rfl | rfl | rfl | rfl | rfl | rfl | rfl | rfl | rfl | rfl | rfl | rfl | rfl <;> (apply ByteArray.ext; rfl)
theorem sz_le (a b : ByteArray) (ha : a.size ≤ 1) (hb : b.size ≤ 16) : a.size + b.size ≤ 9223372036854775807 := by omega
theorem sz2_le (b : ByteArray) (hb : b.size ≤ 16) : 2 + b.size ≤ 9223372036854775807 := by omega
theorem hexWord_l0 (N x : Nat) (hN : N ≤ 16) (hx : x < 18446744073709551616) : ∀ d j k, j + d = N → d < k →
  stencilref03_hexWord.l0 k ((x / 16 ^ j : Nat) : Int) (N : Int) ⟨(hexU j x).toArray⟩ (j : Int) = some ((⟨#[48, 120]⟩ : ByteArray) ++ ⟨(hexU N x).toArray⟩) := by
 intro d
 induction d with
 | zero =>
  intro j k hj hk
  obtain ⟨k, rfl⟩ : ∃ m, k = m + 1 := ⟨k - 1, by omega⟩
  have : j = N := by omega
  subst this
  have hs : (⟨(hexU j x).toArray⟩ : ByteArray).size = j := by show (hexU j x).toArray.size = j; simp [hexU_len]
  rw [stencilref03_hexWord.l0, if_neg (by omega), if_pos (sz2_le _ (by rw [hs]; exact hN))]
 | succ d ih =>
  intro j k hj hk
  obtain ⟨k, rfl⟩ : ∃ m, k = m + 1 := ⟨k - 1, by omega⟩
  have hs : (⟨(hexU j x).toArray⟩ : ByteArray).size = j := by show (hexU j x).toArray.size = j; simp [hexU_len]
  obtain ⟨y, hy⟩ : ∃ y, y = x / 16 ^ j := ⟨_, rfl⟩
  have hyx : y ≤ x := by rw [hy]; exact Nat.div_le_self _ _
  have e6 : (⟨#[hexu (y % 16)]⟩ : ByteArray) ++ ⟨(hexU j x).toArray⟩ = ⟨(hexU (j + 1) x).toArray⟩ := by
   rw [hexU_succ, ← hy]; apply ByteArray.ext; apply Array.ext'; simp [ByteArray.data_append]
  have e7 : x / 16 ^ (j + 1) = y / 16 := by rw [Nat.pow_succ, ← Nat.div_div_eq_div_mul, ← hy]
  have hI := ih (j + 1) k (by clear e7 hy e6; omega) (by clear e7 hy e6; omega)
  rw [← hy]
  rw [e7] at hI
  clear ih e7 hy
  have hI := Lib.hid hI
  have hjN : j ≤ 16 := by omega
  have c1 : (j : Int) < (N : Int) := by omega
  have c2 : 0 ≤ ((y % 16 : Nat) : Int) := by omega
  have c3 : ((y % 16 : Nat) : Int) ≤ ((y % 16 + 1 : Nat) : Int) := by omega
  have c4 : ((y % 16 + 1 : Nat) : Int) ≤ 16 := by omega
  have e1 : Int.tmod (y : Int) 16 = ((y % 16 : Nat) : Int) := by rw [Int.tmod_eq_emod_of_nonneg (by omega)]; omega
  have e2 : IntKind.u64.wrap (((y % 16 : Nat) : Int) + 1) = ((y % 16 + 1 : Nat) : Int) := by rw [wu64 (by omega)]; omega
  have e3 : IntKind.u64.wrap (Int.tdiv (y : Int) 16) = ((y / 16 : Nat) : Int) := by
   rw [Int.tdiv_eq_ediv_of_nonneg (by omega), wu64 (by omega)]; omega
  have e4 : wrap64 ((j : Int) + 1) = ((j + 1 : Nat) : Int) := by rw [w64 (by omega)]; omega
  have e5 : (⟨#[48, 49, 50, 51, 52, 53, 54, 55, 56, 57, 65, 66, 67, 68, 69, 70]⟩ : ByteArray).extract (((y % 16 : Nat) : Int)).toNat (((y % 16 + 1 : Nat) : Int)).toNat = ⟨#[hexu (y % 16)]⟩ := by
   rw [Int.toNat_natCast, Int.toNat_natCast]; exact dig16 _ (Nat.mod_lt _ (by decide))
  have c5 : (⟨#[hexu (y % 16)]⟩ : ByteArray).size + (⟨(hexU j x).toArray⟩ : ByteArray).size ≤ 9223372036854775807 := sz_le _ _ (Nat.le_refl 1) (by rw [hs]; exact hjN)
  rw [stencilref03_hexWord.l0, if_pos c1, e1, if_pos c2, e2, if_pos c3, if_pos c4, e5, if_pos c5, e3, e4, e6]
  exact hI.out
theorem hexWord_b (N x : Nat) (hN : N ≤ 16) (hx : x < 18446744073709551616) (w : World) :
  Calls Tryz.prog 64 #[.int .u64 (x : Int), .int .i64 (N : Int)] w (Rt w (.string ((⟨#[48, 120]⟩ : ByteArray) ++ ⟨(hexU N x).toArray⟩))) := by
 have h := hexWord_l0 N x hN hx N 0 (N + 1) (by omega) (by omega)
 rw [Nat.pow_zero, Nat.div_one] at h
 exact (stencilref03_hexWord.calls (N + 1) x N _ w h).mono fun e w' ⟨a, b⟩ => ⟨a, b.below⟩
theorem kind9 (w : World) : Calls Tryz.prog 62 #[.int .i64 9] w (Rt w (kindV 24 (-126) 127 31)) := stencilref03_kind.calls 9 24 (-126) 127 31 w (by decide)
theorem kind10 (w : World) : Calls Tryz.prog 62 #[.int .i64 10] w (Rt w (kindV 53 (-1022) 1023 63)) := stencilref03_kind.calls 10 53 (-1022) 1023 63 w (by decide)
theorem refNull9 (w : World) : Calls Tryz.prog 60 #[.int .i64 9] w (Rt w (.int .u64 2143289344)) :=
 (stencilref01_Null.calls 100 9 2143289344 w (by decide +kernel)).mono fun e w' ⟨a, b⟩ => ⟨a, b.below⟩
theorem refNull10 (w : World) : Calls Tryz.prog 60 #[.int .i64 10] w (Rt w (.int .u64 9221120237041090560)) :=
 (stencilref01_Null.calls 100 10 9221120237041090560 w (by decide +kernel)).mono fun e w' ⟨a, b⟩ => ⟨a, b.below⟩
theorem refPow31 (w : World) : Calls Tryz.prog 32 #[.int .i64 31] w (Rt w (.int .u64 2147483648)) :=
 (power_b 31 w (by decide)).mono fun e w' ⟨a, b⟩ => ⟨by rw [a, show ((2 ^ 31 : Nat) : Int) = 2147483648 by decide], b.below⟩
theorem refPow63 (w : World) : Calls Tryz.prog 32 #[.int .i64 63] w (Rt w (.int .u64 9223372036854775808)) :=
 (power_b 63 w (by decide)).mono fun e w' ⟨a, b⟩ => ⟨by rw [a, show ((2 ^ 63 : Nat) : Int) = 9223372036854775808 by decide], b.below⟩
theorem refInf32 (w : World) : Calls Tryz.prog 63 #[kindV 24 (-126) 127 31] w (Rt w (.int .u64 2139095040)) :=
 stencilref03_infinite.calls 100 24 (-126) 127 31 2139095040 w (by decide +kernel)
theorem refInf64 (w : World) : Calls Tryz.prog 63 #[kindV 53 (-1022) 1023 63] w (Rt w (.int .u64 9218868437227405312)) :=
 stencilref03_infinite.calls 100 53 (-1022) 1023 63 9218868437227405312 w (by decide +kernel)
end Go.Proofs.YtepfodmbjojdbaaGreatDoor.Num
