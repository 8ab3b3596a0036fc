/- NumberPrints: strconv's ftoa for float64, and bit lemmas. No conditions beyond each theorem's own. -/
import Derived.Test.YtepfodmbjojdbaaGreatDoorQ16
set_option linter.all false
namespace Go.Proofs.YtepfodmbjojdbaaGreatDoor.Num
open Go Go.RowKit Go.Sort Go.Lib
section
open YtepfodmbjojdbaaGreatDoorW.PrintWords YtepfodmbjojdbaaGreatDoorW.PrintMore PNumberPrints
set_option maxHeartbeats 1600000
set_option maxRecDepth 100000
theorem ftoa64_nor (g W E M0 mm : Nat) (w : World) (hW : W < 9218868437227405312) (hB : BufAt w g 24 []) (hBg : g < w.heap.size) (hT : Tabs w)
  (hsg : ((W : Int) / 9223372036854775808 != 0) = false) (hE : bits BinOp.and IntKind.i64 ((W : Int) / 4503599627370496) 2047 = (E : Int)) (hM : bits BinOp.and IntKind.u64 (W : Int) 4503599627370495 = (M0 : Int))
  (hE2 : ((E : Int) == 2047) = false) (hE0 : ((E : Int) == 0) = false) (hE3 : (E : Int) ≤ 2046) (hor : bits BinOp.or IntKind.u64 (M0 : Int) 4503599627370496 = (mm : Int)) (hmm : ((mm : Int) == 0) = false) (hmm1 : (mm : Int) ≤ 18446744073709551615)
  (B z : Nat) (h191 : ∀ w, Calls Tryz.prog 191 #[.int .u64 (mm : Int)] w fun e w' => e = .returned (.int .i64 (B : Int)) ∧ w = w') (hBz : (64 : Int) - (B : Int) = (z : Int)) (hz63 : (z : Int) ≤ 63)
  (d nd k : Nat) (p1 dp : Int) (c0 : UInt8) (ds : List UInt8)
  (h200 : ∀ w, Tabs w → Calls Tryz.prog 206 #[.int .u64 (IntKind.u64.wrap ((mm : Int) * 2 ^ z)), .int .i64 ((E : Int) + -1023 - (z : Int) - 52)] w (Rt w (.tuple #[.int .u64 (d : Int), .int .i64 p1])))
  (h166 : ∀ w, Tabs w → Calls Tryz.prog 166 #[.int .u64 (d : Int)] w fun e w' => e = .returned (.int .i64 (nd : Int)) ∧ w = w')
  (hk : (k : Int) ≤ 16) (L : List UInt8)
  (h199 : ∀ w blk, RowIs w blk c0 ds → BufAt w g 24 [] → g < w.heap.size → blk < w.heap.size → blk ≠ g → Calls Tryz.prog 199 #[.slice (some ⟨g, 0, none⟩) 0 24, .bool false, .slice (some ⟨blk, 0, none⟩) 32 32, .int .i64 dp, .int .i64 ((k : Int) + 1), .int .i64 (k : Int), .int .u8 101, .bool true] w fun e w' => e = .returned (.slice (some ⟨g, 0, none⟩) L.length 24) ∧ BufAt w' g 24 L ∧ Below g w w')
  (h201 : ∀ w blk, Holds encB w blk 0 (Array.replicate 32 0) → Calls Tryz.prog 201 #[.slice (some ⟨blk, 0, none⟩) 32 32, .int .u64 (d : Int), .int .i64 p1, .int .i64 (nd : Int)] w fun e w' => e = .returned (.tuple #[.int .i64 dp, .int .i64 ((k + 1 : Nat) : Int)]) ∧ RowIs w' blk c0 ds ∧ Below blk w w') :
  Calls Tryz.prog 173 #[.slice (some ⟨g, 0, none⟩) 0 24, .float .f64 W, .int .u8 101, .int .i64 (-1)] w fun e w' => e = .returned (.slice (some ⟨g, 0, none⟩) L.length 24) ∧ BufAt w' g 24 L ∧ Below g w w' := by
 have k1 := f196 W
 have H191 := Lib.hid h191
 have H200 := Lib.hid h200
 have H166 := Lib.hid h166
 have H201 := Lib.hid h201
 have H199 := Lib.hid h199
 clear h199 h191 h200 h166 h201
 go_enter Tryz.func173, Tryz.ntmps173
 go_wp2_with fail
 go_quiet (fail)
 go_wp2_with fail
 refine (H191.out _).mono ?_
 rintro e w' ⟨rfl, rfl⟩
 go_wp2_with fail
 refine (H200.out _ ((hT.drewN nq).below ((Below.refl _ _).alloc (Nat.le_refl _) _))).mono ?_
 rintro e w2 ⟨rfl, hb2⟩
 have hH2 := holds_below (zeros32 (w.drewN nq) 218) hb2 (by simp)
 have hT2 := Tabs.below ((hT.drewN nq).below ((Below.refl _ _).alloc (Nat.le_refl _) _)) hb2
 have hsz2 : w.heap.size < w2.heap.size := by have := hb2.size; simp at this; omega
 have hW2 : Below w.heap.size w w2 := ((below_drewN (Below.refl _ w) nq).alloc (Nat.le_refl _) _).trans (hb2.mono (by simp))
 clear hb2
 go_wp2_with fail
 have HH2 := Lib.hid hH2
 clear hH2
 have hT2d : Tabs w2.drew := hT2.drewN 1
 have HH2d : Hid (Holds encB w2.drew w.heap.size 0 (Array.replicate 32 0)) := HH2
 have HT2 := Lib.hid hT2
 have HT2d := Lib.hid hT2d
 clear hT2 hT2d
 go_region_with (first | (go_at_call 166; refine (H166.out _ (by first | exact HT2.out | exact HT2d.out)).mono ?_; rintro e w' ⟨rfl, rfl⟩) | (go_at_call 201; refine (H201.out _ _ (by first | exact HH2.out | exact HH2d.out)).mono ?_; rintro e w3 ⟨rfl, hr3, hb3⟩))
 go_wp2_with fail
 have hb3' : Below w.heap.size w2 w3 := by first | exact hb3 | exact Below.trans (below_drewN (Below.refl _ w2) 1) hb3
 have hz3 := hb3'.size
 have hW3 := hW2.trans hb3'
 refine (H199.out w3 w.heap.size hr3 (hB.below hBg hW3) (by omega) (by omega) (by omega)).mono ?_
 rintro e w4 ⟨rfl, hB4, hb4⟩
 go_wp2_with fail
 go_ret
 exact ⟨rfl, hB4, (hW3.mono (by omega)).trans hb4⟩
end
section
open YtepfodmbjojdbaaGreatDoorW.PrintWords YtepfodmbjojdbaaGreatDoorW.PrintMore PNumberPrints
set_option maxHeartbeats 1600000
set_option maxRecDepth 100000
theorem ftoa64_sub (g W M0 : Nat) (w : World) (hW : W < 9218868437227405312) (hB : BufAt w g 24 []) (hBg : g < w.heap.size) (hT : Tabs w)
  (hsg : ((W : Int) / 9223372036854775808 != 0) = false) (hE : bits BinOp.and IntKind.i64 ((W : Int) / 4503599627370496) 2047 = 0) (hM : bits BinOp.and IntKind.u64 (W : Int) 4503599627370495 = (M0 : Int))
  (hmm : ((M0 : Int) == 0) = false) (hmm1 : (M0 : Int) ≤ 18446744073709551615)
  (B z : Nat) (h191 : ∀ w, Calls Tryz.prog 191 #[.int .u64 (M0 : Int)] w fun e w' => e = .returned (.int .i64 (B : Int)) ∧ w = w') (hBz : (64 : Int) - (B : Int) = (z : Int)) (hz63 : (z : Int) ≤ 63)
  (d nd k : Nat) (p1 dp : Int) (c0 : UInt8) (ds : List UInt8)
  (h200 : ∀ w, Tabs w → Calls Tryz.prog 206 #[.int .u64 (IntKind.u64.wrap ((M0 : Int) * 2 ^ z)), .int .i64 ((-1022 : Int) - (z : Int) - 52)] w (Rt w (.tuple #[.int .u64 (d : Int), .int .i64 p1])))
  (h166 : ∀ w, Tabs w → Calls Tryz.prog 166 #[.int .u64 (d : Int)] w fun e w' => e = .returned (.int .i64 (nd : Int)) ∧ w = w')
  (hk : (k : Int) ≤ 16) (L : List UInt8)
  (h199 : ∀ w blk, RowIs w blk c0 ds → BufAt w g 24 [] → g < w.heap.size → blk < w.heap.size → blk ≠ g → Calls Tryz.prog 199 #[.slice (some ⟨g, 0, none⟩) 0 24, .bool false, .slice (some ⟨blk, 0, none⟩) 32 32, .int .i64 dp, .int .i64 ((k : Int) + 1), .int .i64 (k : Int), .int .u8 101, .bool true] w fun e w' => e = .returned (.slice (some ⟨g, 0, none⟩) L.length 24) ∧ BufAt w' g 24 L ∧ Below g w w')
  (h201 : ∀ w blk, Holds encB w blk 0 (Array.replicate 32 0) → Calls Tryz.prog 201 #[.slice (some ⟨blk, 0, none⟩) 32 32, .int .u64 (d : Int), .int .i64 p1, .int .i64 (nd : Int)] w fun e w' => e = .returned (.tuple #[.int .i64 dp, .int .i64 ((k + 1 : Nat) : Int)]) ∧ RowIs w' blk c0 ds ∧ Below blk w w') :
  Calls Tryz.prog 173 #[.slice (some ⟨g, 0, none⟩) 0 24, .float .f64 W, .int .u8 101, .int .i64 (-1)] w fun e w' => e = .returned (.slice (some ⟨g, 0, none⟩) L.length 24) ∧ BufAt w' g 24 L ∧ Below g w w' := by
 have k1 := f196 W
 have H191 := Lib.hid h191
 have H200 := Lib.hid h200
 have H166 := Lib.hid h166
 have H201 := Lib.hid h201
 have H199 := Lib.hid h199
 clear h199 h191 h200 h166 h201
 go_enter Tryz.func173, Tryz.ntmps173
 go_wp2_with fail
 go_quiet (fail)
 go_wp2_with fail
 refine (H191.out _).mono ?_
 rintro e w' ⟨rfl, rfl⟩
 go_wp2_with fail
 refine (H200.out _ ((hT.drewN nq).below ((Below.refl _ _).alloc (Nat.le_refl _) _))).mono ?_
 rintro e w2 ⟨rfl, hb2⟩
 have hH2 := holds_below (zeros32 (w.drewN nq) 218) hb2 (by simp)
 have hT2 := Tabs.below ((hT.drewN nq).below ((Below.refl _ _).alloc (Nat.le_refl _) _)) hb2
 have hsz2 : w.heap.size < w2.heap.size := by have := hb2.size; simp at this; omega
 have hW2 : Below w.heap.size w w2 := ((below_drewN (Below.refl _ w) nq).alloc (Nat.le_refl _) _).trans (hb2.mono (by simp))
 clear hb2
 go_wp2_with fail
 have HH2 := Lib.hid hH2
 clear hH2
 have hT2d : Tabs w2.drew := hT2.drewN 1
 have HH2d : Hid (Holds encB w2.drew w.heap.size 0 (Array.replicate 32 0)) := HH2
 have HT2 := Lib.hid hT2
 have HT2d := Lib.hid hT2d
 clear hT2 hT2d
 go_region_with (first | (go_at_call 166; refine (H166.out _ (by first | exact HT2.out | exact HT2d.out)).mono ?_; rintro e w' ⟨rfl, rfl⟩) | (go_at_call 201; refine (H201.out _ _ (by first | exact HH2.out | exact HH2d.out)).mono ?_; rintro e w3 ⟨rfl, hr3, hb3⟩))
 go_wp2_with fail
 have hb3' : Below w.heap.size w2 w3 := by first | exact hb3 | exact Below.trans (below_drewN (Below.refl _ w2) 1) hb3
 have hz3 := hb3'.size
 have hW3 := hW2.trans hb3'
 refine (H199.out w3 w.heap.size hr3 (hB.below hBg hW3) (by omega) (by omega) (by omega)).mono ?_
 rintro e w4 ⟨rfl, hB4, hb4⟩
 go_wp2_with fail
 go_ret
 exact ⟨rfl, hB4, (hW3.mono (by omega)).trans hb4⟩
end
theorem bitLen_eq (x : Nat) (h0 : x ≠ 0) (h : x < 2 ^ 64) : Lib.bitLen x = x.log2 + 1 := by
 have h1 := Nat.log2_self_le h0
 have h2 := Nat.lt_log2_self (n := x)
 rw [Lib.bitLen_shift x.log2 x h1 h]
 have : x / 2 ^ x.log2 = 1 := by
  refine (Nat.div_eq_iff (Nat.two_pow_pos _)).2 ?_
  rw [Nat.pow_succ] at h2
  omega
 rw [this]; rfl
theorem and_i64 (n K j : Nat) (hK : K = 2 ^ j - 1) (hj : j ≤ 62) (hn : n < 9223372036854775808) : bits BinOp.and IntKind.i64 (n : Int) (K : Int) = ((n % 2 ^ j : Nat) : Int) := by
 have hp : 2 ^ j ≤ 2 ^ 62 := Nat.pow_le_pow_right (by decide) hj
 have e62 : 2 ^ 62 = 4611686018427387904 := by decide
 rw [e62] at hp
 have key : (BitVec.ofInt 64 (n : Int) &&& BitVec.ofInt 64 (K : Int)).toNat = n % 2 ^ j := by
  rw [BitVec.toNat_and, BitVec.toNat_ofInt, BitVec.toNat_ofInt, ← Nat.and_two_pow_sub_one_eq_mod, ← hK]
  congr 1 <;> simp <;> omega
 show IntKind.i64.wrap ((BitVec.ofInt 64 (n : Int) &&& BitVec.ofInt 64 (K : Int)).toNat : Nat) = _
 rw [key, IntKind.wrap_i64]
 have := Nat.mod_le n (2 ^ j)
 generalize n % 2 ^ j = r at *
 clear hp hK e62 key
 omega
theorem and_u64 (n K j : Nat) (hK : K = 2 ^ j - 1) (hj : j ≤ 62) (hn : n < 18446744073709551616) : bits BinOp.and IntKind.u64 (n : Int) (K : Int) = ((n % 2 ^ j : Nat) : Int) := by
 have hp : 2 ^ j ≤ 2 ^ 62 := Nat.pow_le_pow_right (by decide) hj
 have e62 : 2 ^ 62 = 4611686018427387904 := by decide
 rw [e62] at hp
 have key : (BitVec.ofInt 64 (n : Int) &&& BitVec.ofInt 64 (K : Int)).toNat = n % 2 ^ j := by
  rw [BitVec.toNat_and, BitVec.toNat_ofInt, BitVec.toNat_ofInt, ← Nat.and_two_pow_sub_one_eq_mod, ← hK]
  congr 1 <;> simp <;> omega
 show IntKind.u64.wrap ((BitVec.ofInt 64 (n : Int) &&& BitVec.ofInt 64 (K : Int)).toNat : Nat) = _
 rw [key, wu64_eq]
 have := Nat.mod_le n (2 ^ j)
 generalize n % 2 ^ j = r at *
 clear hp hK e62 key
 omega
theorem or_u64_add (n K j : Nat) (hK : K = 2 ^ j) (hj : j ≤ 62) (hn : n < 2 ^ j) : bits BinOp.or IntKind.u64 (n : Int) (K : Int) = ((n + K : Nat) : Int) := by
 have hp : 2 ^ j ≤ 2 ^ 62 := Nat.pow_le_pow_right (by decide) hj
 have e62 : 2 ^ 62 = 4611686018427387904 := by decide
 rw [e62] at hp
 rw [bits_or_u64_nat n K (by omega) (by omega)]
 have : n ||| K = n + K := by
  have := Nat.two_pow_add_eq_or_of_lt hn 1
  rw [Nat.mul_one, ← hK] at this
  rw [Nat.or_comm, ← this, Nat.add_comm]
 rw [this]
theorem nDigits_eq (u : Nat) : nDigits u = ndig u := by
 induction u using ndig.induct with
 | case1 x h => rw [nDigits_small h, ndig, dif_pos h]
 | case2 x h ih => rw [nDigits_big h, ih]; conv => rhs; rw [ndig, dif_neg h]
end Go.Proofs.YtepfodmbjojdbaaGreatDoor.Num
