/- NumberPrints: float conversions, and strconv's ftoa for float32. No conditions beyond each theorem's own. -/
import Derived.Laws.FloatArith
import Derived.Test.YtepfodmbjojdbaaGreatDoorQ15
import Derived.Test.YtepfodmbjojdbaaGreatDoorQ13
import Derived.Test.YtepfodmbjojdbaaGreatDoorQ01
import Derived.Laws.Externs
import Derived.Test.YtepfodmbjojdbaaGreatDoorQ12
import Derived.Test.YtepfodmbjojdbaaGreatDoorQ08
import Derived.WalkSmall
import Derived.Test.YtepfodmbjojdbaaGreatDoorQ14
import Derived.Deep.RegionWith
import Derived.Deep.RegionHeld3
set_option linter.all false
namespace Ieee
theorem log2_of (n k : Nat) (h1 : 2 ^ k ≤ n) (h2 : n < 2 ^ (k + 1)) : n.log2 = k := by
 have h0 : n ≠ 0 := by have := Nat.two_pow_pos k; omega
 have a := (Nat.le_log2 h0).2 h1
 have b := (Nat.log2_lt h0).2 h2
 omega
theorem cut_exact (neg : Bool) (m k : Nat) (h : k ≤ (m * 2 ^ k).log2 + 2) : Toward.even.cut neg (m * 2 ^ k) k = m := by
 unfold Toward.cut
 rw [Nat.min_eq_left h, Nat.one_shiftLeft]
 have hp := Nat.two_pow_pos k
 simp [hp]
theorem single_read (r : Nat) (h1 : 1 ≤ r) (h : r < 2139095040) :
  ∃ mag k place, single.read r = .number false mag place ∧ mag.log2 + k = 52 ∧ 1 ≤ mag ∧ -149 ≤ place ∧ place ≤ 104 ∧ mag < 2 ^ 24 ∧ (mag < 2 ^ 23 → place = -149) ∧ ((place + 149).toNat * 8388608 + mag = r) ∧ 2 ^ 52 ≤ mag * 2 ^ k ∧ mag * 2 ^ k < 2 ^ 53 := by
 have key : ∃ mag place, single.read r = .number false mag place ∧ 1 ≤ mag ∧ -149 ≤ place ∧ place ≤ 104 ∧ mag < 2 ^ 24 ∧ (mag < 2 ^ 23 → place = -149) ∧ ((place + 149).toNat * 8388608 + mag = r) := by
  have e1 : single.signWeight = 2147483648 := by decide
  have e2 : single.binade = 8388608 := by decide
  have e3 : single.infRung = 2139095040 := by decide
  have e4 : single.leastPlace = -149 := by decide
  unfold Format.read
  rw [e1, e2, e3, e4]
  have d1 : r / 2147483648 = 0 := by omega
  have d2 : r % 2147483648 = r := by omega
  simp only [d1, d2]
  by_cases c : r < 8388608
  ·rw [if_pos c]
   exact ⟨r, -149, rfl, h1, by omega, by omega, by omega, fun _ => rfl, by omega⟩
  ·rw [if_neg c, if_pos h]
   exact ⟨_, _, rfl, by omega, by omega, by omega, by omega, fun g => by omega, by omega⟩
 obtain ⟨mag, place, k1, k2, k3, k4, k5, k6, k7⟩ := key
 have hl : mag.log2 < 24 := (Nat.log2_lt (by omega)).2 k5
 have s1 := Nat.log2_self_le (n := mag) (by omega)
 have s2 := Nat.lt_log2_self (n := mag)
 refine ⟨mag, 52 - mag.log2, place, k1, by omega, k2, k3, k4, k5, k6, k7, ?_, ?_⟩
 ·calc 2 ^ 52 = 2 ^ mag.log2 * 2 ^ (52 - mag.log2) := by rw [← Nat.pow_add]; congr 1; omega
   _ ≤ mag * 2 ^ (52 - mag.log2) := Nat.mul_le_mul_right _ s1
 ·calc mag * 2 ^ (52 - mag.log2) < 2 ^ (mag.log2 + 1) * 2 ^ (52 - mag.log2) := Nat.mul_lt_mul_of_pos_right s2 (Nat.two_pow_pos _)
   _ = 2 ^ 53 := by rw [← Nat.pow_add]; congr 1; omega
theorem up_down (r : Nat) (h1 : 1 ≤ r) (h : r < 2139095040) :
  ∃ b, b < 9218868437227405312 ∧ (∃ m p, single.read r = .number false m p ∧ double.nearest false m p = b) ∧ (∃ m p, double.read b = .number false m p ∧ single.nearest false m p = r) := by
 obtain ⟨mag, k, place, k1, k2, k3, k4, k5, k6, k7, k8, k9, k10⟩ := single_read r h1 h
 have e1 : double.signWeight = 9223372036854775808 := by decide
 have e2 : double.binade = 4503599627370496 := by decide
 have e3 : double.infRung = 9218868437227405312 := by decide
 have e4 : double.leastPlace = -1074 := by decide
 have g1 : single.binade = 8388608 := by decide
 have g2 : single.infRung = 2139095040 := by decide
 have g3 : single.leastPlace = -149 := by decide
 have hl : mag.log2 < 24 := (Nat.log2_lt (by omega)).2 k6
 obtain ⟨K, hK⟩ : ∃ K, K = mag * 2 ^ k := ⟨_, rfl⟩
 have p52 : 2 ^ 52 = 4503599627370496 := by decide
 have p53 : 2 ^ 53 = 9007199254740992 := by decide
 have up : double.nearest false mag place = (place - k + 1074).toNat * 4503599627370496 + K := by
  unfold Format.nearest
  rw [if_neg (by omega)]
  simp only [e2, e3, e4]
  have hf : double.fractionBits = 52 := rfl
  rw [hf]
  have hlast : max (place + (mag.log2 : Int) - ((52 : Nat) : Int)) (-1074) = place - k := by omega
  rw [hlast, show (place - (place - (k : Int))).toNat = k by omega, show (place - (k : Int) - place).toNat = 0 by omega, Nat.shiftLeft_eq]
  have := cut_exact false (mag * 2 ^ k) 0 (by omega)
  rw [Nat.pow_zero, Nat.mul_one] at this
  rw [this, ← hK, show place - (k : Int) - -1074 = place - k + 1074 by omega]
  rw [p52, p53] at *
  have : (place - (k : Int) + 1074).toNat * 4503599627370496 + K ≤ 9218868437227405312 := by omega
  rw [Nat.min_eq_left this]
  rfl
 refine ⟨_, ?_, ⟨mag, place, k1, up⟩, ⟨K, place - k, ?_, ?_⟩⟩
 ·rw [p52, p53] at *; omega
 ·unfold Format.read
  rw [p52, p53] at *
  rw [e1, e2, e3, e4]
  have d1 : ((place - (k : Int) + 1074).toNat * 4503599627370496 + K) / 9223372036854775808 = 0 := by omega
  have d2 : ((place - (k : Int) + 1074).toNat * 4503599627370496 + K) % 9223372036854775808 = (place - (k : Int) + 1074).toNat * 4503599627370496 + K := by omega
  simp only [d1, d2]
  rw [if_neg (by omega), if_pos (by omega)]
  congr 1 <;> omega
 ·have hlog : K.log2 = 52 := log2_of K 52 (by rw [hK]; exact k9) (by rw [hK]; exact k10)
  unfold Format.nearest
  rw [if_neg (by rw [p52] at *; omega)]
  simp only [g1, g2, g3]
  have hf : single.fractionBits = 23 := rfl
  rw [hf, hlog]
  have hlast : max (place - (k : Int) + ((52 : Nat) : Int) - ((23 : Nat) : Int)) (-149) = place := by
   by_cases c : mag < 2 ^ 23
   ·have := k7 c
    have : mag.log2 < 23 := (Nat.log2_lt (by omega)).2 c
    omega
   ·have : 23 ≤ mag.log2 := (Nat.le_log2 (by omega)).2 (by omega)
    omega
  rw [hlast, show (place - (k : Int) - place).toNat = 0 by omega, show (place - (place - (k : Int))).toNat = k by omega, Nat.shiftLeft_zero, hK]
  rw [cut_exact false mag k (by rw [← hK, hlog]; omega), show place - -149 = place + 149 by omega, k8]
  rw [Nat.min_eq_left (by omega)]
  rfl
end Ieee
namespace Go
theorem f32_up (r : Nat) (h1 : 1 ≤ r) (h : r < 2139095040) : ∃ b, floatToFloatBits .f32 r .f64 = some b ∧ floatToFloatBits .f64 b .f32 = some r := by
 obtain ⟨b, hb, ⟨m, p, h2, h3⟩, ⟨m', p', h4, h5⟩⟩ := Ieee.up_down r h1 h
 refine ⟨b, ?_, ?_⟩
 ·unfold floatToFloatBits
  rw [if_neg (by decide)]
  have e : FloatKind.decode .f32 r = .number false m p := h2
  have e2 : FloatKind.encode .f64 (.number false m p) = b := h3
  rw [e]
  simp only [e2]
  have e3 : FloatKind.decode .f64 b = .number false m' p' := h4
  rw [e3]; rfl
 ·unfold floatToFloatBits
  rw [if_neg (by decide)]
  have e3 : FloatKind.decode .f64 b = .number false m' p' := h4
  have e2 : FloatKind.encode .f32 (.number false m' p') = r := h5
  rw [e3]
  simp only [e2]
  have e : FloatKind.decode .f32 r = .number false m p := h2
  rw [e]; rfl
end Go
namespace Go.Proofs.YtepfodmbjojdbaaGreatDoor.Num
open Go Go.Lib
theorem dg48 (d j : Nat) : dg d j = 48 ↔ d / 10 ^ j % 10 = 0 := by
 unfold dg
 have h : d / 10 ^ j % 10 < 10 := Nat.mod_lt _ (by decide)
 generalize d / 10 ^ j % 10 = x at *
 constructor
 ·intro e
  have e2 := congrArg UInt8.toNat e
  simp at e2
  omega
 ·rintro rfl; rfl
theorem decS_toList (r : Nat) : (decS r).data.toList = (List.range (ndig r)).map fun t => dg r (ndig r - 1 - t) := by
 unfold decS decN dg
 rw [strOfNums_data, List.map_map]
 apply List.map_congr_left
 intro t _
 simp only [Function.comp]
 congr 1
theorem tens_digit (r k n t : Nat) (ht : t < n) : r * 10 ^ k / 10 ^ (n + k - 1 - t) % 10 = r / 10 ^ (n - 1 - t) % 10 := by
 rw [show n + k - 1 - t = k + (n - 1 - t) by omega, Nat.pow_add, Nat.mul_comm r, Nat.mul_div_mul_left _ _ (Nat.pow_pos (by decide))]
theorem stripS (d r k kz : Nat) (dk : Array UInt8) (hr : r % 10 ≠ 0) (hd : d = r * 10 ^ k) (hdg : ∀ t, t < ndig d → dk[t]! = dg d (ndig d - 1 - t)) (hk1 : 1 ≤ kz) (hk2 : kz ≤ ndig d)
  (hz : ∀ t, kz ≤ t → t < ndig d → dk[t]! = 48) (hne : dk[kz - 1]! ≠ 48) :
  kz = ndig r ∧ (decS r).data.toList = (List.range kz).map fun t => dk[t]! := by
 have hn : ndig d = ndig r + k := by rw [hd]; exact ndig_tens r (by omega) k
 have hp := ndig_pos r
 have hkz : kz = ndig r := by
  rcases Nat.lt_trichotomy kz (ndig r) with h | h | h
  ·exfalso
   have h1 := hz (ndig r - 1) (by omega) (by omega)
   rw [hdg _ (by omega), dg48, hn, hd, tens_digit r k (ndig r) (ndig r - 1) (by omega)] at h1
   rw [show ndig r - 1 - (ndig r - 1) = 0 by omega] at h1
   simp at h1
   omega
  ·exact h
  ·exfalso
   apply hne
   rw [hdg _ (by omega), dg48, hn, hd]
   obtain ⟨j, hj⟩ : ∃ j, k = j + 1 + (ndig r + k - 1 - (kz - 1)) := ⟨kz - 1 - ndig r, by omega⟩
   generalize ndig r + k - 1 - (kz - 1) = x at *
   subst hj
   rw [Nat.pow_add, ← Nat.mul_assoc, Nat.mul_div_cancel _ (Nat.pow_pos (by decide)), Nat.pow_succ, ← Nat.mul_assoc]
   omega
 refine ⟨hkz, ?_⟩
 rw [decS_toList, hkz]
 apply List.map_congr_left
 intro t ht
 have ht := List.mem_range.1 ht
 rw [hdg t (by omega), hn, hd]
 unfold dg
 rw [tens_digit r k (ndig r) t ht]
end Go.Proofs.YtepfodmbjojdbaaGreatDoor.Num
namespace Go.Proofs.YtepfodmbjojdbaaGreatDoor.Num
open Go
theorem f195 (b : Nat) (w : World) : (callFunc 195 #[.float .f32 b]).run Tryz.prog w = .ok (.value (.int .u32 (b : Int))) w := by
 rw [run_callFunc_extern Tryz.func195 (by kernel_rfl) (by kernel_rfl) (by kernel_rfl) (show Extern.find Tryz.f195 = some Extern.MathFloatBits.float32bits by kernel_rfl)]; rfl
theorem f196 (b : Nat) (w : World) : (callFunc 196 #[.float .f64 b]).run Tryz.prog w = .ok (.value (.int .u64 (b : Int))) w := by
 rw [run_callFunc_extern Tryz.func196 (by kernel_rfl) (by kernel_rfl) (by kernel_rfl) (show Extern.find Tryz.f196 = some Extern.MathFloatBits.float64bits by kernel_rfl)]; rfl
theorem f137 (b : Nat) (w : World) : (callFunc 137 #[.int .u32 (b : Int)]).run Tryz.prog w = .ok (.value (.float .f32 b)) w := by
 rw [run_callFunc_extern Tryz.func137 (by kernel_rfl) (by kernel_rfl) (by kernel_rfl) (show Extern.find Tryz.f137 = some Extern.MathFloatBits.float32frombits by kernel_rfl)]; rfl
theorem f138 (b : Nat) (w : World) : (callFunc 138 #[.int .u64 (b : Int)]).run Tryz.prog w = .ok (.value (.float .f64 b)) w := by
 rw [run_callFunc_extern Tryz.func138 (by kernel_rfl) (by kernel_rfl) (by kernel_rfl) (show Extern.find Tryz.f138 = some Extern.MathFloatBits.float64frombits by kernel_rfl)]; rfl
end Go.Proofs.YtepfodmbjojdbaaGreatDoor.Num
namespace Go.Proofs.YtepfodmbjojdbaaGreatDoor.Num
open Go Go.RowKit Go.Lib
theorem g_pow10 : Tryz.prog.globalNamed "internal/strconv.uint64pow10" = some 7 := by kernel_rfl
structure Tabs (w : World) : Prop where
 size : 20 ≤ w.heap.size
 pow : PowTab w
 p10 : Lib.TabIs Tryz.prog w "internal/strconv.uint64pow10" .u64 Lib.pow10Tab
 sizes : SizesAt w
 mx : ∃ m, w.cell? ⟨3, 0, none⟩ = some (.int .i64 m)
theorem Tabs.below {w w' : World} (h : Tabs w) (hb : Below w.heap.size w w') : Tabs w' where
 size := Nat.le_trans h.size hb.size
 pow := h.pow.below hb
 p10 := var?_below hb g_pow10 (by have := h.size; omega) h.p10
 sizes := h.sizes.below hb
 mx := by obtain ⟨m, hm⟩ := h.mx; exact ⟨m, by rw [hb.cell (p := ⟨3, 0, none⟩) (by have := h.size; show 3 < _; omega)]; exact hm⟩
theorem Tabs.drewN {w : World} (h : Tabs w) (n : Nat) : Tabs (w.drewN n) := h.below (below_drewN (Below.refl _ _) n)
end Go.Proofs.YtepfodmbjojdbaaGreatDoor.Num
namespace Go.Proofs.YtepfodmbjojdbaaGreatDoor.Num
open Go Go.RowKit Go.Sort Go.Lib YtepfodmbjojdbaaGreatDoorW.PrintWords YtepfodmbjojdbaaGreatDoorW.PrintMore PNumberPrints
theorem zeros32 (w : World) (T : Nat) : Holds encB (w.alloc (.cells (Array.replicate 32 (.int .u8 0)) T)) w.heap.size 0 (Array.replicate 32 0) := by
 intro j hj
 simp at hj
 refine ⟨?_, by simp⟩
 rw [getElem!_pos _ j (by simpa using hj)]
 simp [hj]
theorem holds_below {w w' : World} {b : Nat} {dk : Array UInt8} (h : Holds encB w b 0 dk) (hb : Below w.heap.size w w') (hbz : b < w.heap.size) : Holds encB w' b 0 dk := by
 intro j hj
 rw [hb.cell (p := ⟨b, _, none⟩) hbz, hb.frozen (p := ⟨b, _, none⟩) hbz]
 exact h j hj
structure RowIs (w : World) (blk : Nat) (c0 : UInt8) (ds : List UInt8) : Prop where
 head : w.cell? ⟨blk, 0, none⟩ = some (encB c0)
 tail : ∀ (j : Nat) (u : Value), (ds.map encB)[j]? = some u → w.cell? ⟨blk, 1 + j, none⟩ = some u
end Go.Proofs.YtepfodmbjojdbaaGreatDoor.Num
namespace Go.Proofs.YtepfodmbjojdbaaGreatDoor.Num
open Go Go.RowKit Go.Sort Go.Lib YtepfodmbjojdbaaGreatDoorW.PrintWords YtepfodmbjojdbaaGreatDoorW.PrintMore PNumberPrints
set_option maxHeartbeats 1600000
set_option maxRecDepth 100000
theorem ftoa32_nor (g W E M0 mm : Nat) (w : World) (hW : W < 2139095040) (hB : BufAt w g 24 []) (hBg : g < w.heap.size) (hT : Tabs w)
  (hsg : ((W : Int) / 2147483648 != 0) = false) (hE : bits BinOp.and IntKind.i64 ((W : Int) / 8388608) 255 = (E : Int)) (hM : bits BinOp.and IntKind.u64 (W : Int) 8388607 = (M0 : Int))
  (hE2 : ((E : Int) == 255) = false) (hE0 : ((E : Int) == 0) = false) (hE3 : (E : Int) ≤ 254) (hor : bits BinOp.or IntKind.u64 (M0 : Int) 8388608 = (mm : Int)) (hmm : ((mm : Int) == 0) = false) (hmm1 : (mm : Int) ≤ 18446744073709551615)
  (B z : Nat) (h191 : ∀ w, Calls Tryz.prog 191 #[.int .u64 (mm : Int)] w fun e w' => e = .returned (.int .i64 (B : Int)) ∧ w = w') (hBz : (64 : Int) - (B : Int) = (z : Int)) (hz63 : (z : Int) ≤ 63)
  (d nd k : Nat) (p1 dp : Int) (c0 : UInt8) (ds : List UInt8)
  (h200 : ∀ w, Tabs w → Calls Tryz.prog 200 #[.int .u64 (IntKind.u64.wrap ((mm : Int) * 2 ^ z)), .int .i64 ((E : Int) + -127 - (z : Int) - 23)] w (Rt w (.tuple #[.int .u64 (d : Int), .int .i64 p1])))
  (h166 : ∀ w, Tabs w → Calls Tryz.prog 166 #[.int .u64 (d : Int)] w fun e w' => e = .returned (.int .i64 (nd : Int)) ∧ w = w')
  (hk : (k : Int) ≤ 16) (L : List UInt8)
  (h199 : ∀ w blk, RowIs w blk c0 ds → BufAt w g 24 [] → g < w.heap.size → blk < w.heap.size → blk ≠ g → Calls Tryz.prog 199 #[.slice (some ⟨g, 0, none⟩) 0 24, .bool false, .slice (some ⟨blk, 0, none⟩) 32 32, .int .i64 dp, .int .i64 ((k : Int) + 1), .int .i64 (k : Int), .int .u8 101, .bool true] w fun e w' => e = .returned (.slice (some ⟨g, 0, none⟩) L.length 24) ∧ BufAt w' g 24 L ∧ Below g w w')
  (h201 : ∀ w blk, Holds encB w blk 0 (Array.replicate 32 0) → Calls Tryz.prog 201 #[.slice (some ⟨blk, 0, none⟩) 32 32, .int .u64 (d : Int), .int .i64 p1, .int .i64 (nd : Int)] w fun e w' => e = .returned (.tuple #[.int .i64 dp, .int .i64 ((k + 1 : Nat) : Int)]) ∧ RowIs w' blk c0 ds ∧ Below blk w w') :
  Calls Tryz.prog 172 #[.slice (some ⟨g, 0, none⟩) 0 24, .float .f32 W, .int .u8 101, .int .i64 (-1)] w fun e w' => e = .returned (.slice (some ⟨g, 0, none⟩) L.length 24) ∧ BufAt w' g 24 L ∧ Below g w w' := by
 have k1 := f195 W
 have H191 := Lib.hid h191
 have H200 := Lib.hid h200
 have H166 := Lib.hid h166
 have H201 := Lib.hid h201
 have H199 := Lib.hid h199
 clear h199 h191 h200 h166 h201
 go_enter Tryz.func172, Tryz.ntmps172
 go_wp2_with fail
 go_quiet (fail)
 go_wp2_with fail
 refine (H191.out _).mono ?_
 rintro e w' ⟨rfl, rfl⟩
 go_wp2_with fail
 refine (H200.out _ ((hT.drewN nq).below ((Below.refl _ _).alloc (Nat.le_refl _) _))).mono ?_
 rintro e w2 ⟨rfl, hb2⟩
 have hH2 := holds_below (zeros32 (w.drewN nq) 218) hb2 (by simp)
 have hT2 := Tabs.below ((hT.drewN nq).below ((Below.refl _ _).alloc (Nat.le_refl _) _)) hb2
 have hsz2 : w.heap.size < w2.heap.size := by have := hb2.size; simp at this; omega
 have hW2 : Below w.heap.size w w2 := ((below_drewN (Below.refl _ w) nq).alloc (Nat.le_refl _) _).trans (hb2.mono (by simp))
 clear hb2
 go_wp2_with fail
 have HH2 := Lib.hid hH2
 clear hH2
 have hT2d : Tabs w2.drew := hT2.drewN 1
 have HH2d : Hid (Holds encB w2.drew w.heap.size 0 (Array.replicate 32 0)) := HH2
 have HT2 := Lib.hid hT2
 have HT2d := Lib.hid hT2d
 clear hT2 hT2d
 go_region_with (first | (go_at_call 166; refine (H166.out _ (by first | exact HT2.out | exact HT2d.out)).mono ?_; rintro e w' ⟨rfl, rfl⟩) | (go_at_call 201; refine (H201.out _ _ (by first | exact HH2.out | exact HH2d.out)).mono ?_; rintro e w3 ⟨rfl, hr3, hb3⟩))
 go_wp2_with fail
 have hb3' : Below w.heap.size w2 w3 := by first | exact hb3 | exact Below.trans (below_drewN (Below.refl _ w2) 1) hb3
 have hz3 := hb3'.size
 have hW3 := hW2.trans hb3'
 refine (H199.out w3 w.heap.size hr3 (hB.below hBg hW3) (by omega) (by omega) (by omega)).mono ?_
 rintro e w4 ⟨rfl, hB4, hb4⟩
 go_wp2_with fail
 go_ret
 exact ⟨rfl, hB4, (hW3.mono (by omega)).trans hb4⟩
end Go.Proofs.YtepfodmbjojdbaaGreatDoor.Num
namespace Go.Proofs.YtepfodmbjojdbaaGreatDoor.Num
open Go Go.RowKit Go.Sort Go.Lib YtepfodmbjojdbaaGreatDoorW.PrintWords YtepfodmbjojdbaaGreatDoorW.PrintMore PNumberPrints
set_option maxHeartbeats 1600000
set_option maxRecDepth 100000
theorem ftoa32_sub (g W M0 : Nat) (w : World) (hW : W < 2139095040) (hB : BufAt w g 24 []) (hBg : g < w.heap.size) (hT : Tabs w)
  (hsg : ((W : Int) / 2147483648 != 0) = false) (hE : bits BinOp.and IntKind.i64 ((W : Int) / 8388608) 255 = 0) (hM : bits BinOp.and IntKind.u64 (W : Int) 8388607 = (M0 : Int))
  (hmm : ((M0 : Int) == 0) = false) (hmm1 : (M0 : Int) ≤ 18446744073709551615)
  (B z : Nat) (h191 : ∀ w, Calls Tryz.prog 191 #[.int .u64 (M0 : Int)] w fun e w' => e = .returned (.int .i64 (B : Int)) ∧ w = w') (hBz : (64 : Int) - (B : Int) = (z : Int)) (hz63 : (z : Int) ≤ 63)
  (d nd k : Nat) (p1 dp : Int) (c0 : UInt8) (ds : List UInt8)
  (h200 : ∀ w, Tabs w → Calls Tryz.prog 200 #[.int .u64 (IntKind.u64.wrap ((M0 : Int) * 2 ^ z)), .int .i64 ((-126 : Int) - (z : Int) - 23)] w (Rt w (.tuple #[.int .u64 (d : Int), .int .i64 p1])))
  (h166 : ∀ w, Tabs w → Calls Tryz.prog 166 #[.int .u64 (d : Int)] w fun e w' => e = .returned (.int .i64 (nd : Int)) ∧ w = w')
  (hk : (k : Int) ≤ 16) (L : List UInt8)
  (h199 : ∀ w blk, RowIs w blk c0 ds → BufAt w g 24 [] → g < w.heap.size → blk < w.heap.size → blk ≠ g → Calls Tryz.prog 199 #[.slice (some ⟨g, 0, none⟩) 0 24, .bool false, .slice (some ⟨blk, 0, none⟩) 32 32, .int .i64 dp, .int .i64 ((k : Int) + 1), .int .i64 (k : Int), .int .u8 101, .bool true] w fun e w' => e = .returned (.slice (some ⟨g, 0, none⟩) L.length 24) ∧ BufAt w' g 24 L ∧ Below g w w')
  (h201 : ∀ w blk, Holds encB w blk 0 (Array.replicate 32 0) → Calls Tryz.prog 201 #[.slice (some ⟨blk, 0, none⟩) 32 32, .int .u64 (d : Int), .int .i64 p1, .int .i64 (nd : Int)] w fun e w' => e = .returned (.tuple #[.int .i64 dp, .int .i64 ((k + 1 : Nat) : Int)]) ∧ RowIs w' blk c0 ds ∧ Below blk w w') :
  Calls Tryz.prog 172 #[.slice (some ⟨g, 0, none⟩) 0 24, .float .f32 W, .int .u8 101, .int .i64 (-1)] w fun e w' => e = .returned (.slice (some ⟨g, 0, none⟩) L.length 24) ∧ BufAt w' g 24 L ∧ Below g w w' := by
 have k1 := f195 W
 have H191 := Lib.hid h191
 have H200 := Lib.hid h200
 have H166 := Lib.hid h166
 have H201 := Lib.hid h201
 have H199 := Lib.hid h199
 clear h199 h191 h200 h166 h201
 go_enter Tryz.func172, Tryz.ntmps172
 go_wp2_with fail
 go_quiet (fail)
 go_wp2_with fail
 refine (H191.out _).mono ?_
 rintro e w' ⟨rfl, rfl⟩
 go_wp2_with fail
 refine (H200.out _ ((hT.drewN nq).below ((Below.refl _ _).alloc (Nat.le_refl _) _))).mono ?_
 rintro e w2 ⟨rfl, hb2⟩
 have hH2 := holds_below (zeros32 (w.drewN nq) 218) hb2 (by simp)
 have hT2 := Tabs.below ((hT.drewN nq).below ((Below.refl _ _).alloc (Nat.le_refl _) _)) hb2
 have hsz2 : w.heap.size < w2.heap.size := by have := hb2.size; simp at this; omega
 have hW2 : Below w.heap.size w w2 := ((below_drewN (Below.refl _ w) nq).alloc (Nat.le_refl _) _).trans (hb2.mono (by simp))
 clear hb2
 go_wp2_with fail
 have HH2 := Lib.hid hH2
 clear hH2
 have hT2d : Tabs w2.drew := hT2.drewN 1
 have HH2d : Hid (Holds encB w2.drew w.heap.size 0 (Array.replicate 32 0)) := HH2
 have HT2 := Lib.hid hT2
 have HT2d := Lib.hid hT2d
 clear hT2 hT2d
 go_region_with (first | (go_at_call 166; refine (H166.out _ (by first | exact HT2.out | exact HT2d.out)).mono ?_; rintro e w' ⟨rfl, rfl⟩) | (go_at_call 201; refine (H201.out _ _ (by first | exact HH2.out | exact HH2d.out)).mono ?_; rintro e w3 ⟨rfl, hr3, hb3⟩))
 go_wp2_with fail
 have hb3' : Below w.heap.size w2 w3 := by first | exact hb3 | exact Below.trans (below_drewN (Below.refl _ w2) 1) hb3
 have hz3 := hb3'.size
 have hW3 := hW2.trans hb3'
 refine (H199.out w3 w.heap.size hr3 (hB.below hBg hW3) (by omega) (by omega) (by omega)).mono ?_
 rintro e w4 ⟨rfl, hB4, hb4⟩
 go_wp2_with fail
 go_ret
 exact ⟨rfl, hB4, (hW3.mono (by omega)).trans hb4⟩
end Go.Proofs.YtepfodmbjojdbaaGreatDoor.Num
