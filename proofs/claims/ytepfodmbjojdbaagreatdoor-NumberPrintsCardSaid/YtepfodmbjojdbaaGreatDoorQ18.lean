/- NumberPrints: the contracts of ftoa and FormatFloat. No conditions beyond each theorem's own. -/
import Derived.Test.YtepfodmbjojdbaaGreatDoorQ16
import Derived.Test.YtepfodmbjojdbaaGreatDoorQ17
set_option linter.all false
namespace Go.Proofs.YtepfodmbjojdbaaGreatDoor.Num
open Go Go.RowKit Go.Sort Go.Lib YtepfodmbjojdbaaGreatDoorW.PrintWords YtepfodmbjojdbaaGreatDoorW.PrintMore PNumberPrints
section
open _root_.Nm
set_option maxHeartbeats 1000000
def expX (x : Int) : List UInt8 := if 0 ≤ x then expE 43 x.toNat else expE 45 (-x).toNat
def fText (r : Nat) (x : Int) : List UInt8 := mantE ((decS r).data.toList.headD 0) (decS r).data.toList.tail ++ expX x
theorem row199 (g : Nat) (dp : Int) (hx : -400 ≤ dp - 1 ∧ dp - 1 ≤ 400) (c0 : UInt8) (ds : List UInt8) (k : Nat) (hk : ds.length = k ∧ k ≤ 16) (w : World) (blk : Nat) (hr : RowIs w blk c0 ds) (hB : BufAt w g 24 [])
  (hg : g < w.heap.size) (hb : blk < w.heap.size) (hne : blk ≠ g) :
  Calls Tryz.prog 199 #[.slice (some ⟨g, 0, none⟩) 0 24, .bool false, .slice (some ⟨blk, 0, none⟩) 32 32, .int .i64 dp, .int .i64 ((k : Int) + 1), .int .i64 (k : Int), .int .u8 101, .bool true] w fun e w' =>
   e = .returned (.slice (some ⟨g, 0, none⟩) (mantE c0 ds ++ expX (dp - 1)).length 24) ∧ BufAt w' g 24 (mantE c0 ds ++ expX (dp - 1)) ∧ Below g w w' := by
 have e : ((k + 1 : Nat) : Int) = (k : Int) + 1 := by omega
 unfold expX
 by_cases h : 0 ≤ dp - 1
 ·have := fmtE_pos g blk k (dp - 1).toNat w c0 ds hB hg hb hne hk (by omega) hr.tail hr.head
  rw [show (((dp - 1).toNat : Nat) : Int) + 1 = dp by omega, e] at this
  rw [if_pos h]
  exact this
 ·have := fmtE_neg g blk k (-(dp - 1)).toNat w c0 ds hB hg hb hne hk (by omega) (by omega) hr.tail hr.head
  rw [show -(((-(dp - 1)).toNat : Nat) : Int) + 1 = dp by omega, e] at this
  rw [if_neg h]
  exact this
theorem row201 (d r k : Nat) (p1 dp : Int) (c0 : UInt8) (ds : List UInt8) (hr : r % 10 ≠ 0) (hd : d = r * 10 ^ k) (hd17 : d ≤ 10 ^ 17) (hp : -10000 ≤ p1 ∧ p1 ≤ 10000) (hdp : (ndig d : Int) + p1 = dp)
  (hL : (decS r).data.toList = c0 :: ds) (w : World) (blk : Nat) (hz : Holds encB w blk 0 (Array.replicate 32 0)) :
  Calls Tryz.prog 201 #[.slice (some ⟨blk, 0, none⟩) 32 32, .int .u64 (d : Int), .int .i64 p1, .int .i64 (ndig d : Int)] w fun e w' =>
   e = .returned (.tuple #[.int .i64 dp, .int .i64 ((ds.length + 1 : Nat) : Int)]) ∧ RowIs w' blk c0 ds ∧ Below blk w w' := by
 have hd1 : 1 ≤ d := by rw [hd]; exact Nat.mul_pos (by omega) (Nat.pow_pos (by decide))
 have e17 : 10 ^ 17 = 100000000000000000 := by decide
 rw [e17] at hd17
 refine (setDigits_any blk d p1 w _ hz (by simp) hd1 (by omega) hp).mono ?_
 rintro e w' ⟨kz, dk, k1, k2, k3, k4, k5, k6, rfl, hH, hb⟩
 obtain ⟨s1, s2⟩ := stripS d r k kz dk hr hd k4 k1 k2 k5 k6
 rw [hL] at s2
 have hlen : ds.length + 1 = kz := by have := congrArg List.length s2; simpa using this
 have hat : ∀ j, j < kz → (c0 :: ds)[j]? = some dk[j]! := by
  intro j hj
  rw [s2]
  simp [hj]
 refine ⟨by rw [hdp, hlen], ⟨?_, ?_⟩, hb⟩
 ·have h0 := hat 0 (by omega)
  simp only [List.getElem?_cons_zero, Option.some.injEq] at h0
  rw [h0]
  have := (hH 0 (by omega)).1
  rwa [Nat.zero_add] at this
 ·intro j u hj
  have hjl : j < ds.length := by
   have := (List.getElem?_eq_some_iff.1 hj).1
   simpa using this
  have h0 := hat (1 + j) (by omega)
  rw [Nat.add_comm 1 j, List.getElem?_cons_succ] at h0
  rw [List.getElem?_map, h0] at hj
  simp only [Option.map_some, Option.some.injEq] at hj
  rw [← hj]
  have := (hH (1 + j) (by omega)).1
  rw [Nat.zero_add] at this
  rw [Nat.add_comm j 1]
  exact this
theorem row166 (d : Nat) (h1 : 1 ≤ d) (h2 : d < 18446744073709551616) (w : World) (hT : Tabs w) : Calls Tryz.prog 166 #[.int .u64 (d : Int)] w fun e w' => e = .returned (.int .i64 (ndig d : Int)) ∧ w = w' :=
 (Tryz.internal_strconv_numDigits d h1 h2 w hT.p10).mono fun e w' ⟨he, hw⟩ => ⟨by rw [he, nDigits_eq], hw.symm⟩
theorem row191 (x : Nat) (h0 : x ≠ 0) (h : x < 18446744073709551616) (w : World) : Calls Tryz.prog 191 #[.int .u64 (x : Int)] w fun e w' => e = .returned (.int .i64 ((x.log2 + 1 : Nat) : Int)) ∧ w = w' :=
 (Tryz.bits_Len64 (x : Int) w (by omega) (by omega)).mono fun e w' ⟨he, hw⟩ => ⟨by rw [he, Int.toNat_natCast, bitLen_eq x h0 h], hw.symm⟩
theorem geomZ (mm z : Nat) (h0 : mm ≠ 0) (hz : z = 63 - mm.log2) (hl : mm.log2 ≤ 62) : 2 ^ 63 ≤ mm * 2 ^ z ∧ mm * 2 ^ z + 2 ^ z ≤ 2 ^ 64 := by
 have s1 := Nat.log2_self_le h0
 have s2 := Nat.lt_log2_self (n := mm)
 constructor
 ·calc 2 ^ 63 = 2 ^ mm.log2 * 2 ^ z := by rw [← Nat.pow_add]; congr 1; omega
   _ ≤ mm * 2 ^ z := Nat.mul_le_mul_right _ s1
 ·calc mm * 2 ^ z + 2 ^ z = (mm + 1) * 2 ^ z := by rw [Nat.add_mul, Nat.one_mul]
   _ ≤ 2 ^ (mm.log2 + 1) * 2 ^ z := Nat.mul_le_mul_right _ s2
   _ = 2 ^ 64 := by rw [← Nat.pow_add]; congr 1; omega
theorem ftoa32_any (g W r k mm : Nat) (q dp : Int) (w : World) (hW1 : 1 ≤ W) (hW : W < 2139095040) (hB : BufAt w g 24 []) (hBg : g < w.heap.size) (hT : Tabs w)
  (hmm : mm = mOf W (2 ^ 23)) (hq : q = qOf 24 (-126) W (2 ^ 23)) (hr : r % 10 ≠ 0) (hr17 : r < 10 ^ 17) (hd17 : r * 10 ^ k ≤ 10 ^ 17)
  (hd : (goPick (mm = 2 ^ 23 ∧ (-149) < q) mm q (scP (mm = 2 ^ 23 ∧ (-149) < q) q)).1 = r * 10 ^ k) (hdp : (ndig (r * 10 ^ k) : Int) - (goPick (mm = 2 ^ 23 ∧ (-149) < q) mm q (scP (mm = 2 ^ 23 ∧ (-149) < q) q)).2 = dp) (hx : -400 ≤ dp - 1 ∧ dp - 1 ≤ 400) :
  Calls Tryz.prog 172 #[.slice (some ⟨g, 0, none⟩) 0 24, .float .f32 W, .int .u8 101, .int .i64 (-1)] w fun e w' =>
   e = .returned (.slice (some ⟨g, 0, none⟩) (fText r (dp - 1)).length 24) ∧ BufAt w' g 24 (fText r (dp - 1)) ∧ Below g w w' := by
 have eP : 2 ^ 23 = 8388608 := by decide
 have hr1 : 1 ≤ r := by omega
 obtain ⟨p', hp'⟩ : ∃ p', p' = (goPick (mm = 2 ^ 23 ∧ (-149) < q) mm q (scP (mm = 2 ^ 23 ∧ (-149) < q) q)).2 := ⟨_, rfl⟩
 rw [← hp'] at hdp
 obtain ⟨d, hdd⟩ : ∃ d, d = r * 10 ^ k := ⟨_, rfl⟩
 have hd1 : 1 ≤ d := by rw [hdd]; exact Nat.mul_pos hr1 (Nat.pow_pos (by decide))
 have e17 : 10 ^ 17 = 100000000000000000 := by decide
 have hd17' : d ≤ 100000000000000000 := by rw [hdd, ← e17]; exact hd17
 have hnd : ndig d ≤ 18 := ndig_le' d 18 (by have : 10 ^ 18 = 1000000000000000000 := by decide
                                             omega) (by decide)
 rw [← hdd] at hdp
 have hlen : (decS r).data.toList.length = ndig r := by rw [decS_toList]; simp
 have hnr : ndig r ≤ 17 := ndig_le' r 17 hr17 (by decide)
 have hnr1 := ndig_pos r
 obtain ⟨c0, ds, hL⟩ : ∃ c0 ds, (decS r).data.toList = c0 :: ds := by
  cases h : (decS r).data.toList with
  | nil => rw [h] at hlen; simp at hlen; omega
  | cons c l => exact ⟨c, l, rfl⟩
 have hdl : ds.length + 1 = ndig r := by rw [hL] at hlen; simpa using hlen
 have hft : fText r (dp - 1) = mantE c0 ds ++ expX (dp - 1) := by unfold fText; rw [hL]; rfl
 rw [hft]
 have h201 := fun w blk hz => row201 d r k (-p') dp c0 ds hr hdd (by rw [e17]; exact hd17') (by omega) (by omega) hL w blk hz
 have h199 := fun w blk hr hB hg hb hne => row199 g dp hx c0 ds ds.length ⟨rfl, by omega⟩ w blk hr hB hg hb hne
 have h166 := fun w hT => row166 d hd1 (by omega) w hT
 have hml := Nat.mod_lt W (show 0 < 8388608 by decide)
 have hE' : W / 8388608 < 255 := by omega
 have hsg : ((W : Int) / 2147483648 != 0) = false := by simp; omega
 have hEe : bits BinOp.and IntKind.i64 ((W : Int) / 8388608) 255 = ((W / 8388608 : Nat) : Int) := by
  have h5 := and_i64 (W / 8388608) 255 8 (by decide) (by decide) (by omega)
  have h6 : W / 8388608 % 2 ^ 8 = W / 8388608 := Nat.mod_eq_of_lt (Nat.lt_of_lt_of_le hE' (by decide))
  rw [h6] at h5
  simpa using h5
 have hMe : bits BinOp.and IntKind.u64 (W : Int) 8388607 = ((W % 8388608 : Nat) : Int) := by
  have := and_u64 W 8388607 23 (by decide) (by decide) (by omega)
  rw [eP] at this
  simpa using this
 have hmm' := hmm
 have hq' := hq
 unfold mOf at hmm'
 unfold qOf at hq'
 rw [eP] at hmm' hq'
 have hdm := Nat.div_add_mod W 8388608
 generalize hE : W / 8388608 = E at *
 generalize hM0 : W % 8388608 = M0 at *
 have hm0 : mm ≠ 0 := by rw [hmm']; split <;> omega
 have hmx : mm < 2 ^ 24 := by
  have : 2 ^ 24 = 16777216 := by decide
  rw [hmm', this]; split <;> omega
 have hlg : mm.log2 < 24 := (Nat.log2_lt hm0).2 hmx
 have hmx64 : mm < 18446744073709551616 := by
  have : 2 ^ 24 = 16777216 := by decide
  omega
 obtain ⟨z, hz⟩ : ∃ z, z = 63 - mm.log2 := ⟨_, rfl⟩
 have h191 := fun w => row191 mm hm0 hmx64 w
 have hBz : (64 : Int) - ((mm.log2 + 1 : Nat) : Int) = (z : Int) := by omega
 have hz63 : (z : Int) ≤ 63 := by omega
 have hmmB : ((mm : Int) == 0) = false := by simp; omega
 have hqb : (-149) ≤ q ∧ q ≤ 104 := by rw [hq']; split <;> omega
 by_cases h0 : E = 0
 ·subst h0
  rw [if_neg (by decide)] at hmm' hq'
  subst hmm'
  have hqe : q = -149 := by rw [hq']; rfl
  have hz0 : 40 ≤ z := by omega
  obtain ⟨z1, z2⟩ := geomZ mm z hm0 hz (by omega)
  have hzw : IntKind.u64.wrap ((mm : Int) * 2 ^ z) = ((mm * 2 ^ z : Nat) : Int) := by
   have e64 : 2 ^ 64 = 18446744073709551616 := by decide
   have hzp := Nat.two_pow_pos z
   rw [show (mm : Int) * 2 ^ z = ((mm * 2 ^ z : Nat) : Int) by simp]
   rw [e64] at z2
   generalize mm * 2 ^ z = X at *
   clear z1 e64
   exact wu64 (by omega)
  have h200 : ∀ w, Tabs w → Calls Tryz.prog 200 #[.int .u64 (IntKind.u64.wrap ((mm : Int) * 2 ^ z)), .int .i64 ((-126 : Int) - (z : Int) - 23)] w (Rt w (.tuple #[.int .u64 (d : Int), .int .i64 (-p')])) := by
   intro w hT
   have := short32 mm z q w (by omega) hmx hqb hz0 (by omega) z1 z2 (.inr hqe) hT.pow
   rw [hd, ← hp', ← hdd] at this
   rw [hzw, show ((-126 : Int) - (z : Int) - 23) = q - z by omega]
   exact this
  exact ftoa32_sub g W mm w hW hB hBg hT hsg hEe hMe hmmB (by omega) _ z h191 hBz hz63 d (ndig d) ds.length (-p') dp c0 ds h200 h166 (by omega) _ h199 h201
 ·rw [if_pos (by omega)] at hmm' hq'
  have hor : bits BinOp.or IntKind.u64 (M0 : Int) 8388608 = (mm : Int) := by
   have := or_u64_add M0 8388608 23 (by decide) (by decide) (by rw [eP]; omega)
   rw [hmm']; simpa using this
  have hlg2 : mm.log2 = 23 := by
   have : 23 ≤ mm.log2 := (Nat.le_log2 hm0).2 (by rw [eP]; omega)
   omega
  have hz0 : 40 ≤ z := by omega
  obtain ⟨z1, z2⟩ := geomZ mm z hm0 hz (by omega)
  have hzw : IntKind.u64.wrap ((mm : Int) * 2 ^ z) = ((mm * 2 ^ z : Nat) : Int) := by
   have e64 : 2 ^ 64 = 18446744073709551616 := by decide
   have hzp := Nat.two_pow_pos z
   rw [show (mm : Int) * 2 ^ z = ((mm * 2 ^ z : Nat) : Int) by simp]
   rw [e64] at z2
   generalize mm * 2 ^ z = X at *
   clear z1 e64
   exact wu64 (by omega)
  have h200 : ∀ w, Tabs w → Calls Tryz.prog 200 #[.int .u64 (IntKind.u64.wrap ((mm : Int) * 2 ^ z)), .int .i64 ((E : Int) + -127 - (z : Int) - 23)] w (Rt w (.tuple #[.int .u64 (d : Int), .int .i64 (-p')])) := by
   intro w hT
   have := short32 mm z q w (by omega) hmx hqb hz0 (by omega) z1 z2 (.inl (by omega)) hT.pow
   rw [hd, ← hp', ← hdd] at this
   rw [hzw, show ((E : Int) + -127 - (z : Int) - 23) = q - z by omega]
   exact this
  exact ftoa32_nor g W E M0 mm w hW hB hBg hT hsg hEe hMe (by simp; omega) (by simp; omega) (by omega) hor hmmB (by omega) _ z h191 hBz hz63 d (ndig d) ds.length (-p') dp c0 ds h200 h166 (by omega) _ h199 h201
theorem ftoa64_any (g W r k mm : Nat) (q dp : Int) (w : World) (hW1 : 1 ≤ W) (hW : W < 9218868437227405312) (hB : BufAt w g 24 []) (hBg : g < w.heap.size) (hT : Tabs w)
  (hmm : mm = mOf W (2 ^ 52)) (hq : q = qOf 53 (-1022) W (2 ^ 52)) (hr : r % 10 ≠ 0) (hr17 : r < 10 ^ 17) (hd17 : r * 10 ^ k ≤ 10 ^ 17)
  (hd : (goPick (mm = 2 ^ 52 ∧ (-1074) < q) mm q (scP (mm = 2 ^ 52 ∧ (-1074) < q) q)).1 = r * 10 ^ k) (hdp : (ndig (r * 10 ^ k) : Int) - (goPick (mm = 2 ^ 52 ∧ (-1074) < q) mm q (scP (mm = 2 ^ 52 ∧ (-1074) < q) q)).2 = dp) (hx : -400 ≤ dp - 1 ∧ dp - 1 ≤ 400) :
  Calls Tryz.prog 173 #[.slice (some ⟨g, 0, none⟩) 0 24, .float .f64 W, .int .u8 101, .int .i64 (-1)] w fun e w' =>
   e = .returned (.slice (some ⟨g, 0, none⟩) (fText r (dp - 1)).length 24) ∧ BufAt w' g 24 (fText r (dp - 1)) ∧ Below g w w' := by
 have eP : 2 ^ 52 = 4503599627370496 := by decide
 have hr1 : 1 ≤ r := by omega
 obtain ⟨p', hp'⟩ : ∃ p', p' = (goPick (mm = 2 ^ 52 ∧ (-1074) < q) mm q (scP (mm = 2 ^ 52 ∧ (-1074) < q) q)).2 := ⟨_, rfl⟩
 rw [← hp'] at hdp
 obtain ⟨d, hdd⟩ : ∃ d, d = r * 10 ^ k := ⟨_, rfl⟩
 have hd1 : 1 ≤ d := by rw [hdd]; exact Nat.mul_pos hr1 (Nat.pow_pos (by decide))
 have e17 : 10 ^ 17 = 100000000000000000 := by decide
 have hd17' : d ≤ 100000000000000000 := by rw [hdd, ← e17]; exact hd17
 have hnd : ndig d ≤ 18 := ndig_le' d 18 (by have : 10 ^ 18 = 1000000000000000000 := by decide
                                             omega) (by decide)
 rw [← hdd] at hdp
 have hlen : (decS r).data.toList.length = ndig r := by rw [decS_toList]; simp
 have hnr : ndig r ≤ 17 := ndig_le' r 17 hr17 (by decide)
 have hnr1 := ndig_pos r
 obtain ⟨c0, ds, hL⟩ : ∃ c0 ds, (decS r).data.toList = c0 :: ds := by
  cases h : (decS r).data.toList with
  | nil => rw [h] at hlen; simp at hlen; omega
  | cons c l => exact ⟨c, l, rfl⟩
 have hdl : ds.length + 1 = ndig r := by rw [hL] at hlen; simpa using hlen
 have hft : fText r (dp - 1) = mantE c0 ds ++ expX (dp - 1) := by unfold fText; rw [hL]; rfl
 rw [hft]
 have h201 := fun w blk hz => row201 d r k (-p') dp c0 ds hr hdd (by rw [e17]; exact hd17') (by omega) (by omega) hL w blk hz
 have h199 := fun w blk hr hB hg hb hne => row199 g dp hx c0 ds ds.length ⟨rfl, by omega⟩ w blk hr hB hg hb hne
 have h166 := fun w hT => row166 d hd1 (by omega) w hT
 have hml := Nat.mod_lt W (show 0 < 4503599627370496 by decide)
 have hE' : W / 4503599627370496 < 2047 := by omega
 have hsg : ((W : Int) / 9223372036854775808 != 0) = false := by simp; omega
 have hEe : bits BinOp.and IntKind.i64 ((W : Int) / 4503599627370496) 2047 = ((W / 4503599627370496 : Nat) : Int) := by
  have h5 := and_i64 (W / 4503599627370496) 2047 11 (by decide) (by decide) (by omega)
  have h6 : W / 4503599627370496 % 2 ^ 11 = W / 4503599627370496 := Nat.mod_eq_of_lt (Nat.lt_of_lt_of_le hE' (by decide))
  rw [h6] at h5
  simpa using h5
 have hMe : bits BinOp.and IntKind.u64 (W : Int) 4503599627370495 = ((W % 4503599627370496 : Nat) : Int) := by
  have := and_u64 W 4503599627370495 52 (by decide) (by decide) (by omega)
  rw [eP] at this
  simpa using this
 have hmm' := hmm
 have hq' := hq
 unfold mOf at hmm'
 unfold qOf at hq'
 rw [eP] at hmm' hq'
 have hdm := Nat.div_add_mod W 4503599627370496
 generalize hE : W / 4503599627370496 = E at *
 generalize hM0 : W % 4503599627370496 = M0 at *
 have hm0 : mm ≠ 0 := by rw [hmm']; split <;> omega
 have hmx : mm < 2 ^ 53 := by
  have : 2 ^ 53 = 9007199254740992 := by decide
  rw [hmm', this]; split <;> omega
 have hlg : mm.log2 < 53 := (Nat.log2_lt hm0).2 hmx
 have hmx64 : mm < 18446744073709551616 := by
  have : 2 ^ 53 = 9007199254740992 := by decide
  omega
 obtain ⟨z, hz⟩ : ∃ z, z = 63 - mm.log2 := ⟨_, rfl⟩
 have h191 := fun w => row191 mm hm0 hmx64 w
 have hBz : (64 : Int) - ((mm.log2 + 1 : Nat) : Int) = (z : Int) := by omega
 have hz63 : (z : Int) ≤ 63 := by omega
 have hmmB : ((mm : Int) == 0) = false := by simp; omega
 have hqb : (-1074) ≤ q ∧ q ≤ 971 := by rw [hq']; split <;> omega
 by_cases h0 : E = 0
 ·subst h0
  rw [if_neg (by decide)] at hmm' hq'
  subst hmm'
  have hqe : q = -1074 := by rw [hq']; rfl
  have hz0 : 11 ≤ z := by omega
  obtain ⟨z1, z2⟩ := geomZ mm z hm0 hz (by omega)
  have hzw : IntKind.u64.wrap ((mm : Int) * 2 ^ z) = ((mm * 2 ^ z : Nat) : Int) := by
   have e64 : 2 ^ 64 = 18446744073709551616 := by decide
   have hzp := Nat.two_pow_pos z
   rw [show (mm : Int) * 2 ^ z = ((mm * 2 ^ z : Nat) : Int) by simp]
   rw [e64] at z2
   generalize mm * 2 ^ z = X at *
   clear z1 e64
   exact wu64 (by omega)
  have h200 : ∀ w, Tabs w → Calls Tryz.prog 206 #[.int .u64 (IntKind.u64.wrap ((mm : Int) * 2 ^ z)), .int .i64 ((-1022 : Int) - (z : Int) - 52)] w (Rt w (.tuple #[.int .u64 (d : Int), .int .i64 (-p')])) := by
   intro w hT
   have := short64 mm z q w (by omega) hmx hqb hz0 (by omega) z1 z2 (.inr hqe) hT.pow
   rw [hd, ← hp', ← hdd] at this
   rw [hzw, show ((-1022 : Int) - (z : Int) - 52) = q - z by omega]
   exact this
  exact ftoa64_sub g W mm w hW hB hBg hT hsg hEe hMe hmmB (by omega) _ z h191 hBz hz63 d (ndig d) ds.length (-p') dp c0 ds h200 h166 (by omega) _ h199 h201
 ·rw [if_pos (by omega)] at hmm' hq'
  have hor : bits BinOp.or IntKind.u64 (M0 : Int) 4503599627370496 = (mm : Int) := by
   have := or_u64_add M0 4503599627370496 52 (by decide) (by decide) (by rw [eP]; omega)
   rw [hmm']; simpa using this
  have hlg2 : mm.log2 = 52 := by
   have : 52 ≤ mm.log2 := (Nat.le_log2 hm0).2 (by rw [eP]; omega)
   omega
  have hz0 : 11 ≤ z := by omega
  obtain ⟨z1, z2⟩ := geomZ mm z hm0 hz (by omega)
  have hzw : IntKind.u64.wrap ((mm : Int) * 2 ^ z) = ((mm * 2 ^ z : Nat) : Int) := by
   have e64 : 2 ^ 64 = 18446744073709551616 := by decide
   have hzp := Nat.two_pow_pos z
   rw [show (mm : Int) * 2 ^ z = ((mm * 2 ^ z : Nat) : Int) by simp]
   rw [e64] at z2
   generalize mm * 2 ^ z = X at *
   clear z1 e64
   exact wu64 (by omega)
  have h200 : ∀ w, Tabs w → Calls Tryz.prog 206 #[.int .u64 (IntKind.u64.wrap ((mm : Int) * 2 ^ z)), .int .i64 ((E : Int) + -1023 - (z : Int) - 52)] w (Rt w (.tuple #[.int .u64 (d : Int), .int .i64 (-p')])) := by
   intro w hT
   have := short64 mm z q w (by omega) hmx hqb hz0 (by omega) z1 z2 (.inl (by omega)) hT.pow
   rw [hd, ← hp', ← hdd] at this
   rw [hzw, show ((E : Int) + -1023 - (z : Int) - 52) = q - z by omega]
   exact this
  exact ftoa64_nor g W E M0 mm w hW hB hBg hT hsg hEe hMe (by simp; omega) (by simp; omega) (by omega) hor hmmB (by omega) _ z h191 hBz hz63 d (ndig d) ds.length (-p') dp c0 ds h200 h166 (by omega) _ h199 h201
end
section
set_option maxHeartbeats 800000
set_option maxRecDepth 100000
theorem str_buf (w : World) (g c : Nat) (l : List UInt8) (h : BufAt w g c l) : (convert 58 9 (.slice (some ⟨g, 0, none⟩) l.length c)).run Tryz.prog w = .ok (.string ⟨l.toArray⟩) w := by
 refine run_convert_bytes_back w 58 9 5 ⟨g, 0, none⟩ c l (by kernel_rfl) (by kernel_rfl) (by kernel_rfl) ?_
 intro j hj
 rw [show (⟨g, 0, none⟩ : Addr).add j = ⟨g, j, none⟩ by cases j <;> simp [Addr.add]]
 exact h.at_ j _ (List.getElem?_eq_getElem hj)
theorem buf_new (w : World) : BufAt (w.alloc (.cells (Array.replicate 24 (.int .u8 0)) 5)) w.heap.size 24 [] :=
 ⟨fun j hj => ⟨by simp [hj], by simp⟩, by simp, fun j x h => by simp at h⟩
theorem format32 (b W : Nat) (L : List UInt8) (w : World) (hT : Tabs w) (hc : floatToFloatBits .f64 b .f32 = some W)
  (h172 : ∀ w g, Tabs w → g < w.heap.size → BufAt w g 24 [] → Calls Tryz.prog 172 #[.slice (some ⟨g, 0, none⟩) 0 24, .float .f32 W, .int .u8 101, .int .i64 (-1)] w fun e w' =>
   e = .returned (.slice (some ⟨g, 0, none⟩) L.length 24) ∧ BufAt w' g 24 L ∧ Below g w w') :
  Calls Tryz.prog 136 #[.float .f64 b, .int .u8 101, .int .i64 (-1), .int .i64 32] w (Rt w (.string ⟨L.toArray⟩)) := by
 have hcv : ∀ w, (convert 124 153 (.float .f64 b)).run Tryz.prog w = .ok (.float .f32 W) w := fun w => run_convert_float_float (P := Tryz.prog) w 124 153 .f64 .f32 b W (by kernel_rfl) (by kernel_rfl) hc
 have hmk : ∀ w, (Instr.makeSlice 58 (.int .i64 0) (.int .i64 (max 3 24))).run Tryz.prog w = .ok (.slice (some ⟨w.heap.size, 0, none⟩) 0 24) (w.alloc (.cells (Array.replicate 24 (.int .u8 0)) 5)) := fun _ => by kernel_rfl
 have H172 := Lib.hid h172
 clear h172
 go_enter Tryz.func136, Tryz.ntmps136
 go_wp2_with fail
 refine (H172.out _ _ (hT.below ((Below.refl _ _).alloc (Nat.le_refl _) _)) (by simp) (buf_new w)).mono ?_
 rintro e w2 ⟨rfl, hB2, hb2⟩
 have hst := str_buf w2 w.heap.size 24 L hB2
 go_wp2_with fail
 go_ret
 exact ⟨rfl, ((Below.refl _ _).alloc (Nat.le_refl _) _).trans hb2⟩
theorem format64 (W : Nat) (L : List UInt8) (w : World) (hT : Tabs w)
  (h173 : ∀ w g, Tabs w → g < w.heap.size → BufAt w g 24 [] → Calls Tryz.prog 173 #[.slice (some ⟨g, 0, none⟩) 0 24, .float .f64 W, .int .u8 101, .int .i64 (-1)] w fun e w' =>
   e = .returned (.slice (some ⟨g, 0, none⟩) L.length 24) ∧ BufAt w' g 24 L ∧ Below g w w') :
  Calls Tryz.prog 136 #[.float .f64 W, .int .u8 101, .int .i64 (-1), .int .i64 64] w (Rt w (.string ⟨L.toArray⟩)) := by
 have hmk : ∀ w, (Instr.makeSlice 58 (.int .i64 0) (.int .i64 (max 3 24))).run Tryz.prog w = .ok (.slice (some ⟨w.heap.size, 0, none⟩) 0 24) (w.alloc (.cells (Array.replicate 24 (.int .u8 0)) 5)) := fun _ => by kernel_rfl
 have H173 := Lib.hid h173
 clear h173
 go_enter Tryz.func136, Tryz.ntmps136
 go_wp2_with fail
 refine (H173.out _ _ (hT.below ((Below.refl _ _).alloc (Nat.le_refl _) _)) (by simp) (buf_new w)).mono ?_
 rintro e w2 ⟨rfl, hB2, hb2⟩
 have hst := str_buf w2 w.heap.size 24 L hB2
 go_wp2_with fail
 go_ret
 exact ⟨rfl, ((Below.refl _ _).alloc (Nat.le_refl _) _).trans hb2⟩
theorem format_pub (b bits : Int) (bb : Nat) (R : ByteArray) (w : World)
  (h136 : Calls Tryz.prog 136 #[.float .f64 bb, .int .u8 101, .int .i64 (-1), .int .i64 bits] w (Rt w (.string R))) :
  Calls Tryz.prog 101 #[.float .f64 bb, .int .u8 101, .int .i64 (-1), .int .i64 bits] w (Rt w (.string R)) := by
 go_enter Tryz.func101, Tryz.ntmps101
 go_wp2_with fail
 refine h136.mono ?_
 rintro e w2 ⟨rfl, hb⟩
 go_wp2_with fail
 go_ret
 exact ⟨rfl, hb⟩
end
end Go.Proofs.YtepfodmbjojdbaaGreatDoor.Num
