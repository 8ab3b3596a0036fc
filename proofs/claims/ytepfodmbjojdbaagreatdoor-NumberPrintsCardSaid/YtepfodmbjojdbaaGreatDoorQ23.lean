/- NumberPrints: the program's and the reference's float texts agree. No conditions beyond each theorem's own. -/
import Derived.Test.YtepfodmbjojdbaaGreatDoorQ20
import Derived.Test.YtepfodmbjojdbaaGreatDoorQ22
import Derived.Lib.AtoiErrMem
set_option linter.all false
namespace Go.Proofs.YtepfodmbjojdbaaGreatDoor.Num
open Go Go.RowKit Go.Lib YtepfodmbjojdbaaGreatDoorW.PrintWords YtepfodmbjojdbaaGreatDoorW.PrintMore PNumberPrints
theorem andNot_u64 (x S j : Nat) (hS : S = 2 ^ j) (hj : j ≤ 63) (hx : x < 2 ^ (j + 1)) : bits BinOp.andNot IntKind.u64 (x : Int) (S : Int) = ((x % 2 ^ j : Nat) : Int) := by
 have e64 : 2 ^ 64 = 18446744073709551616 := by decide
 have hS64 : S < 2 ^ 64 := by rw [hS]; exact Nat.pow_lt_pow_right (by decide) (by omega)
 have hx64 : x < 2 ^ 64 := Nat.lt_of_lt_of_le hx (Nat.pow_le_pow_right (by decide) (by omega))
 have key : (BitVec.ofInt 64 (x : Int) &&& ~~~ BitVec.ofInt 64 (S : Int)).toNat = x % 2 ^ j := by
  rw [BitVec.toNat_and, BitVec.toNat_not, BitVec.ofInt_natCast, BitVec.ofInt_natCast, BitVec.toNat_ofNat, BitVec.toNat_ofNat, Nat.mod_eq_of_lt hx64, Nat.mod_eq_of_lt hS64]
  rw [show 2 ^ 64 - 1 - S = 2 ^ 64 - (S + 1) by omega]
  apply Nat.eq_of_testBit_eq
  intro i
  rw [Nat.testBit_and, Nat.testBit_two_pow_sub_succ hS64, Nat.testBit_mod_two_pow, hS, Nat.testBit_two_pow]
  by_cases h1 : i < j
  ·have : ¬ j = i := by omega
   have : i < 64 := by omega
   simp [*]
  ·by_cases h2 : j = i
   ·simp [h2]
   ·have : x.testBit i = false := Nat.testBit_lt_two_pow (Nat.lt_of_lt_of_le hx (Nat.pow_le_pow_right (by decide) (by omega)))
    simp [this]
 show IntKind.u64.wrap ((BitVec.ofInt 64 (x : Int) &&& ~~~ BitVec.ofInt 64 (S : Int)).toNat : Nat) = _
 rw [key]
 have := Nat.mod_le x (2 ^ j)
 generalize x % 2 ^ j = r at *
 rw [e64] at hx64
 clear key hx hS hS64 e64
 exact wu64 (by omega)
theorem laidS_size (d : ByteArray) (e : Int) (hd : d.size ≤ 100) (he : -400 ≤ e ∧ e ≤ 400) : (laidS d e).size ≤ 1000 := by
 have h1 := decS_le (1 - e).toNat (by omega)
 have h2 := decS_le (e - 1).toNat (by omega)
 have z1 : (⟨#[46]⟩ : ByteArray).size = 1 := rfl
 have z2 : (⟨#[48, 46]⟩ : ByteArray).size = 2 := rfl
 have z3 : (⟨#[101, 45]⟩ : ByteArray).size = 2 := rfl
 have z4 : (⟨#[101]⟩ : ByteArray).size = 1 := rfl
 unfold laidS
 simp only []
 split
 ·rw [ByteArray.size_append, zerS_size]; omega
 ·split
  ·rw [ByteArray.size_append, ByteArray.size_append, ByteArray.size_extract, ByteArray.size_extract, z1]; omega
  ·split
   ·rw [ByteArray.size_append, ByteArray.size_append, zerS_size, z2]; omega
   ·split <;> (rw [ByteArray.size_append, ByteArray.size_append]; first | rw [z3] | rw [z4]) <;> split <;> (first | rw [ByteArray.size_append, ByteArray.size_append, ByteArray.size_extract, ByteArray.size_extract, z1] | rw [ByteArray.size_extract]) <;> omega
theorem lst_size (l : List UInt8) : (⟨l.toArray⟩ : ByteArray).size = l.length := by show l.toArray.size = _; simp
theorem lst_back (b : ByteArray) (l : List UInt8) (h : b.data.toList = l) : (⟨l.toArray⟩ : ByteArray) = b := by
 rw [← h]
theorem cut_b (r : Nat) (x : Int) (c0 : UInt8) (ds : List UInt8) (hL : (decS r).data.toList = c0 :: ds) (hs : (fText r x).length ≤ 100) (w : World) (hT : Tabs w) :
  Calls Tryz.prog 100 #[.string ⟨(fText r x).toArray⟩, .string ⟨#[101]⟩] w fun e w' => e = .returned (.tuple #[.string ⟨(mantE c0 ds).toArray⟩, .string ⟨(expT x).toArray⟩, .bool true]) ∧ ∃ n, w' = w.drewN n := by
 obtain ⟨m, hm⟩ := hT.mx
 refine (Tryz.strings_Cut ⟨(fText r x).toArray⟩ ⟨#[101]⟩ m w (by rw [lst_size]; omega) hm).mono ?_
 rintro e w' ⟨rfl, hw⟩
 refine ⟨?_, hw⟩
 have : Lib.cut (fText r x).toArray.toList [101] = (mantE c0 ds, expT x, true) := cut_fText r x c0 ds hL
 show Ending.returned (.tuple #[.string ⟨(Lib.cut (fText r x).toArray.toList [101]).1.toArray⟩, .string ⟨(Lib.cut (fText r x).toArray.toList [101]).2.1.toArray⟩, .bool (Lib.cut (fText r x).toArray.toList [101]).2.2]) = _
 rw [this]
theorem atoi_b (x : Int) (h : -400 ≤ x ∧ x ≤ 400) (w : World) :
  Calls Tryz.prog 103 #[.string ⟨(expT x).toArray⟩] w (Rt w (.tuple #[.int .i64 x, .nilIface])) := by
 have hl := expT_len x
 refine (Tryz.strconv_Atoi ⟨(expT x).toArray⟩ x (by rw [lst_size]; omega) (by show Lib.atoi (expT x).toArray.toList = _; exact atoi_expT x h) w).mono ?_
 rintro e w' ⟨rfl, t, rfl⟩
 exact ⟨rfl, Lib.bytesWorld_below _ _ _⟩
theorem replace_b (r : Nat) (c0 : UInt8) (ds : List UInt8) (hL : (decS r).data.toList = c0 :: ds) (hs : ds.length ≤ 100) (w : World) (hT : Tabs w) :
  Calls Tryz.prog 105 #[.string ⟨(mantE c0 ds).toArray⟩, .string ⟨#[46]⟩, .string ⟨#[]⟩, .int .i64 1] w (Rt w (.string (decS r))) := by
 obtain ⟨m, hm⟩ := hT.mx
 have hl := mantE_len c0 ds
 have z0 : (⟨#[]⟩ : ByteArray).size = 0 := rfl
 have z1 : (⟨#[46]⟩ : ByteArray).size = 1 := rfl
 refine (Tryz.strings_Replace ⟨(mantE c0 ds).toArray⟩ ⟨#[46]⟩ ⟨#[]⟩ 1 m w (by rw [lst_size]; omega) hm (by rw [z1]; exact Nat.le_refl 1) (by rw [z0, Nat.mul_zero, lst_size]; omega)).mono ?_
 rintro e w' ⟨rfl, hb⟩
 refine ⟨?_, hb⟩
 have hd := decS_digits r
 rw [hL] at hd
 have : Lib.replace (mantE c0 ds).toArray.toList [46] [] 1 = c0 :: ds := replace_mant c0 ds hd
 show Ending.returned (.string ⟨(Lib.replace (mantE c0 ds).toArray.toList [46] [] 1).toArray⟩) = _
 rw [this, lst_back (decS r) _ hL]
theorem upper_b (n x : Nat) (hn : n ≤ 16) (w : World) : Calls Tryz.prog 97 #[.string ⟨(hexL n x).toArray⟩] w (Rt w (.string ⟨(hexU n x).toArray⟩)) := by
 refine (Tryz.strings_ToUpper_ascii ⟨(hexL n x).toArray⟩ w (by rw [lst_size, hexL_len]; omega) ?_).mono ?_
 ·intro j b hb
  have hb' : (hexL n x)[j]? = some b := by simpa using hb
  have hm := List.mem_of_getElem? hb'
  unfold hexL at hm
  obtain ⟨t, _, rfl⟩ := List.mem_map.1 hm
  exact hexd_ascii _ (Nat.mod_lt _ (by decide))
 ·rintro e w' ⟨rfl, hb⟩
  refine ⟨?_, hb⟩
  show Ending.returned (.string ⟨(toUpperA (hexL n x).toArray.toList).toArray⟩) = _
  rw [show (hexL n x).toArray.toList = hexL n x from rfl, upper_hexL]
section
open _root_.Nm
set_option maxHeartbeats 1000000
theorem progNull32 (w : World) (hT : Tabs w) : Calls Tryz.prog 95 #[.int .i64 9] w (Rt w (.int .u64 2143289344)) := Null_any 9 w hT.sizes
theorem float_same32 (x : Nat) (hx : x < 4294967296) : ∃ T : ByteArray,
  (∀ w, Tabz w → Calls Tryz.prog 55 #[fmtV 32 8, .int .i64 9, .int .u64 (x : Int)] w (Rt w (.string T))) ∧
  (∀ w, Calls Tryz.prog 29 #[.int .i64 9, .int .u64 (x : Int)] w (Rt w (.string T))) := by
 have ej : 2 ^ 31 = 2147483648 := by decide
 have ej1 : 2 ^ (31 + 1) = 4294967296 := by decide
 obtain ⟨sz, hsz⟩ : ∃ sz, sz = x % 2147483648 := ⟨_, rfl⟩
 have hand : bits BinOp.andNot IntKind.u64 (x : Int) 2147483648 = (sz : Int) := by
  have := andNot_u64 x 2147483648 31 (by decide) (by decide) (by rw [ej1]; exact hx)
  rw [ej] at this
  rw [hsz]
  simpa using this
 obtain ⟨M, hM1, hM2⟩ : ∃ M, SignOf x sz M ∧ SignRef x sz 2147483648 M := by
  by_cases h : x < 2147483648
  ·have : sz = x := by omega
   refine ⟨⟨#[]⟩, .inr ⟨?_, rfl⟩, .inr ⟨decide_eq_false (by omega), this.symm, rfl⟩⟩
   rw [this]; simp
  ·refine ⟨⟨#[45]⟩, .inl ⟨?_, rfl⟩, .inl ⟨decide_eq_true (by omega), ?_, rfl⟩⟩
   ·simp; omega
   ·rw [wu64 (by omega)]; omega
 have szl : sz < 2147483648 := by omega
 have szx : sz ≤ x := by omega
 by_cases hnl : x = 2143289344
 ·refine ⟨⟨#[78, 97, 78]⟩, fun w hT => ?_, fun w => ?_⟩
  ·exact print_nan 32 8 9 2147483648 2143289344 x sz M w hT.tabs sign32 progNull32 hand hM1 (by rw [hnl]; rfl)
  ·exact ref_nan 9 24 (-126) 127 31 2143289344 2147483648 0 0 x sz M M w kind9 refNull9 refPow31 hM2 (by rw [hnl]; rfl)
 have hnlB : ((x : Int) == 2143289344) = false := by rw [beq_eq_false_iff_ne]; omega
 by_cases hI : sz = 2139095040
 ·have hIB : ((sz : Int) == 2139095040) = true := by rw [beq_iff_eq]; omega
  refine ⟨M ++ ⟨#[73, 78, 70]⟩, fun w hT => ?_, fun w => ?_⟩
  ·exact print_inf 32 8 9 2147483648 2143289344 2139095040 x sz M w hT.tabs sign32 progNull32 infinity32 hand hM1 hnlB hIB
  ·exact ref_inf 9 24 (-126) 127 31 2143289344 2147483648 2139095040 0 x sz M M w kind9 refNull9 refPow31 refInf32 hM2 hnlB hIB
 have hIB : ((sz : Int) == 2139095040) = false := by rw [beq_eq_false_iff_ne]; omega
 by_cases hI2 : 2139095040 < sz
 ·have hI2B : decide ((2139095040 : Int) < (sz : Int)) = true := decide_eq_true (by omega)
  refine ⟨(⟨#[48, 120]⟩ : ByteArray) ++ ⟨(hexU 8 x).toArray⟩, fun w hT => ?_, fun w => ?_⟩
  ·
   obtain ⟨n, n1, n2, n3⟩ : ∃ n, 1 ≤ n ∧ n ≤ 8 ∧ (x < 16 ^ n ∧ 16 ^ (n - 1) ≤ x) := by
    have e16 : 16 ^ 8 = 4294967296 := by decide
    obtain ⟨n, n1, n2, n3⟩ := firstOf (fun n => x < 16 ^ n) 8 (show x < 16 ^ 8 by rw [e16]; exact hx)
    have hn0 : 1 ≤ n := by
     rcases Nat.eq_zero_or_pos n with h | h
     ·subst h; rw [Nat.pow_zero] at n2; omega
     ·exact h
    exact ⟨n, hn0, n1, n2, Nat.le_of_not_lt (n3 (n - 1) (by omega))⟩
   have hU : (⟨(hexU n x).toArray⟩ : ByteArray).size = n := by rw [lst_size, hexU_len]
   have h98 : ∀ w, Tabz w → Calls Tryz.prog 98 #[.int .u64 (x : Int), .int .i64 16] w (Rt w (.string ⟨(hexL n x).toArray⟩)) := by
    intro w hT
    refine (formatUint_16 x w (by omega) (by omega) hT.db (by have := hT.tabs.size; omega)).mono ?_
    rintro e w' ⟨n', a1, a2, a3, a4, rfl, hb⟩
    have : n' = n := by
     rcases Nat.lt_trichotomy n' n with h | h | h
     ·have := Nat.pow_le_pow_right (n := 16) (by decide) (show n' ≤ n - 1 by omega)
      exact absurd a4 (by have := n3.2; omega)
     ·exact h
     ·have := Nat.pow_le_pow_right (n := 16) (by decide) (show n ≤ n' - 1 by omega)
      exact absurd a3 (by have := n3.1; omega)
    subst this
    exact ⟨rfl, hb⟩
   have hpad := hexU_pad n 8 x n2 n3.1
   have hres : ((⟨#[48, 120]⟩ : ByteArray) ++ zerS (8 - n)) ++ ⟨(hexU n x).toArray⟩ = (⟨#[48, 120]⟩ : ByteArray) ++ ⟨(hexU 8 x).toArray⟩ := by
    rw [hpad]; apply ByteArray.ext; apply Array.ext'; simp [ByteArray.data_append, zerS]
   rw [← hres]
   clear hpad hres n3
   exact print_hex 32 8 9 2147483648 2143289344 2139095040 8 ⟨(hexL n x).toArray⟩ ⟨(hexU n x).toArray⟩ (zerS (8 - n)) x sz M w hT sign32 (fun w hT => progNull32 w hT.tabs) infinity32 hexDigits32 h98
    (fun w => upper_b n x (by omega) w) (fun w => by rw [hU, show ((8 : Nat) : Int) - (n : Int) = ((8 - n : Nat) : Int) by omega]; exact repeat_b _ w (by omega)) hand hM1 hnlB hIB hI2B (by rw [hU]; omega) (by decide) (by rw [zerS_size]; omega)
  ·exact ref_hex 9 24 (-126) 127 31 2143289344 2147483648 2139095040 8 x sz M _ w kind9 refNull9 refPow31 refInf32 (fun w => hexWord_b 8 x (by decide) (by omega) w) hM2 hnlB hIB hI2B (by unfold wrap64; decide) (by decide) (by decide)
 have hI2B : decide ((2139095040 : Int) < (sz : Int)) = false := decide_eq_false (by omega)
 by_cases hz : sz = 0
 ·have hzB : ((sz : Int) == 0) = true := by rw [hz]; rfl
  refine ⟨M ++ ⟨#[48]⟩, fun w hT => ?_, fun w => ?_⟩
  ·exact print_zero 32 8 9 2147483648 2143289344 2139095040 x sz M w hT.tabs sign32 progNull32 infinity32 hand hM1 hnlB hIB hI2B hzB
  ·exact ref_zero 9 24 (-126) 127 31 2143289344 2147483648 2139095040 0 x sz M M w kind9 refNull9 refPow31 refInf32 hM2 hnlB hIB hI2B hzB
 ·have hzB : ((sz : Int) == 0) = false := by rw [beq_eq_false_iff_ne]; omega
  obtain ⟨m, hm⟩ : ∃ m, m = mOf sz (2 ^ 23) := ⟨_, rfl⟩
  obtain ⟨q, hq⟩ : ∃ q, q = qOf 24 (-126) sz (2 ^ 23) := ⟨_, rfl⟩
  have eI : (127 - (-126) + 2 : Int).toNat * 2 ^ (24 - 1) = 2139095040 := by decide
  obtain ⟨r, k, dp, r1, r2, r3, g1, g2, d1, d2, h65⟩ := shortRef 24 (-126) 127 31 (.inl ⟨rfl, rfl, rfl⟩) sz m q hm hq (by omega) (by rw [eI]; omega) (m = 2 ^ 23 ∧ (-149) < q)
   (by constructor <;> (rintro ⟨a, b⟩; exact ⟨a, by omega⟩))
  have hlen : (decS r).data.toList.length = ndig r := by rw [decS_toList]; simp
  have hnr : ndig r ≤ 17 := ndig_le' r 17 r2 (by decide)
  have hnr1 := ndig_pos r
  obtain ⟨c0, ds, hL⟩ : ∃ c0 ds, (decS r).data.toList = c0 :: ds := by
   cases h : (decS r).data.toList with
   | nil => rw [h] at hlen; simp at hlen; omega
   | cons c l => exact ⟨c, l, rfl⟩
  have hdl : ds.length + 1 = ndig r := by rw [hL] at hlen; simpa using hlen
  have hds : (decS r).size = ndig r := decS_size r
  have hR : (laidS (decS r) dp).size ≤ 1000 := laidS_size _ _ (by omega) (by omega)
  have hft : (fText r (dp - 1)).length ≤ 100 := by
   unfold fText
   rw [hL, List.length_append, expX_T, List.length_cons]
   have a1 := mantE_len c0 ds
   have a2 := expT_len (dp - 1)
   simp only [List.headD_cons, List.tail_cons]
   omega
  refine ⟨M ++ laidS (decS r) dp, fun w hT => ?_, fun w => ?_⟩
  ·
   obtain ⟨bb, hu1, hu2⟩ := f32_up sz (by omega) (by omega)
   have h102 := fun w => value32 sz bb w (by omega) hu1
   have h101 := fun (w : World) (hT : Tabs w) => format_pub 0 32 bb ⟨(fText r (dp - 1)).toArray⟩ w (format32 bb sz (fText r (dp - 1)) w hT hu2
    (fun w g hT hg hB => ftoa32_any g sz r k m q dp w (by omega) (by omega) hB hg hT hm hq r1 r2 r3 g1 g2 (by omega)))
   exact print_num 32 8 9 2147483648 2143289344 2139095040 (dp - 1) bb ⟨(fText r (dp - 1)).toArray⟩ ⟨(mantE c0 ds).toArray⟩ ⟨(expT (dp - 1)).toArray⟩ (decS r) (laidS (decS r) dp) x sz M w hT.tabs sign32 progNull32 infinity32 h102 h101
    (fun w hT => cut_b r (dp - 1) c0 ds hL hft w hT) (fun w => atoi_b (dp - 1) (by omega) w) (fun w hT => replace_b r c0 ds hL (by omega) w hT)
    (fun w hT => by rw [show dp - 1 + 1 = dp by omega]; exact numlaid_b (decS r) dp w hT (by omega) (by omega) (by omega)) hand hM1 hnlB hIB hI2B hzB (by omega) hR
  ·exact ref_num 9 24 (-126) 127 31 2143289344 2147483648 2139095040 0 x sz M (laidS (decS r) dp) w kind9 refNull9 refPow31 refInf32 h65 hM2 hnlB hIB hI2B hzB hR
theorem progNull64 (w : World) (hT : Tabs w) : Calls Tryz.prog 95 #[.int .i64 10] w (Rt w (.int .u64 9221120237041090560)) := Null_any 10 w hT.sizes
theorem float_same64 (x : Nat) (hx : x < 18446744073709551616) : ∃ T : ByteArray,
  (∀ w, Tabz w → Calls Tryz.prog 55 #[fmtV 64 11, .int .i64 10, .int .u64 (x : Int)] w (Rt w (.string T))) ∧
  (∀ w, Calls Tryz.prog 29 #[.int .i64 10, .int .u64 (x : Int)] w (Rt w (.string T))) := by
 have ej : 2 ^ 63 = 9223372036854775808 := by decide
 have ej1 : 2 ^ (63 + 1) = 18446744073709551616 := by decide
 obtain ⟨sz, hsz⟩ : ∃ sz, sz = x % 9223372036854775808 := ⟨_, rfl⟩
 have hand : bits BinOp.andNot IntKind.u64 (x : Int) 9223372036854775808 = (sz : Int) := by
  have := andNot_u64 x 9223372036854775808 63 (by decide) (by decide) (by rw [ej1]; exact hx)
  rw [ej] at this
  rw [hsz]
  simpa using this
 obtain ⟨M, hM1, hM2⟩ : ∃ M, SignOf x sz M ∧ SignRef x sz 9223372036854775808 M := by
  by_cases h : x < 9223372036854775808
  ·have : sz = x := by omega
   refine ⟨⟨#[]⟩, .inr ⟨?_, rfl⟩, .inr ⟨decide_eq_false (by omega), this.symm, rfl⟩⟩
   rw [this]; simp
  ·refine ⟨⟨#[45]⟩, .inl ⟨?_, rfl⟩, .inl ⟨decide_eq_true (by omega), ?_, rfl⟩⟩
   ·simp; omega
   ·rw [wu64 (by omega)]; omega
 have szl : sz < 9223372036854775808 := by omega
 have szx : sz ≤ x := by omega
 by_cases hnl : x = 9221120237041090560
 ·refine ⟨⟨#[78, 97, 78]⟩, fun w hT => ?_, fun w => ?_⟩
  ·exact print_nan 64 11 10 9223372036854775808 9221120237041090560 x sz M w hT.tabs sign64 progNull64 hand hM1 (by rw [hnl]; rfl)
  ·exact ref_nan 10 53 (-1022) 1023 63 9221120237041090560 9223372036854775808 0 0 x sz M M w kind10 refNull10 refPow63 hM2 (by rw [hnl]; rfl)
 have hnlB : ((x : Int) == 9221120237041090560) = false := by rw [beq_eq_false_iff_ne]; omega
 by_cases hI : sz = 9218868437227405312
 ·have hIB : ((sz : Int) == 9218868437227405312) = true := by rw [beq_iff_eq]; omega
  refine ⟨M ++ ⟨#[73, 78, 70]⟩, fun w hT => ?_, fun w => ?_⟩
  ·exact print_inf 64 11 10 9223372036854775808 9221120237041090560 9218868437227405312 x sz M w hT.tabs sign64 progNull64 infinity64 hand hM1 hnlB hIB
  ·exact ref_inf 10 53 (-1022) 1023 63 9221120237041090560 9223372036854775808 9218868437227405312 0 x sz M M w kind10 refNull10 refPow63 refInf64 hM2 hnlB hIB
 have hIB : ((sz : Int) == 9218868437227405312) = false := by rw [beq_eq_false_iff_ne]; omega
 by_cases hI2 : 9218868437227405312 < sz
 ·have hI2B : decide ((9218868437227405312 : Int) < (sz : Int)) = true := decide_eq_true (by omega)
  refine ⟨(⟨#[48, 120]⟩ : ByteArray) ++ ⟨(hexU 16 x).toArray⟩, fun w hT => ?_, fun w => ?_⟩
  ·
   obtain ⟨n, n1, n2, n3⟩ : ∃ n, 1 ≤ n ∧ n ≤ 16 ∧ (x < 16 ^ n ∧ 16 ^ (n - 1) ≤ x) := by
    have e16 : 16 ^ 16 = 18446744073709551616 := by decide
    obtain ⟨n, n1, n2, n3⟩ := firstOf (fun n => x < 16 ^ n) 16 (show x < 16 ^ 16 by rw [e16]; exact hx)
    have hn0 : 1 ≤ n := by
     rcases Nat.eq_zero_or_pos n with h | h
     ·subst h; rw [Nat.pow_zero] at n2; omega
     ·exact h
    exact ⟨n, hn0, n1, n2, Nat.le_of_not_lt (n3 (n - 1) (by omega))⟩
   have hU : (⟨(hexU n x).toArray⟩ : ByteArray).size = n := by rw [lst_size, hexU_len]
   have h98 : ∀ w, Tabz w → Calls Tryz.prog 98 #[.int .u64 (x : Int), .int .i64 16] w (Rt w (.string ⟨(hexL n x).toArray⟩)) := by
    intro w hT
    refine (formatUint_16 x w (by omega) (by omega) hT.db (by have := hT.tabs.size; omega)).mono ?_
    rintro e w' ⟨n', a1, a2, a3, a4, rfl, hb⟩
    have : n' = n := by
     rcases Nat.lt_trichotomy n' n with h | h | h
     ·have := Nat.pow_le_pow_right (n := 16) (by decide) (show n' ≤ n - 1 by omega)
      exact absurd a4 (by have := n3.2; omega)
     ·exact h
     ·have := Nat.pow_le_pow_right (n := 16) (by decide) (show n ≤ n' - 1 by omega)
      exact absurd a3 (by have := n3.1; omega)
    subst this
    exact ⟨rfl, hb⟩
   have hpad := hexU_pad n 16 x n2 n3.1
   have hres : ((⟨#[48, 120]⟩ : ByteArray) ++ zerS (16 - n)) ++ ⟨(hexU n x).toArray⟩ = (⟨#[48, 120]⟩ : ByteArray) ++ ⟨(hexU 16 x).toArray⟩ := by
    rw [hpad]; apply ByteArray.ext; apply Array.ext'; simp [ByteArray.data_append, zerS]
   rw [← hres]
   clear hpad hres n3
   exact print_hex 64 11 10 9223372036854775808 9221120237041090560 9218868437227405312 16 ⟨(hexL n x).toArray⟩ ⟨(hexU n x).toArray⟩ (zerS (16 - n)) x sz M w hT sign64 (fun w hT => progNull64 w hT.tabs) infinity64 hexDigits64 h98
    (fun w => upper_b n x (by omega) w) (fun w => by rw [hU, show ((16 : Nat) : Int) - (n : Int) = ((16 - n : Nat) : Int) by omega]; exact repeat_b _ w (by omega)) hand hM1 hnlB hIB hI2B (by rw [hU]; omega) (by decide) (by rw [zerS_size]; omega)
  ·exact ref_hex 10 53 (-1022) 1023 63 9221120237041090560 9223372036854775808 9218868437227405312 16 x sz M _ w kind10 refNull10 refPow63 refInf64 (fun w => hexWord_b 16 x (by decide) (by omega) w) hM2 hnlB hIB hI2B (by unfold wrap64; decide) (by decide) (by decide)
 have hI2B : decide ((9218868437227405312 : Int) < (sz : Int)) = false := decide_eq_false (by omega)
 by_cases hz : sz = 0
 ·have hzB : ((sz : Int) == 0) = true := by rw [hz]; rfl
  refine ⟨M ++ ⟨#[48]⟩, fun w hT => ?_, fun w => ?_⟩
  ·exact print_zero 64 11 10 9223372036854775808 9221120237041090560 9218868437227405312 x sz M w hT.tabs sign64 progNull64 infinity64 hand hM1 hnlB hIB hI2B hzB
  ·exact ref_zero 10 53 (-1022) 1023 63 9221120237041090560 9223372036854775808 9218868437227405312 0 x sz M M w kind10 refNull10 refPow63 refInf64 hM2 hnlB hIB hI2B hzB
 ·have hzB : ((sz : Int) == 0) = false := by rw [beq_eq_false_iff_ne]; omega
  obtain ⟨m, hm⟩ : ∃ m, m = mOf sz (2 ^ 52) := ⟨_, rfl⟩
  obtain ⟨q, hq⟩ : ∃ q, q = qOf 53 (-1022) sz (2 ^ 52) := ⟨_, rfl⟩
  have eI : (1023 - (-1022) + 2 : Int).toNat * 2 ^ (53 - 1) = 9218868437227405312 := by decide
  obtain ⟨r, k, dp, r1, r2, r3, g1, g2, d1, d2, h65⟩ := shortRef 53 (-1022) 1023 63 (.inr ⟨rfl, rfl, rfl⟩) sz m q hm hq (by omega) (by rw [eI]; omega) (m = 2 ^ 52 ∧ (-1074) < q)
   (by constructor <;> (rintro ⟨a, b⟩; exact ⟨a, by omega⟩))
  have hlen : (decS r).data.toList.length = ndig r := by rw [decS_toList]; simp
  have hnr : ndig r ≤ 17 := ndig_le' r 17 r2 (by decide)
  have hnr1 := ndig_pos r
  obtain ⟨c0, ds, hL⟩ : ∃ c0 ds, (decS r).data.toList = c0 :: ds := by
   cases h : (decS r).data.toList with
   | nil => rw [h] at hlen; simp at hlen; omega
   | cons c l => exact ⟨c, l, rfl⟩
  have hdl : ds.length + 1 = ndig r := by rw [hL] at hlen; simpa using hlen
  have hds : (decS r).size = ndig r := decS_size r
  have hR : (laidS (decS r) dp).size ≤ 1000 := laidS_size _ _ (by omega) (by omega)
  have hft : (fText r (dp - 1)).length ≤ 100 := by
   unfold fText
   rw [hL, List.length_append, expX_T, List.length_cons]
   have a1 := mantE_len c0 ds
   have a2 := expT_len (dp - 1)
   simp only [List.headD_cons, List.tail_cons]
   omega
  refine ⟨M ++ laidS (decS r) dp, fun w hT => ?_, fun w => ?_⟩
  ·
   have h102 := fun w => value64 sz w
   have h101 := fun (w : World) (hT : Tabs w) => format_pub 0 64 sz ⟨(fText r (dp - 1)).toArray⟩ w (format64 sz (fText r (dp - 1)) w hT
    (fun w g hT hg hB => ftoa64_any g sz r k m q dp w (by omega) (by omega) hB hg hT hm hq r1 r2 r3 g1 g2 (by omega)))
   exact print_num 64 11 10 9223372036854775808 9221120237041090560 9218868437227405312 (dp - 1) sz ⟨(fText r (dp - 1)).toArray⟩ ⟨(mantE c0 ds).toArray⟩ ⟨(expT (dp - 1)).toArray⟩ (decS r) (laidS (decS r) dp) x sz M w hT.tabs sign64 progNull64 infinity64 h102 h101
    (fun w hT => cut_b r (dp - 1) c0 ds hL hft w hT) (fun w => atoi_b (dp - 1) (by omega) w) (fun w hT => replace_b r c0 ds hL (by omega) w hT)
    (fun w hT => by rw [show dp - 1 + 1 = dp by omega]; exact numlaid_b (decS r) dp w hT (by omega) (by omega) (by omega)) hand hM1 hnlB hIB hI2B hzB (by omega) hR
  ·exact ref_num 10 53 (-1022) 1023 63 9221120237041090560 9223372036854775808 9218868437227405312 0 x sz M (laidS (decS r) dp) w kind10 refNull10 refPow63 refInf64 h65 hM2 hnlB hIB hI2B hzB hR
end
end Go.Proofs.YtepfodmbjojdbaaGreatDoor.Num
