/- NumberPrints: the two choices of digits joined, and the bounds of words. No conditions beyond each theorem's own. -/
import Derived.Test.YtepfodmbjojdbaaGreatDoorQ16
import Derived.Test.YtepfodmbjojdbaaGreatDoorQ06
import Derived.Test.YtepfodmbjojdbaaGreatDoorQ01
import Derived.Test.YtepfodmbjojdbaaGreatDoorQ02
set_option linter.all false
namespace Go.Proofs.YtepfodmbjojdbaaGreatDoor.Num
open Go Go.RowKit YtepfodmbjojdbaaGreatDoorW.PrintWords YtepfodmbjojdbaaGreatDoorW.PrintMore PNumberPrints
section
open _root_.Nm
set_option maxHeartbeats 1000000
theorem decS_one : decS 1 = ⟨#[49]⟩ := by
 apply ByteArray.ext; apply Array.ext'
 rw [decS_toList, ndig_of 1 1 (by decide) (by decide) (by decide)]; rfl
theorem e0of_wrap (t : Int) (h : -1100 ≤ t ∧ t < 1100) : wrap64 (wrap64 (Int.tdiv (wrap64 (wrap64 t * 30103)) 100000) - 2) = e0of t := by
 unfold e0of
 have a1 := Int.mul_tdiv_add_tmod (t * 30103) 100000
 have a2 := Int.tmod_lt_of_pos (t * 30103) (show (0 : Int) < 100000 by decide)
 have a3 := Int.lt_tmod_of_pos (t * 30103) (show (0 : Int) < 100000 by decide)
 rw [w64 (x := t) (by omega), w64 (x := t * 30103) (by omega)]
 generalize (t * 30103).tdiv 100000 = d at *
 rw [w64 (x := d) (by omega), w64 (by omega)]
theorem shortRef (D : Nat) (least most sg : Int) (hK : KindF D least most) (W m : Nat) (q : Int) (hm : m = mOf W (2 ^ (D - 1))) (hq : q = qOf D least W (2 ^ (D - 1))) (h1 : 1 ≤ W)
  (h2 : W < (most - least + 2).toNat * 2 ^ (D - 1)) (asym : Prop) [Decidable asym] (hasym : asym ↔ m = 2 ^ (D - 1) ∧ least - D + 1 < q) :
  ∃ (r k : Nat) (dp : Int), r % 10 ≠ 0 ∧ r < 10 ^ 17 ∧ r * 10 ^ k ≤ 10 ^ 17 ∧ (goPick asym m q (scP asym q)).1 = r * 10 ^ k ∧ (ndig (r * 10 ^ k) : Int) - (goPick asym m q (scP asym q)).2 = dp ∧ -341 ≤ dp ∧ dp ≤ 341 ∧
   ∀ w, Calls Tryz.prog 65 #[.agg #[.int .i64 (D : Int), .int .i64 least, .int .i64 most, .int .i64 sg], .int .u64 (W : Int)] w (Rt w (.string (laidS (decS r) dp))) := by
 obtain ⟨m1, m2, q1, q2, hcan, hw⟩ := wordParts D least most hK W h1 h2
 rw [← hm] at m1 m2
 rw [← hq] at q1 q2
 have hqr : -1074 ≤ q ∧ q ≤ 971 := by rcases hK with h | h <;> omega
 have hmB : m < 2 ^ 53 := Nat.lt_of_lt_of_le m2 (Nat.pow_le_pow_right (by decide) (by rcases hK with h | h <;> omega))
 obtain ⟨J, N, r, k, ee, j1, j2, j3, j4, n1, n2, n3, n4, e1, e2, r1, r2, r3, g1, g2, g3⟩ :=
  floatPlain D least most hK W m q hm hq h1 h2 (m * 2 ^ q.toNat) (2 ^ (-q).toNat) rfl rfl _ rfl asym hasym
 have hr1 : 1 ≤ r := by omega
 obtain ⟨dp, hdp⟩ : ∃ dp, dp = (ndig (r * 10 ^ k) : Int) - (goPick asym m q (scP asym q)).2 := ⟨_, rfl⟩
 rw [← hdp] at g2 g3
 have hdpb : -341 ≤ dp ∧ dp ≤ 341 := by
  by_cases h : pickN D least most W (m * 2 ^ q.toNat) (2 ^ (-q).toNat) ee N = 10 ^ N
  ·have := (g2 h).2; omega
  ·have := (g3 h).2; omega
 refine ⟨r, k, dp, r1, r2, r3, g1, hdp.symm, hdpb.1, hdpb.2, fun w => ?_⟩
 have hsz : ∀ x, x < 10 ^ 17 → (decS x).size ≤ 100 ∧ 1 ≤ (decS x).size := by
  intro x hx
  have e17 : 10 ^ 17 = 100000000000000000 := by decide
  have := decS_le x (by omega)
  have h3 := ndig_pos x
  rw [decS_size] at *
  omega
 have hlaid : ∀ w, Calls Tryz.prog 111 #[.string (decS r), .int .i64 dp] w (Rt w (.string (laidS (decS r) dp))) :=
  fun w => laid_b (decS r) dp w (hsz r r2).1 (hsz r r2).2 (by omega)
 have hP : 0 < 2 ^ (D - 1) := Nat.two_pow_pos _
 have hPx : 2 ^ (D - 1) ≤ 2 ^ 52 := Nat.pow_le_pow_right (by decide) (by rcases hK with h | h <;> omega)
 have e52 : 2 ^ 52 = 4503599627370496 := by decide
 have e53 : 2 ^ 53 = 9007199254740992 := by decide
 have hW64 : W < 18446744073709551616 := by
  have : (most - least + 2).toNat * 2 ^ (D - 1) ≤ 2047 * 2 ^ 52 := Nat.mul_le_mul (by rcases hK with h | h <;> omega) hPx
  omega
 have hdm := Nat.div_add_mod W (2 ^ (D - 1))
 have hml := Nat.mod_lt W hP
 have hdl := Nat.div_le_self W (2 ^ (D - 1))
 have hf : W / 2 ^ (D - 1) < (most - least + 2).toNat := Nat.div_lt_of_lt_mul (by rw [Nat.mul_comm]; exact h2)
 have hfl : W / 2 ^ (D - 1) < 3000 := by rcases hK with h | h <;> omega
 have hna := nbits_bounds (m * 2 ^ q.toNat) (Nat.mul_pos m1 (Nat.two_pow_pos _))
 have hnb := nbits_bounds (2 ^ (-q).toNat) (Nat.two_pow_pos _)
 have ht := e2
 have he0 := e0of_wrap ((nbits (m * 2 ^ q.toNat) : Int) - nbits (2 ^ (-q).toNat)) e2
 have he0b : -1200 ≤ e0of ((nbits (m * 2 ^ q.toNat) : Int) - nbits (2 ^ (-q).toNat)) ∧ e0of ((nbits (m * 2 ^ q.toNat) : Int) - nbits (2 ^ (-q).toNat)) ≤ 1200 := by omega
 have hmq : Hid ((decide (0 < W / 2 ^ (D - 1)) = true ∧ IntKind.u64.wrap (((W % 2 ^ (D - 1) : Nat) : Int) + ((2 ^ (D - 1) : Nat) : Int)) = (m : Int) ∧ wrap64 (wrap64 ((least - D + 1) + ((W / 2 ^ (D - 1) : Nat) : Int)) - 1) = q) ∨ (decide (0 < W / 2 ^ (D - 1)) = false ∧ W % 2 ^ (D - 1) = m ∧ least - D + 1 = q)) := by
  unfold mOf at hm
  unfold qOf at hq
  show _ ∨ _
  clear hw hcan hmB hna hnb n2 n3 n4 j3 j4 g1 g2 g3
  rw [e52] at hPx
  generalize 2 ^ (D - 1) = P at *
  by_cases h0 : 0 < W / P
  ·rw [if_pos h0] at hm hq
   refine .inl ⟨decide_eq_true (by omega), ?_, ?_⟩
   ·rw [wu64 (by omega)]; omega
   ·have : least - (D : Int) + 1 + ((W / P : Nat) : Int) - 1 = q := hq.symm
    generalize W / P = f at *
    rw [w64 (x := least - (D : Int) + 1 + (f : Int)) (by rcases hK with h | h <;> omega), w64 (by rcases hK with h | h <;> omega)]
    exact this
  ·rw [if_neg h0] at hm hq
   exact .inr ⟨decide_eq_false (by omega), hm.symm, hq.symm⟩
 have hpb : pickN D least most W (m * 2 ^ q.toNat) (2 ^ (-q).toNat) ee N < 18446744073709551616 := by
  have e17 : 10 ^ 17 = 100000000000000000 := by decide
  by_cases h : pickN D least most W (m * 2 ^ q.toNat) (2 ^ (-q).toNat) ee N = 10 ^ N
  ·rw [h]
   have := Nat.pow_le_pow_right (n := 10) (by decide) n1.2
   omega
  ·rw [← (g3 h).1]; omega
 have hs := fun w => refDecimal_b _ w hpb
 have hR1 : pickN D least most W (m * 2 ^ q.toNat) (2 ^ (-q).toNat) ee N = 10 ^ N → ∀ w, Calls Tryz.prog 111 #[.string ⟨#[49]⟩, .int .i64 (ee + 1)] w (Rt w (.string (laidS (decS r) dp))) := by
  intro h w
  obtain ⟨a1, a2⟩ := g2 h
  have := hlaid w
  rw [a1, decS_one, a2] at this
  rw [a1, decS_one, a2]
  exact this
 have hR2 : pickN D least most W (m * 2 ^ q.toNat) (2 ^ (-q).toNat) ee N ≠ 10 ^ N → ∀ w, Calls Tryz.prog 111 #[.string (decS (pickN D least most W (m * 2 ^ q.toNat) (2 ^ (-q).toNat) ee N)), .int .i64 ee] w (Rt w (.string (laidS (decS r) dp))) := by
  intro h w
  obtain ⟨a1, a2⟩ := g3 h
  rw [← a1]
  have := hlaid w
  rw [a2] at this
  rw [a2]
  exact this
 have hfit : ∀ e : Int, e ≤ most → (e - least).toNat * 2 ^ (D - 1) + 2 ^ D < 18446744073709551616 := by
  intro e he
  have a1 : (e - least).toNat * 2 ^ (D - 1) ≤ 2045 * 2 ^ 52 := Nat.mul_le_mul (by rcases hK with h | h <;> omega) hPx
  have a2 : 2 ^ D ≤ 2 ^ 53 := Nat.pow_le_pow_right (by decide) (by rcases hK with h | h <;> omega)
  omega
 have hDb : 2 ≤ D ∧ D ≤ 60 := by rcases hK with h | h <;> omega
 have h32 := fun w => power_b (D - 1) w (by omega)
 refine Shortest_core D (D - 1) least most sg W (2 ^ (D - 1)) (W / 2 ^ (D - 1)) (W % 2 ^ (D - 1)) m (m * 2 ^ q.toNat) (2 ^ (-q).toNat) (nbits (m * 2 ^ q.toNat)) (nbits (2 ^ (-q).toNat)) q (least - D + 1)
  (e0of ((nbits (m * 2 ^ q.toNat) : Int) - nbits (2 ^ (-q).toNat))) w (laidS (decS r) dp) J q.toNat (-q).toNat 0 0 ?_ h32 ?_ ?_ ?_ ?_ ?_ ?_ hmq (by omega) (by omega) (by omega) ?_ ?_ rfl rfl rfl rfl he0 he0b j1 ee j2 j3 j4 hDb
  (by rcases hK with h | h <;> omega) (by rcases hK with h | h <;> omega) hfit (by omega) N n1 n2 n3 (Nat.two_pow_pos _) n4 hR1 (decS (pickN D least most W (m * 2 ^ q.toNat) (2 ^ (-q).toNat) ee N)) hs hR2
 ·rw [w64 (by omega)]; omega
 ·rw [beq_eq_false_iff_ne]; omega
 ·omega
 ·omega
 ·rw [show (W : Int) / ((2 ^ (D - 1) : Nat) : Int) = ((W / 2 ^ (D - 1) : Nat) : Int) by simp]
  generalize W / 2 ^ (D - 1) = f at *
  rw [wu64 (by omega), w64 (by omega)]
 ·simp
 ·rw [w64 (x := least - (D : Int)) (by rcases hK with h | h <;> omega), w64 (by rcases hK with h | h <;> omega)]
 ·split <;> omega
 ·rw [w64 (by omega)]; split <;> omega
end
section
set_option maxHeartbeats 1000000
set_option maxRecDepth 1000000
def fitsB (p : Int) (x : Nat) : Bool :=
 if p = 0 ∨ p = 5 then decide (x ≤ 255) else if p = 6 then decide (x ≤ 65535) else if p = 7 ∨ p = 9 then decide (x ≤ 4294967295)
 else if p = 8 ∨ p = 10 ∨ p = 4 then true else if p = 1 then decide (x < 128 ∨ 18446744073709551488 ≤ x) else if p = 2 then decide (x < 32768 ∨ 18446744073709518848 ≤ x)
 else if p = 3 then decide (x < 2147483648 ∨ 18446744071562067968 ≤ x) else false
theorem of11 (p : Int) (h : 0 ≤ p ∧ p ≤ 10) : p = 0 ∨ p = 1 ∨ p = 2 ∨ p = 3 ∨ p = 4 ∨ p = 5 ∨ p = 6 ∨ p = 7 ∨ p = 8 ∨ p = 9 ∨ p = 10 := by omega
theorem fits_0 (x : Nat) : fitsB 0 x = decide (x ≤ 255) := by simp [fitsB]
theorem fits_1 (x : Nat) : fitsB 1 x = decide (x < 128 ∨ 18446744073709551488 ≤ x) := by simp [fitsB]
theorem fits_2 (x : Nat) : fitsB 2 x = decide (x < 32768 ∨ 18446744073709518848 ≤ x) := by simp [fitsB]
theorem fits_3 (x : Nat) : fitsB 3 x = decide (x < 2147483648 ∨ 18446744071562067968 ≤ x) := by simp [fitsB]
theorem fits_4 (x : Nat) : fitsB 4 x = true := by simp [fitsB]
theorem fits_5 (x : Nat) : fitsB 5 x = decide (x ≤ 255) := by simp [fitsB]
theorem fits_6 (x : Nat) : fitsB 6 x = decide (x ≤ 65535) := by simp [fitsB]
theorem fits_7 (x : Nat) : fitsB 7 x = decide (x ≤ 4294967295) := by simp [fitsB]
theorem fits_8 (x : Nat) : fitsB 8 x = true := by simp [fitsB]
theorem fits_9 (x : Nat) : fitsB 9 x = decide (x ≤ 4294967295) := by simp [fitsB]
theorem fits_10 (x : Nat) : fitsB 10 x = true := by simp [fitsB]
theorem refFits_uns (p s B x : Int) (hs : stencilref01_Size.f 100 p = some s) (hs0 : ¬ s = 0) (hsg : stencilref01_Signed.f p = some false) (hb : stencilref01_bits.f 100 (wrap64 (8 * s)) = some B) :
  stencilref01_Fits.f 100 p x = some (decide (x ≤ B)) := by
 unfold stencilref01_Fits.f
 rw [hs, hsg]
 simp only [Option.bind_some]
 rw [if_neg hs0, if_neg (by decide), hb]
 rfl
theorem refFits_sgn (p s H N x : Int) (hs : stencilref01_Size.f 100 p = some s) (hs0 : ¬ s = 0) (hsg : stencilref01_Signed.f p = some true) (hh : stencilref01_high.f 100 p = some H) (hn : stencilref01_Null.f 100 p = some N) :
  stencilref01_Fits.f 100 p x = some (decide (x < H ∨ N ≤ x)) := by
 unfold stencilref01_Fits.f
 rw [hs, hsg, hh, hn]
 simp only [Option.bind_some]
 rw [if_neg hs0, if_pos trivial]
 by_cases h : x < H
 ·rw [if_pos h, decide_eq_true (.inl h)]
 ·rw [if_neg h]
  congr 1
  rw [Bool.eq_iff_iff, decide_eq_true_iff, decide_eq_true_iff]
  omega
theorem word_uns (s x : Int) (sh : Nat) (f : Bool) (n lo hi : Int) (hsh : wrap64 (64 - wrap64 (8 * s)) = (sh : Int)) (hsh2 : sh ≤ 64) :
  prim_row_word.f s false f n lo hi x = some ((x * 2 ^ sh) % 18446744073709551616 / 2 ^ sh) := by
 unfold prim_row_word.f
 rw [if_neg (by decide), hsh, if_pos (by omega)]
 unfold shl shr
 have e : min ((sh : Int).toNat) IntKind.u64.bits = sh := by
  show min ((sh : Int).toNat) 64 = sh
  rw [Int.toNat_natCast]; omega
 rw [e, wu64_eq]
theorem word_sgn (s x : Int) (sh : Nat) (f : Bool) (n lo hi : Int) (hsh : wrap64 (64 - wrap64 (8 * s)) = (sh : Int)) (hsh2 : sh ≤ 64) :
  prim_row_word.f s true f n lo hi x = some ((wrap64 ((x * 2 ^ sh) % 18446744073709551616) / 2 ^ sh) % 18446744073709551616) := by
 unfold prim_row_word.f
 rw [if_pos rfl, hsh, if_pos (by omega)]
 unfold shl shr
 have e : min ((sh : Int).toNat) IntKind.u64.bits = sh := by
  show min ((sh : Int).toNat) 64 = sh
  rw [Int.toNat_natCast]; omega
 have e2 : min ((sh : Int).toNat) IntKind.i64.bits = sh := e
 rw [e, e2, wu64_eq, wu64_eq]
theorem refFits_f (p : Int) (x : Nat) (hx : x < 18446744073709551616) (h : 0 ≤ p ∧ p ≤ 10) : stencilref01_Fits.f 100 p (x : Int) = some (fitsB p x) := by
 rcases of11 p h with rfl | rfl | rfl | rfl | rfl | rfl | rfl | rfl | rfl | rfl | rfl
 ·refine (refFits_uns 0 1 255 x (by decide +kernel) (by decide) (by decide) (by decide +kernel)).trans (congrArg some (Eq.trans ?_ (fits_0 x).symm)); exact Bool.eq_iff_iff.2 (Iff.trans decide_eq_true_iff (Iff.trans (by omega) decide_eq_true_iff.symm))
 ·refine (refFits_sgn 1 1 128 18446744073709551488 x (by decide +kernel) (by decide) (by decide) (by decide +kernel) (by decide +kernel)).trans (congrArg some (Eq.trans ?_ (fits_1 x).symm)); exact Bool.eq_iff_iff.2 (Iff.trans decide_eq_true_iff (Iff.trans (by omega) decide_eq_true_iff.symm))
 ·refine (refFits_sgn 2 2 32768 18446744073709518848 x (by decide +kernel) (by decide) (by decide) (by decide +kernel) (by decide +kernel)).trans (congrArg some (Eq.trans ?_ (fits_2 x).symm)); exact Bool.eq_iff_iff.2 (Iff.trans decide_eq_true_iff (Iff.trans (by omega) decide_eq_true_iff.symm))
 ·refine (refFits_sgn 3 4 2147483648 18446744071562067968 x (by decide +kernel) (by decide) (by decide) (by decide +kernel) (by decide +kernel)).trans (congrArg some (Eq.trans ?_ (fits_3 x).symm)); exact Bool.eq_iff_iff.2 (Iff.trans decide_eq_true_iff (Iff.trans (by omega) decide_eq_true_iff.symm))
 ·exact (refFits_sgn 4 8 9223372036854775808 9223372036854775808 x (by decide +kernel) (by decide) (by decide) (by decide +kernel) (by decide +kernel)).trans (congrArg some ((decide_eq_true (by omega)).trans (fits_4 x).symm))
 ·refine (refFits_uns 5 1 255 x (by decide +kernel) (by decide) (by decide) (by decide +kernel)).trans (congrArg some (Eq.trans ?_ (fits_5 x).symm)); exact Bool.eq_iff_iff.2 (Iff.trans decide_eq_true_iff (Iff.trans (by omega) decide_eq_true_iff.symm))
 ·refine (refFits_uns 6 2 65535 x (by decide +kernel) (by decide) (by decide) (by decide +kernel)).trans (congrArg some (Eq.trans ?_ (fits_6 x).symm)); exact Bool.eq_iff_iff.2 (Iff.trans decide_eq_true_iff (Iff.trans (by omega) decide_eq_true_iff.symm))
 ·refine (refFits_uns 7 4 4294967295 x (by decide +kernel) (by decide) (by decide) (by decide +kernel)).trans (congrArg some (Eq.trans ?_ (fits_7 x).symm)); exact Bool.eq_iff_iff.2 (Iff.trans decide_eq_true_iff (Iff.trans (by omega) decide_eq_true_iff.symm))
 ·exact (refFits_uns 8 8 18446744073709551615 x (by decide +kernel) (by decide) (by decide) (by decide +kernel)).trans (congrArg some ((decide_eq_true (by omega)).trans (fits_8 x).symm))
 ·refine (refFits_uns 9 4 4294967295 x (by decide +kernel) (by decide) (by decide) (by decide +kernel)).trans (congrArg some (Eq.trans ?_ (fits_9 x).symm)); exact Bool.eq_iff_iff.2 (Iff.trans decide_eq_true_iff (Iff.trans (by omega) decide_eq_true_iff.symm))
 ·exact (refFits_uns 10 8 18446744073709551615 x (by decide +kernel) (by decide) (by decide) (by decide +kernel)).trans (congrArg some ((decide_eq_true (by omega)).trans (fits_10 x).symm))
theorem progFits (p : Int) (x : Nat) (hx : x < 18446744073709551616) (h : 0 ≤ p ∧ p ≤ 10) : 0 < (rowOf p).1 ∧ ∃ r, wordOf p (x : Int) = some r ∧ (r == (x : Int)) = fitsB p x := by
 rcases of11 p h with rfl | rfl | rfl | rfl | rfl | rfl | rfl | rfl | rfl | rfl | rfl
 ·refine ⟨by decide, _, word_uns 1 x 56 _ _ _ _ (by unfold wrap64; decide) (by decide), ?_⟩; refine Eq.trans ?_ (fits_0 x).symm; refine Bool.eq_iff_iff.2 (Iff.trans beq_iff_eq (Iff.trans ?_ decide_eq_true_iff.symm)); simp only [show (2 : Int) ^ 56 = 72057594037927936 by decide]; omega
 ·refine ⟨by decide, _, word_sgn 1 x 56 _ _ _ _ (by unfold wrap64; decide) (by decide), ?_⟩; refine Eq.trans ?_ (fits_1 x).symm; refine Bool.eq_iff_iff.2 (Iff.trans beq_iff_eq (Iff.trans ?_ decide_eq_true_iff.symm)); simp only [show (2 : Int) ^ 56 = 72057594037927936 by decide]; unfold wrap64; omega
 ·refine ⟨by decide, _, word_sgn 2 x 48 _ _ _ _ (by unfold wrap64; decide) (by decide), ?_⟩; refine Eq.trans ?_ (fits_2 x).symm; refine Bool.eq_iff_iff.2 (Iff.trans beq_iff_eq (Iff.trans ?_ decide_eq_true_iff.symm)); simp only [show (2 : Int) ^ 48 = 281474976710656 by decide]; unfold wrap64; omega
 ·refine ⟨by decide, _, word_sgn 4 x 32 _ _ _ _ (by unfold wrap64; decide) (by decide), ?_⟩; refine Eq.trans ?_ (fits_3 x).symm; refine Bool.eq_iff_iff.2 (Iff.trans beq_iff_eq (Iff.trans ?_ decide_eq_true_iff.symm)); simp only [show (2 : Int) ^ 32 = 4294967296 by decide]; unfold wrap64; omega
 ·refine ⟨by decide, _, word_sgn 8 x 0 _ _ _ _ (by unfold wrap64; decide) (by decide), ?_⟩; refine Eq.trans ?_ (fits_4 x).symm; refine beq_iff_eq.2 ?_; simp only [show (2 : Int) ^ 0 = 1 by decide]; unfold wrap64; omega
 ·refine ⟨by decide, _, word_uns 1 x 56 _ _ _ _ (by unfold wrap64; decide) (by decide), ?_⟩; refine Eq.trans ?_ (fits_5 x).symm; refine Bool.eq_iff_iff.2 (Iff.trans beq_iff_eq (Iff.trans ?_ decide_eq_true_iff.symm)); simp only [show (2 : Int) ^ 56 = 72057594037927936 by decide]; omega
 ·refine ⟨by decide, _, word_uns 2 x 48 _ _ _ _ (by unfold wrap64; decide) (by decide), ?_⟩; refine Eq.trans ?_ (fits_6 x).symm; refine Bool.eq_iff_iff.2 (Iff.trans beq_iff_eq (Iff.trans ?_ decide_eq_true_iff.symm)); simp only [show (2 : Int) ^ 48 = 281474976710656 by decide]; omega
 ·refine ⟨by decide, _, word_uns 4 x 32 _ _ _ _ (by unfold wrap64; decide) (by decide), ?_⟩; refine Eq.trans ?_ (fits_7 x).symm; refine Bool.eq_iff_iff.2 (Iff.trans beq_iff_eq (Iff.trans ?_ decide_eq_true_iff.symm)); simp only [show (2 : Int) ^ 32 = 4294967296 by decide]; omega
 ·refine ⟨by decide, _, word_uns 8 x 0 _ _ _ _ (by unfold wrap64; decide) (by decide), ?_⟩; refine Eq.trans ?_ (fits_8 x).symm; refine beq_iff_eq.2 ?_; simp only [show (2 : Int) ^ 0 = 1 by decide]; omega
 ·refine ⟨by decide, _, word_uns 4 x 32 _ _ _ _ (by unfold wrap64; decide) (by decide), ?_⟩; refine Eq.trans ?_ (fits_9 x).symm; refine Bool.eq_iff_iff.2 (Iff.trans beq_iff_eq (Iff.trans ?_ decide_eq_true_iff.symm)); simp only [show (2 : Int) ^ 32 = 4294967296 by decide]; omega
 ·refine ⟨by decide, _, word_uns 8 x 0 _ _ _ _ (by unfold wrap64; decide) (by decide), ?_⟩; refine Eq.trans ?_ (fits_10 x).symm; refine beq_iff_eq.2 ?_; simp only [show (2 : Int) ^ 0 = 1 by decide]; omega
end
end Go.Proofs.YtepfodmbjojdbaaGreatDoor.Num
