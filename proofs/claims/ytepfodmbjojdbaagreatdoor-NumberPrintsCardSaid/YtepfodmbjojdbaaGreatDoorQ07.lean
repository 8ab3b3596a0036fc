/- NumberPrints: plain arithmetic: the digits of the reference's choice and the program's agree. No conditions beyond each theorem's own. -/
import Derived.Test.YtepfodmbjojdbaaGreatDoorQ04
set_option linter.all false
namespace Go.Proofs.YtepfodmbjojdbaaGreatDoor.Num
open Nm
theorem rnd_scale (k a b : Nat) (hk : 0 < k) : rnd (k * a) (k * b) = rnd a b := by
 unfold rnd
 rw [Nat.mul_div_mul_left _ _ hk, Nat.mul_mod_mul_left]
 have e1 : 2 * (k * (a % b)) > k * b ↔ 2 * (a % b) > b := by
  rw [show 2 * (k * (a % b)) = k * (2 * (a % b)) by grind]
  exact Nat.mul_lt_mul_left hk
 have e2 : 2 * (k * (a % b)) = k * b ↔ 2 * (a % b) = b := by
  rw [show 2 * (k * (a % b)) = k * (2 * (a % b)) by grind]
  exact Nat.mul_right_inj (by omega)
 simp only [e1, e2]
def bet (b K : Nat) (z : Int) : Nat := b * 2 ^ ((K : Int) + z).toNat
theorem bet_add (b K : Nat) (z : Int) (n : Nat) (h : 0 ≤ (K : Int) + z) : bet b K (z + n) = 2 ^ n * bet b K z := by
 unfold bet
 rw [show ((K : Int) + (z + n)).toNat = ((K : Int) + z).toNat + n by omega, Nat.pow_add, ← Nat.mul_assoc, Nat.mul_comm]
theorem bet_pos (b K : Nat) (z : Int) (hb : 0 < b) : 0 < bet b K z := Nat.mul_pos hb (Nat.two_pow_pos _)
theorem le2_bet (z : Int) (a b K : Nat) (h : 0 ≤ (K : Int) + z) : le2 z a b ↔ bet b K z ≤ a * 2 ^ K := le2_iff z a b K h
theorem rnd_bet (a b K : Nat) (q : Int) (h : 0 ≤ (K : Int) + q) : rnd (a * 2 ^ (-q).toNat) (b * 2 ^ q.toNat) = rnd (a * 2 ^ K) (bet b K q) := by
 obtain ⟨t, ht⟩ : ∃ t : Nat, K = (-q).toNat + t ∧ ((K : Int) + q).toNat = q.toNat + t := ⟨K - (-q).toNat, by omega, by omega⟩
 unfold bet
 rw [ht.2]
 conv => rhs; rw [ht.1]
 rw [Nat.pow_add, Nat.pow_add, show a * (2 ^ (-q).toNat * 2 ^ t) = 2 ^ t * (a * 2 ^ (-q).toNat) by grind, show b * (2 ^ q.toNat * 2 ^ t) = 2 ^ t * (b * 2 ^ q.toNat) by grind, rnd_scale _ _ _ (Nat.two_pow_pos _)]
theorem flog_eq (a b K : Nat) (z : Int) (ha : 0 < a) (hb : 0 < b) (hz : 0 ≤ (K : Int) + z) (hf : 0 ≤ (K : Int) + flog a b) (h1 : bet b K z ≤ a * 2 ^ K) (h2 : a * 2 ^ K < bet b K (z + 1)) : flog a b = z := by
 obtain ⟨g1, g2⟩ := flog_spec a b ha hb
 rw [le2_bet _ a b K hf] at g1
 rw [le2_bet _ a b K (by omega)] at g2
 have mono : ∀ u v : Int, 0 ≤ (K : Int) + u → u ≤ v → bet b K u ≤ bet b K v := by
  intro u v hu huv
  unfold bet
  exact Nat.mul_le_mul_left _ (Nat.pow_le_pow_right (by decide) (by omega))
 rcases Int.lt_trichotomy (flog a b) z with h | h | h
 ·have := mono (flog a b + 1) z (by omega) (by omega); omega
 ·exact h
 ·have := mono (z + 1) (flog a b) (by omega) (by omega); omega
def wordN (D : Nat) (qmin q : Int) (m : Nat) : Nat := if m < 2 ^ (D - 1) then m else (q - qmin).toNat * 2 ^ (D - 1) + m
def inHi (A B m : Nat) : Prop := 2 * A < (2 * m + 1) * B ∨ (2 * A = (2 * m + 1) * B ∧ m % 2 = 0)
def inLo (asym : Prop) (A B m : Nat) : Prop := (asym ∧ 4 * m * B ≤ 4 * A + B) ∨ (¬ asym ∧ (2 * m * B < 2 * A + B ∨ (2 * m * B = 2 * A + B ∧ m % 2 = 0)))
theorem inHi_scale (k A B m : Nat) (hk : 0 < k) : inHi (k * A) (k * B) m ↔ inHi A B m := by
 unfold inHi
 rw [show 2 * (k * A) = k * (2 * A) by grind, show (2 * m + 1) * (k * B) = k * ((2 * m + 1) * B) by grind, Nat.mul_lt_mul_left hk, Nat.mul_right_inj (by omega)]
theorem inLo_scale (s : Prop) (k A B m : Nat) (hk : 0 < k) : inLo s (k * A) (k * B) m ↔ inLo s A B m := by
 unfold inLo
 rw [show 4 * m * (k * B) = k * (4 * m * B) by grind, show 4 * (k * A) + k * B = k * (4 * A + B) by grind, show 2 * m * (k * B) = k * (2 * m * B) by grind,
  show 2 * (k * A) + k * B = k * (2 * A + B) by grind, Nat.mul_lt_mul_left hk, Nat.mul_le_mul_left_iff hk, Nat.mul_right_inj (by omega)]
theorem word_lt (P x y m n : Nat) (hx : x * P + m = y * P + n) (hm : P ≤ m ∧ m < 2 * P) (hn : P ≤ n ∧ n < 2 * P) : x = y ∧ m = n := by
 rcases Nat.lt_trichotomy x y with h | h | h
 ·exfalso
  have := Nat.mul_le_mul_right P (show x + 1 ≤ y from h)
  rw [Nat.add_mul] at this; omega
 ·subst h; exact ⟨rfl, by omega⟩
 ·exfalso
  have := Nat.mul_le_mul_right P (show y + 1 ≤ x from h)
  rw [Nat.add_mul] at this; omega
theorem near_iff (D : Nat) (least most : Int) (d : Nat) (x : Int) (m : Nat) (q : Int) (hD : 2 ≤ D) (hd : 0 < d)
  (hm1 : 1 ≤ m) (hm2 : m < 2 ^ D) (hq : least - D + 1 ≤ q) (hq2 : q + D - 1 ≤ most) (hcan : m < 2 ^ (D - 1) → q = least - D + 1) :
  nearestN D least most d x = some (wordN D (least - D + 1) q m) ↔
   (inLo (m = 2 ^ (D - 1) ∧ least - D + 1 < q) (d * 10 ^ x.toNat * 2 ^ (-q).toNat) (10 ^ (-x).toNat * 2 ^ q.toNat) m ∧
    inHi (d * 10 ^ x.toNat * 2 ^ (-q).toNat) (10 ^ (-x).toNat * 2 ^ q.toNat) m) := by
 have hap : 0 < d * 10 ^ x.toNat := Nat.mul_pos hd (Nat.pow_pos (by decide))
 have hbp : 0 < 10 ^ (-x).toNat := Nat.pow_pos (by decide)
 unfold nearestN
 rw [if_neg (by omega)]
 simp only []
 generalize d * 10 ^ x.toNat = a at *
 generalize 10 ^ (-x).toNat = b at *
 obtain ⟨P, hP⟩ : ∃ P, P = 2 ^ (D - 1) := ⟨_, rfl⟩
 have hP2 : 2 ^ D = 2 * P := by rw [hP, ← Nat.pow_succ']; congr 1; omega
 have hPp : 0 < P := by rw [hP]; exact Nat.two_pow_pos _
 have hPe : P % 2 = 0 := by rw [hP, show D - 1 = (D - 2) + 1 by omega, Nat.pow_succ]; omega
 rw [← hP] at hcan ⊢
 rw [hP2] at hm2
 obtain ⟨K, hK⟩ : ∃ K : Nat, K = q.natAbs + D + (flog a b).natAbs + least.natAbs + 10 := ⟨_, rfl⟩
 obtain ⟨e, he⟩ : ∃ e, e = max (flog a b) least := ⟨_, rfl⟩
 rw [← he, hP2]
 have hKq : 0 ≤ (K : Int) + q := by omega
 have hKe : 0 ≤ (K : Int) + (e - D + 1) := by omega
 rw [rnd_bet a b K (e - D + 1) hKe]
 have hsc : ∀ (s : Prop), (inLo s (a * 2 ^ (-q).toNat) (b * 2 ^ q.toNat) m ↔ inLo s (a * 2 ^ K) (bet b K q) m) ∧ (inHi (a * 2 ^ (-q).toNat) (b * 2 ^ q.toNat) m ↔ inHi (a * 2 ^ K) (bet b K q) m) := by
  intro s
  obtain ⟨t, ht⟩ : ∃ t : Nat, K = (-q).toNat + t ∧ ((K : Int) + q).toNat = q.toNat + t := ⟨K - (-q).toNat, by omega, by omega⟩
  have e1 : a * 2 ^ K = 2 ^ t * (a * 2 ^ (-q).toNat) := by
   conv => lhs; rw [ht.1]
   rw [Nat.pow_add]; grind
  have e2 : bet b K q = 2 ^ t * (b * 2 ^ q.toNat) := by unfold bet; rw [ht.2, Nat.pow_add]; grind
  rw [e1, e2]
  exact ⟨(inLo_scale s _ _ _ _ (Nat.two_pow_pos _)).symm, (inHi_scale _ _ _ _ (Nat.two_pow_pos _)).symm⟩
 rw [(hsc _).1, (hsc True).2]
 clear hsc
 have hbq := bet_pos b K q hbp
 have hbe := bet_pos b K (e - D + 1) hbp
 have hqlt : a * 2 ^ K < bet b K (flog a b + 1) := by
  have := (flog_spec a b hap hbp).2
  rw [le2_bet _ a b K (by omega)] at this; omega
 have hqge : bet b K (flog a b) ≤ a * 2 ^ K := (le2_bet _ a b K (by omega)).1 (flog_spec a b hap hbp).1
 have hfe := fun z h0 h1 h2 => flog_eq a b K z hap hbp h0 (by omega) h1 h2
 have badd := fun z n h => bet_add b K z n h
 clear hap hbp
 generalize a * 2 ^ K = A at *
 have hmono : ∀ u v : Int, 0 ≤ (K : Int) + u → u ≤ v → bet b K u ≤ bet b K v := by
  intro u v hu huv
  unfold bet
  exact Nat.mul_le_mul_left _ (Nat.pow_le_pow_right (by decide) (by omega))
 have hA2 : A < 2 * P * bet b K (e - D + 1) := by
  have h1 := hmono (flog a b + 1) (e + 1) (by omega) (by omega)
  have h2 := badd (e - D + 1) D hKe
  rw [show e - (D : Int) + 1 + (D : Nat) = e + 1 by omega, hP2] at h2
  omega
 have hbD1 : ∀ z : Int, 0 ≤ (K : Int) + z → bet b K (z + D - 1) = P * bet b K z := by
  intro z hz
  have := badd z (D - 1) hz
  rw [← hP, show z + ((D - 1 : Nat) : Int) = z + D - 1 by omega] at this
  exact this
 have hb2 : ∀ z : Int, 0 ≤ (K : Int) + z → bet b K (z + 1) = 2 * bet b K z := by
  intro z hz
  have := badd z 1 hz
  simpa using this
 constructor
 ·
  intro hn
  obtain ⟨g1, g2⟩ := rnd_spec A (bet b K (e - D + 1)) hbe
  obtain ⟨m', hm'⟩ : ∃ m', m' = rnd A (bet b K (e - D + 1)) := ⟨_, rfl⟩
  rw [← hm'] at hn g1 g2
  have hm'le : m' ≤ 2 * P := by
   rcases Nat.lt_or_ge (2 * P) m' with h | h
   ·exfalso
    have h5 := Nat.mul_le_mul_right (bet b K (e - D + 1)) (show 2 * (2 * P + 1) ≤ 2 * m' by omega)
    have e5 : 2 * (2 * P + 1) * bet b K (e - D + 1) = 2 * (2 * P * bet b K (e - D + 1)) + 2 * bet b K (e - D + 1) := by grind
    omega
   ·exact h
  by_cases hof : m' = 2 * P
  ·rw [if_pos hof] at hn
   by_cases hov : e + 1 > most
   ·rw [if_pos hov] at hn; cases hn
   ·rw [if_neg hov] at hn
    injection hn with hn
    unfold wordN at hn
    rw [← hP] at hn
    have hmP : ¬ m < P := by
     intro h; rw [if_pos h] at hn
     have : (1 : Nat) * P ≤ (e + 1 - least).toNat * P := Nat.mul_le_mul_right _ (by omega)
     omega
    rw [if_neg hmP] at hn
    obtain ⟨w1, w2⟩ := word_lt P _ _ _ _ hn ⟨Nat.le_refl _, by omega⟩ ⟨by omega, hm2⟩
    have hqe : q = e - D + 1 + 1 := by omega
    subst hqe
    subst w2
    rw [hb2 _ hKe]
    generalize bet b K (e - D + 1) = B at *
    rw [hof] at g1 g2
    refine ⟨.inl ⟨⟨rfl, by omega⟩, ?_⟩, .inl ?_⟩
    ·have e5 : 4 * P * (2 * B) = 2 * (2 * (2 * P) * B) := by grind
     rw [e5]; omega
    ·have e6 : (2 * P + 1) * (2 * B) = 2 * (2 * P * B) + 2 * B := by grind
     rw [e6]; omega
  ·rw [if_neg hof] at hn
   by_cases hov : e > most
   ·rw [if_pos hov] at hn; cases hn
   ·rw [if_neg hov] at hn
    by_cases hmP : m' < P
    ·rw [if_pos hmP] at hn
     injection hn with hn
     unfold wordN at hn
     rw [← hP] at hn
     have hmlt : m < P := by
      rcases Nat.lt_or_ge m P with h | h
      ·exact h
      ·rw [if_neg (by omega)] at hn; have := Nat.zero_le ((q - (least - D + 1)).toNat * P); omega
     rw [if_pos hmlt] at hn
     have hel : e = least := by
      rcases Int.le_total (flog a b) least with h | h
      ·omega
      ·exfalso
       have hef : e = flog a b := by omega
       rw [← hef] at hqge
       have h6 := hbD1 (e - D + 1) hKe
       rw [show e - (D : Int) + 1 + D - 1 = e by omega] at h6
       rw [h6] at hqge
       have h7 := Nat.mul_le_mul_right (bet b K (e - D + 1)) (show 2 * m' + 2 ≤ 2 * P by omega)
       have e7 : (2 * m' + 2) * bet b K (e - D + 1) = 2 * m' * bet b K (e - D + 1) + 2 * bet b K (e - D + 1) := by grind
       have e8 : 2 * P * bet b K (e - D + 1) = 2 * (P * bet b K (e - D + 1)) := by grind
       omega
     have hqe : q = e - D + 1 := by rw [hcan hmlt, hel]
     subst hqe
     subst hn
     generalize bet b K (e - D + 1) = B at *
     refine ⟨.inr ⟨by omega, by omega⟩, ?_⟩
     unfold inHi
     have e5 : (2 * m' + 1) * B = 2 * m' * B + B := by grind
     rw [e5]; omega
    ·rw [if_neg hmP] at hn
     injection hn with hn
     unfold wordN at hn
     rw [← hP] at hn
     have hmlt : ¬ m < P := by
      intro h; rw [if_pos h] at hn; have := Nat.zero_le ((e - least).toNat * P); omega
     rw [if_neg hmlt] at hn
     obtain ⟨w1, w2⟩ := word_lt P _ _ _ _ hn ⟨by omega, by omega⟩ ⟨by omega, hm2⟩
     have hqe : q = e - D + 1 := by omega
     subst hqe
     subst w2
     have hHi : inHi A (bet b K (e - D + 1)) m' := by
      unfold inHi
      have e5 : (2 * m' + 1) * bet b K (e - D + 1) = 2 * m' * bet b K (e - D + 1) + bet b K (e - D + 1) := by grind
      rw [e5]; omega
     refine ⟨?_, hHi⟩
     by_cases has : m' = P ∧ least - D + 1 < e - D + 1
     ·refine .inl ⟨has, ?_⟩
      have hef : e = flog a b := by omega
      rw [← hef] at hqge
      have h6 := hbD1 (e - D + 1) hKe
      rw [show e - (D : Int) + 1 + D - 1 = e by omega] at h6
      rw [h6, ← has.1] at hqge
      have e5 : 4 * m' * bet b K (e - D + 1) = 4 * (m' * bet b K (e - D + 1)) := by grind
      rw [e5]; omega
     ·exact .inr ⟨has, by omega⟩
 ·
  rintro ⟨hLo, hHi⟩
  have hHi2 : 2 * A ≤ 2 * m * bet b K q + bet b K q := by
   unfold inHi at hHi
   have e5 : (2 * m + 1) * bet b K q = 2 * m * bet b K q + bet b K q := by grind
   rw [e5] at hHi; omega
  have hq1 := hbD1 q hKq
  by_cases hcase : P * bet b K q ≤ A
  ·
   have hmP : ¬ m < P := by
    intro h
    have h5 := Nat.mul_le_mul_right (bet b K q) (show 2 * m + 2 ≤ 2 * P by omega)
    have e5 : (2 * m + 2) * bet b K q = 2 * m * bet b K q + 2 * bet b K q := by grind
    have e6 : 2 * P * bet b K q = 2 * (P * bet b K q) := by grind
    omega
   have hlt : A < bet b K (q + D - 1 + 1) := by
    rw [hb2 _ (by omega), hq1]
    have h5 := Nat.mul_le_mul_right (bet b K q) (show 2 * m + 2 ≤ 2 * (2 * P) by omega)
    have e5 : (2 * m + 2) * bet b K q = 2 * m * bet b K q + 2 * bet b K q := by grind
    have e6 : 2 * (2 * P) * bet b K q = 2 * (2 * (P * bet b K q)) := by grind
    omega
   have hfl : flog a b = q + D - 1 := hfe (q + D - 1) (by omega) (by rw [hq1]; exact hcase) hlt
   have heq : e = q + D - 1 := by omega
   have hqe : e - D + 1 = q := by omega
   rw [hqe]
   have hr : rnd A (bet b K q) = m := by
    refine rnd_unique A (bet b K q) m hbq ?_ ?_
    ·rcases hLo with ⟨h1, h2⟩ | ⟨h1, h2⟩
     ·rw [h1.1]
      have e6 : 2 * P * bet b K q = 2 * (P * bet b K q) := by grind
      rw [e6]; left; omega
     ·exact h2
    ·unfold inHi at hHi
     have e5 : (2 * m + 1) * bet b K q = 2 * m * bet b K q + bet b K q := by grind
     rw [e5] at hHi; exact hHi
   rw [hr, if_neg (by omega), if_neg (by omega), if_neg hmP]
   unfold wordN
   rw [← hP, if_neg hmP, heq, show q + (D : Int) - 1 - least = q - (least - D + 1) by omega]
  ·have hcase' : A < P * bet b K q := by omega
   have hflt : flog a b < q + D - 1 := by
    rcases Int.lt_or_le (flog a b) (q + D - 1) with h | h
    ·exact h
    ·exfalso
     have := hmono (q + D - 1) (flog a b) (by omega) h
     rw [hq1] at this; omega
   by_cases hqm : q = least - D + 1
   ·have heq : e = least := by omega
    have hqe : e - D + 1 = q := by omega
    rw [hqe]
    have hr : rnd A (bet b K q) = m := by
     refine rnd_unique A (bet b K q) m hbq ?_ ?_
     ·rcases hLo with ⟨h1, h2⟩ | ⟨h1, h2⟩
      ·omega
      ·exact h2
     ·unfold inHi at hHi
      have e5 : (2 * m + 1) * bet b K q = 2 * m * bet b K q + bet b K q := by grind
      rw [e5] at hHi; exact hHi
    rw [hr, if_neg (by omega), if_neg (by omega)]
    unfold wordN
    rw [← hP]
    by_cases hmP : m < P
    ·rw [if_pos hmP, if_pos hmP]
    ·rw [if_neg hmP, if_neg hmP, heq, hqm]; simp
   ·
    have hmP : ¬ m < P := fun h => hqm (hcan h)
    have hmeq : m = P := by
     rcases hLo with ⟨h1, h2⟩ | ⟨h1, h2⟩
     ·exact h1.1
     ·exfalso
      have hgt : P < m := by
       rcases Nat.lt_or_ge P m with h | h
       ·exact h
       ·exact absurd ⟨by omega, by omega⟩ h1
      have h5 := Nat.mul_le_mul_right (bet b K q) (show 2 * P + 2 ≤ 2 * m by omega)
      have e5 : (2 * P + 2) * bet b K q = 2 * (P * bet b K q) + 2 * bet b K q := by grind
      omega
    subst hmeq
    have hasy : 4 * m * bet b K q ≤ 4 * A + bet b K q := by
     rcases hLo with ⟨h1, h2⟩ | ⟨h1, h2⟩
     ·exact h2
     ·exact absurd ⟨rfl, by omega⟩ h1
    have hbb : bet b K q = 2 * bet b K (q - 1) := by
     have := hb2 (q - 1) (by omega)
     rwa [show q - 1 + 1 = q by omega] at this
    have hq2' := hbD1 (q - 1) (by omega)
    have hb1 : 0 < bet b K (q - 1) := by omega
    rw [hbb] at hasy hcase'
    have e5 : 4 * m * (2 * bet b K (q - 1)) = 8 * (m * bet b K (q - 1)) := by grind
    have e6 : m * (2 * bet b K (q - 1)) = 2 * (m * bet b K (q - 1)) := by grind
    rw [e5] at hasy
    rw [e6] at hcase'
    have hge1 : m * bet b K (q - 1) ≤ A := by
     have : 1 * bet b K (q - 1) ≤ m * bet b K (q - 1) := Nat.mul_le_mul_right _ hm1
     omega
    have hfl : flog a b = q - 1 + D - 1 := by
     refine hfe (q - 1 + D - 1) (by omega) (by rw [hq2']; exact hge1) ?_
     rw [hb2 _ (by omega), hq2']; omega
    have heq : e = q - 1 + D - 1 := by omega
    have hqe : e - D + 1 = q - 1 := by omega
    rw [hqe]
    have hr : rnd A (bet b K (q - 1)) = 2 * m := by
     refine rnd_unique A (bet b K (q - 1)) (2 * m) hb1 ?_ ?_
     ·have e7 : 2 * (2 * m) * bet b K (q - 1) = 4 * (m * bet b K (q - 1)) := by grind
      rw [e7]
      rcases Nat.lt_or_ge (4 * (m * bet b K (q - 1))) (2 * A + bet b K (q - 1)) with h | h
      ·exact .inl h
      ·exact .inr ⟨by omega, by omega⟩
     ·have e7 : 2 * (2 * m) * bet b K (q - 1) = 4 * (m * bet b K (q - 1)) := by grind
      rw [e7]; left; omega
    rw [hr, if_pos rfl, if_neg (by omega)]
    unfold wordN
    rw [← hP, if_neg hmP, show e + 1 - least = q - (least - D + 1) by omega]
def Rd (asym : Prop) (m : Nat) (q p : Int) (d : Nat) : Prop := inLo asym (d * uu p q) (vv p q) m ∧ inHi (d * uu p q) (vv p q) m
theorem Rd_ten (asym : Prop) (m : Nat) (q p : Int) (d : Nat) : Rd asym m q (p + 1) (10 * d) ↔ Rd asym m q p d := by
 unfold Rd
 rcases Int.lt_or_le p 0 with h | h
 ·have e1 : 10 * d * uu (p + 1) q = d * uu p q := by
   unfold uu
   rw [show (-p).toNat = (-(p + 1)).toNat + 1 by omega, Nat.pow_succ]; grind
  have e2 : vv (p + 1) q = vv p q := by
   unfold vv
   rw [show (p + 1).toNat = p.toNat by omega]
  rw [e1, e2]
 ·have e1 : 10 * d * uu (p + 1) q = 10 * (d * uu p q) := by
   unfold uu
   rw [show (-(p + 1)).toNat = (-p).toNat by omega]; grind
  have e2 : vv (p + 1) q = 10 * vv p q := by
   unfold vv
   rw [show (p + 1).toNat = p.toNat + 1 by omega, Nat.pow_succ]; grind
  rw [e1, e2, inLo_scale _ _ _ _ _ (by decide), inHi_scale _ _ _ _ (by decide)]
theorem Rd_tens (asym : Prop) (m : Nat) (q : Int) (d : Nat) : ∀ (k : Nat) (p : Int), Rd asym m q p d ↔ Rd asym m q (p + k) (10 ^ k * d) := by
 intro k
 induction k with
 | zero => intro p; simp
 | succ k ih =>
  intro p
  rw [ih p, show p + ((k + 1 : Nat) : Int) = p + k + 1 by omega, Nat.pow_succ, show 10 ^ k * 10 * d = 10 * (10 ^ k * d) by grind, Rd_ten]
def dminN (asym : Prop) [Decidable asym] (m : Nat) (q p : Int) : Nat :=
 let y := if asym then 4 * m - 1 else 4 * m - 2
 if m % 2 = 1 then y * vv p q / (4 * uu p q) + 1 else cei (y * vv p q) (4 * uu p q)
def dmaxN (m : Nat) (q p : Int) : Nat :=
 if m % 2 = 1 then cei ((4 * m + 2) * vv p q) (4 * uu p q) - 1 else (4 * m + 2) * vv p q / (4 * uu p q)
theorem cei_le (a b d : Nat) (hb : 0 < b) : cei a b ≤ d ↔ a ≤ b * d := by
 unfold cei
 rw [Nat.div_le_iff_le_mul_add_pred hb]; omega
theorem lt_cei (a b d : Nat) (hb : 0 < b) : d < cei a b ↔ b * d < a := by
 have := cei_le a b d hb; omega
theorem inLo_iff (asym : Prop) [Decidable asym] (m : Nat) (q p : Int) (d : Nat) (hm : 1 ≤ m) (hae : asym → m % 2 = 0) :
  inLo asym (d * uu p q) (vv p q) m ↔ dminN asym m q p ≤ d := by
 have hu := uu_pos p q
 have hv := vv_pos p q
 unfold inLo dminN
 generalize uu p q = u at *
 generalize vv p q = v at *
 have e1 : 2 * (d * u) = 2 * d * u := by grind
 have e2 : 4 * u * d = 2 * (2 * d * u) := by grind
 have e3 : 4 * (d * u) = 2 * (2 * d * u) := by grind
 by_cases h : asym
 ·simp only [h, if_true, true_and, not_true, false_and, or_false]
  rw [if_neg (by have := hae h; omega), cei_le _ _ _ (by omega), e2, e3]
  have e4 : (4 * m - 1) * v + v = 4 * m * v := by rw [← Nat.succ_mul]; congr 1; omega
  omega
 ·simp only [h, if_false, false_and, not_false_eq_true, true_and, false_or]
  have e4 : (4 * m - 2) * v + 2 * v = 4 * m * v := by rw [← Nat.add_mul]; congr 1; omega
  have e5 : 4 * m * v = 2 * (2 * m * v) := by grind
  rw [e1]
  by_cases ho : m % 2 = 1
  ·rw [if_pos ho]
   have h3 : (4 * m - 2) * v / (4 * u) + 1 ≤ d ↔ (4 * m - 2) * v < 4 * u * d := by
    rw [Nat.succ_le_iff, Nat.div_lt_iff_lt_mul (by omega), Nat.mul_comm d]
   rw [h3, e2]
   omega
  ·rw [if_neg ho, cei_le _ _ _ (by omega), e2]
   omega
theorem inHi_iff (m : Nat) (q p : Int) (d : Nat) (hm : 1 ≤ m) : inHi (d * uu p q) (vv p q) m ↔ d ≤ dmaxN m q p := by
 have hu := uu_pos p q
 have hv := vv_pos p q
 unfold inHi dmaxN
 generalize uu p q = u at *
 generalize vv p q = v at *
 have e2 : 4 * u * d = 2 * (2 * (d * u)) := by grind
 have e4 : (4 * m + 2) * v = 2 * ((2 * m + 1) * v) := by grind
 have hpos : 0 < (2 * m + 1) * v := Nat.mul_pos (by omega) hv
 by_cases ho : m % 2 = 1
 ·rw [if_pos ho]
  have h1 : 1 ≤ cei ((4 * m + 2) * v) (4 * u) := by
   have := (lt_cei ((4 * m + 2) * v) (4 * u) 0 (by omega)).2 (by omega); omega
  have h2 := lt_cei ((4 * m + 2) * v) (4 * u) d (by omega)
  rw [e4, e2] at h2
  rw [e4] at h1 ⊢
  omega
 ·rw [if_neg ho, Nat.le_div_iff_mul_le (by omega), show d * (4 * u) = 2 * (2 * (d * u)) by grind, e4]
  omega
theorem Rd_iff (asym : Prop) [Decidable asym] (m : Nat) (q p : Int) (d : Nat) (hm : 1 ≤ m) (hae : asym → m % 2 = 0) :
  Rd asym m q p d ↔ dminN asym m q p ≤ d ∧ d ≤ dmaxN m q p := by
 unfold Rd; rw [inLo_iff asym m q p d hm hae, inHi_iff m q p d hm]
theorem Rd_near (asym : Prop) (m : Nat) (q p : Int) (d : Nat) (h : Rd asym m q p d) :
  Rd asym m q p (m * vv p q / uu p q) ∨ Rd asym m q p (m * vv p q / uu p q + 1) := by
 have hu := uu_pos p q
 have hv := vv_pos p q
 unfold Rd inLo inHi at *
 generalize uu p q = u at *
 generalize vv p q = v at *
 have hdm := Nat.div_add_mod (m * v) u
 have hml := Nat.mod_lt (m * v) hu
 generalize m * v / u = l at *
 generalize m * v % u = r at *
 have e1 : 2 * m * v = 2 * (u * l + r) := by rw [hdm]; grind
 have e2 : 4 * m * v = 4 * (u * l + r) := by rw [hdm]; grind
 have e3 : (2 * m + 1) * v = 2 * (u * l + r) + v := by rw [hdm]; grind
 have e4 : 2 * (l * u) = 2 * (u * l) := by grind
 have e5 : 4 * (l * u) = 4 * (u * l) := by grind
 have e6 : 2 * ((l + 1) * u) = 2 * (u * l) + 2 * u := by grind
 have e7 : 4 * ((l + 1) * u) = 4 * (u * l) + 4 * u := by grind
 obtain ⟨hLo, hHi⟩ := h
 rw [e1, e2] at hLo
 rw [e3] at hHi
 rw [e1, e2, e3, e4, e5, e6, e7]
 clear e1 e2 e3 hdm
 rcases Nat.lt_or_ge l d with hd | hd
 ·right
  have h1 := Nat.mul_le_mul_right u (show l + 1 ≤ d from hd)
  refine ⟨?_, ?_⟩
  ·rcases hLo with ⟨s, _⟩ | ⟨s, _⟩
   ·exact .inl ⟨s, by omega⟩
   ·exact .inr ⟨s, .inl (by omega)⟩
  ·omega
 ·left
  have h1 := Nat.mul_le_mul_right u hd
  refine ⟨?_, ?_⟩
  ·rcases hLo with ⟨s, _⟩ | ⟨s, _⟩
   ·exact .inl ⟨s, by omega⟩
   ·exact .inr ⟨s, by omega⟩
  ·left; omega
def goPick (asym : Prop) [Decidable asym] (m : Nat) (q p : Int) : Nat × Int :=
 if dminN asym m q p ≤ dmaxN m q p / 10 * 10 then (dmaxN m q p / 10, p - 1)
 else if dminN asym m q p < dmaxN m q p then (rnd (m * vv p q) (uu p q), p) else (dminN asym m q p, p)
def refPick (asym : Prop) [Decidable asym] (m : Nat) (q p : Int) : Nat :=
 let l := m * vv p q / uu p q
 let r := m * vv p q % uu p q
 if (dminN asym m q p ≤ l + 1 ∧ l + 1 ≤ dmaxN m q p) ∧ (¬ (dminN asym m q p ≤ l ∧ l ≤ dmaxN m q p) ∨ uu p q < 2 * r ∨ (2 * r = uu p q ∧ l % 2 = 1)) then l + 1 else l
theorem pick_rnd (asym : Prop) [Decidable asym] (m : Nat) (q p : Int) (hm : 1 ≤ m) (hae : asym → m % 2 = 0) (h : dminN asym m q p < dmaxN m q p) :
  refPick asym m q p = rnd (m * vv p q) (uu p q) := by
 have hu := uu_pos p q
 have hv := vv_pos p q
 have R := fun d => Rd_iff asym m q p d hm hae
 have hmin := (R (dminN asym m q p)).2 ⟨Nat.le_refl _, by omega⟩
 have hmax := (R (dmaxN m q p)).2 ⟨by omega, Nat.le_refl _⟩
 have R1 := R (m * vv p q / uu p q)
 have R2 := R (m * vv p q / uu p q + 1)
 unfold refPick rnd
 simp only []
 have hnear := Rd_near asym m q p _ hmin
 have Rlo := R (m * vv p q / uu p q - 1)
 have Rhi := R (m * vv p q / uu p q + 2)
 have hup : ¬ Rd asym m q p (m * vv p q / uu p q) → Rd asym m q p (m * vv p q / uu p q + 2) := by
  intro hn
  rw [R1] at hn
  rw [Rhi]
  have h1 : Rd asym m q p (m * vv p q / uu p q + 1) := by
   rcases hnear with h' | h'
   ·exact absurd (R1.1 h') hn
   ·exact h'
  have := R2.1 h1
  omega
 have hdn : ¬ Rd asym m q p (m * vv p q / uu p q + 1) → Rd asym m q p (m * vv p q / uu p q - 1) ∧ 1 ≤ m * vv p q / uu p q := by
  intro hn
  rw [R2] at hn
  have h1 : Rd asym m q p (m * vv p q / uu p q) := by
   rcases hnear with h' | h'
   ·exact h'
   ·exact absurd (R2.1 h') hn
  have := R1.1 h1
  rw [Rlo]
  omega
 clear R Rlo Rhi hmin hmax h
 unfold Rd inLo inHi at *
 generalize uu p q = u at *
 generalize vv p q = v at *
 have hdm := Nat.div_add_mod (m * v) u
 have hml := Nat.mod_lt (m * v) hu
 generalize m * v / u = l at *
 generalize m * v % u = r at *
 have e1 : 2 * m * v = 2 * (u * l + r) := by rw [hdm]; grind
 have e2 : 4 * m * v = 4 * (u * l + r) := by rw [hdm]; grind
 have e3 : (2 * m + 1) * v = 2 * (u * l + r) + v := by rw [hdm]; grind
 have e4 : 2 * (l * u) = 2 * (u * l) := by grind
 have e5 : 4 * (l * u) = 4 * (u * l) := by grind
 have e6 : 2 * ((l + 1) * u) = 2 * (u * l) + 2 * u := by grind
 have e7 : 4 * ((l + 1) * u) = 4 * (u * l) + 4 * u := by grind
 have e8 : 2 * ((l + 2) * u) = 2 * (u * l) + 4 * u := by grind
 have e9 : 4 * ((l + 2) * u) = 4 * (u * l) + 8 * u := by grind
 rw [e1, e2, e3, e4, e5, e8, e9] at hup
 rw [e1, e2, e3, e6, e7] at hdn
 rw [e1, e2, e3, e4, e5, e6, e7] at hnear
 rw [e1, e2, e3, e4, e5] at R1
 rw [e1, e2, e3, e6, e7] at R2
 have e10 : 1 ≤ l → 2 * ((l - 1) * u) + 2 * u = 2 * (u * l) ∧ 4 * ((l - 1) * u) + 4 * u = 4 * (u * l) := by
  intro hl
  obtain ⟨k, rfl⟩ : ∃ k, l = k + 1 := ⟨l - 1, by omega⟩
  simp only [Nat.add_sub_cancel]
  constructor <;> grind
 clear e1 e2 e3 e4 e5 e6 e7 e8 e9 hdm
 by_cases h1 : ((asym ∧ 4 * (u * l + r) ≤ 4 * (u * l) + v) ∨ (¬ asym ∧ (2 * (u * l + r) < 2 * (u * l) + v ∨ 2 * (u * l + r) = 2 * (u * l) + v ∧ m % 2 = 0))) ∧ (2 * (u * l) < 2 * (u * l + r) + v ∨ 2 * (u * l) = 2 * (u * l + r) + v ∧ m % 2 = 0)
 ·by_cases h2 : ((asym ∧ 4 * (u * l + r) ≤ 4 * (u * l) + 4 * u + v) ∨ (¬ asym ∧ (2 * (u * l + r) < 2 * (u * l) + 2 * u + v ∨ 2 * (u * l + r) = 2 * (u * l) + 2 * u + v ∧ m % 2 = 0))) ∧ (2 * (u * l) + 2 * u < 2 * (u * l + r) + v ∨ 2 * (u * l) + 2 * u = 2 * (u * l + r) + v ∧ m % 2 = 0)
  ·
   by_cases h3 : 2 * r > u ∨ 2 * r = u ∧ l % 2 = 1
   ·rw [if_pos h3, if_pos ⟨R2.1 h2, .inr (by omega)⟩]
   ·rw [if_neg h3, if_neg]
    rintro ⟨_, g | g⟩
    ·exact g (R1.1 h1)
    ·omega
  ·
   obtain ⟨⟨gLo, gHi⟩, gl⟩ := hdn h2
   have e10 := e10 gl
   rw [if_neg (fun g => h2 (R2.2 g.1)), if_neg]
   rcases gLo with ⟨s, g⟩ | ⟨s, g⟩
   ·have : ¬ (2 * (u * l) + 2 * u < 2 * (u * l + r) + v ∨ 2 * (u * l) + 2 * u = 2 * (u * l + r) + v ∧ m % 2 = 0) := fun g' => h2 ⟨.inl ⟨s, by omega⟩, g'⟩
    omega
   ·have : ¬ (2 * (u * l) + 2 * u < 2 * (u * l + r) + v ∨ 2 * (u * l) + 2 * u = 2 * (u * l + r) + v ∧ m % 2 = 0) := fun g' => h2 ⟨.inr ⟨s, .inl (by omega)⟩, g'⟩
    omega
 ·have h2 : ((asym ∧ 4 * (u * l + r) ≤ 4 * (u * l) + 4 * u + v) ∨ (¬ asym ∧ (2 * (u * l + r) < 2 * (u * l) + 2 * u + v ∨ 2 * (u * l + r) = 2 * (u * l) + 2 * u + v ∧ m % 2 = 0))) ∧ (2 * (u * l) + 2 * u < 2 * (u * l + r) + v ∨ 2 * (u * l) + 2 * u = 2 * (u * l + r) + v ∧ m % 2 = 0) := by
   rcases hnear with h | h
   ·exact absurd h h1
   ·exact h
  obtain ⟨gLo, gHi⟩ := hup h1
  rw [if_pos ⟨R2.1 h2, .inl (fun g => h1 (R1.2 g))⟩, if_pos]
  have hHi0 : 2 * (u * l) < 2 * (u * l + r) + v := by omega
  have hLo0 : ¬ ((asym ∧ 4 * (u * l + r) ≤ 4 * (u * l) + v) ∨ (¬ asym ∧ (2 * (u * l + r) < 2 * (u * l) + v ∨ 2 * (u * l + r) = 2 * (u * l) + v ∧ m % 2 = 0))) := fun g => h1 ⟨g, .inl hHi0⟩
  by_cases s : asym
  ·have : ¬ 4 * (u * l + r) ≤ 4 * (u * l) + v := fun g => hLo0 (.inl ⟨s, g⟩)
   left; omega
  ·have : ¬ (2 * (u * l + r) < 2 * (u * l) + v ∨ 2 * (u * l + r) = 2 * (u * l) + v ∧ m % 2 = 0) := fun g => hLo0 (.inr ⟨s, g⟩)
   left; omega
theorem select (asym : Prop) [Decidable asym] (m : Nat) (q p ee : Int) (N : Nat) (hm : 1 ≤ m) (hae : asym → m % 2 = 0)
  (hw1 : dminN asym m q p ≤ dmaxN m q p) (hw2 : dmaxN m q p ≤ dminN asym m q p + 9) (hN1 : 1 ≤ N)
  (hbad : ∀ n : Nat, 1 ≤ n → n < N → ∀ d, ¬ Rd asym m q ((n : Int) - ee) d) (rp : Nat) (hrp : rp = refPick asym m q ((N : Int) - ee))
  (hgood : Rd asym m q ((N : Int) - ee) rp) (hn0 : 1 ≤ p + ee) (hlim : rp ≤ 10 ^ N) (hrp0 : 1 ≤ rp)
  (htiny : p + ee = 1 → dminN asym m q p ≤ dmaxN m q p / 10 * 10 → refPick asym m q p = 10) :
  ∃ k : Nat, ((goPick asym m q p).1 = rp * 10 ^ k ∧ (goPick asym m q p).2 = (N : Int) - ee + k ∧ rp % 10 ≠ 0) ∨
   (rp = 10 ∧ N = 1 ∧ (goPick asym m q p).1 = 10 ^ k ∧ (goPick asym m q p).2 = (k : Int) - ee) := by
 have R := fun p d => Rd_iff asym m q p d hm hae
 obtain ⟨n0, hn⟩ : ∃ n0 : Nat, (n0 : Int) = p + ee := ⟨(p + ee).toNat, by omega⟩
 have hp : p = (n0 : Int) - ee := by omega
 have hNn : N ≤ n0 := by
  rcases Nat.lt_or_ge n0 N with h | h
  ·exfalso
   refine hbad n0 (by omega) h (dminN asym m q p) ?_
   rw [← hp, R]; exact ⟨Nat.le_refl _, hw1⟩
  ·exact h
 have hzero : rp % 10 = 0 → N = 1 ∧ rp = 10 := by
  intro h0
  have h1 : rp = 10 * (rp / 10) := by omega
  have h2 : Rd asym m q ((N : Int) - ee - 1) (rp / 10) := by
   rw [← Rd_ten, ← h1, show (N : Int) - ee - 1 + 1 = (N : Int) - ee by omega]; exact hgood
  have hN : N = 1 := by
   rcases Nat.lt_or_ge 1 N with h | h
   ·exfalso
    refine hbad (N - 1) (by omega) (by omega) (rp / 10) ?_
    rwa [show ((N - 1 : Nat) : Int) - ee = (N : Int) - ee - 1 by omega]
   ·omega
  subst hN
  refine ⟨rfl, ?_⟩
  simp at hlim
  omega
 unfold goPick
 by_cases hA : dminN asym m q p ≤ dmaxN m q p / 10 * 10
 ·rw [if_pos hA]
  have hten : Rd asym m q p (10 * (dmaxN m q p / 10)) := by rw [R]; omega
  have ht : Rd asym m q (p - 1) (dmaxN m q p / 10) := by
   rw [← Rd_ten, show p - 1 + 1 = p by omega]; exact hten
  have huniq : ∀ d, Rd asym m q (p - 1) d → d = dmaxN m q p / 10 := by
   intro d h
   rw [← Rd_ten, show p - 1 + 1 = p by omega, R] at h
   rw [R] at hten
   omega
  simp only []
  rcases Nat.lt_or_ge N n0 with h | h
  ·obtain ⟨k0, hk⟩ : ∃ k0 : Nat, p - 1 = (N : Int) - ee + k0 := ⟨(p - 1 - ((N : Int) - ee)).toNat, by omega⟩
   have h1 := (Rd_tens asym m q rp k0 ((N : Int) - ee)).1 hgood
   rw [← hk] at h1
   have h2 := huniq _ h1
   by_cases h0 : rp % 10 = 0
   ·obtain ⟨hN, hr⟩ := hzero h0
    refine ⟨k0 + 1, .inr ⟨hr, hN, ?_, by omega⟩⟩
    rw [← h2, hr, Nat.pow_succ]
   ·exact ⟨k0, .inl ⟨by rw [← h2, Nat.mul_comm], hk, h0⟩⟩
  ·have hNe : N = n0 := by omega
   have hn1 : n0 = 1 := by
    rcases Nat.lt_or_ge 1 n0 with h' | h'
    ·exfalso
     refine hbad (n0 - 1) (by omega) (by omega) (dmaxN m q p / 10) ?_
     rwa [show ((n0 - 1 : Nat) : Int) - ee = p - 1 by omega]
    ·omega
   have hp10 : rp = 10 := by
    rw [hrp, hNe, ← hp]
    exact htiny (by omega) hA
   have h1 : (1 : Nat) = dmaxN m q p / 10 := by
    apply huniq
    rw [← Rd_ten, show p - 1 + 1 = p by omega]
    rw [hp10, hNe, ← hp] at hgood
    exact hgood
   exact ⟨0, .inr ⟨hp10, by omega, by rw [← h1], by omega⟩⟩
 ·rw [if_neg hA]
  have hnoten : ∀ s, ¬ Rd asym m q p (10 * s) := by
   intro s h
   rw [R] at h
   omega
  have hNe : N = n0 := by
   rcases Nat.lt_or_ge N n0 with h | h
   ·exfalso
    obtain ⟨k0, hk⟩ : ∃ k0 : Nat, p = (N : Int) - ee + ((k0 + 1 : Nat) : Int) := ⟨(p - 1 - ((N : Int) - ee)).toNat, by omega⟩
    have h1 := (Rd_tens asym m q rp (k0 + 1) ((N : Int) - ee)).1 hgood
    rw [← hk, Nat.pow_succ, Nat.mul_comm (10 ^ k0), Nat.mul_assoc] at h1
    exact hnoten _ h1
   ·omega
  have hpN : (N : Int) - ee = p := by omega
  rw [hpN] at hgood hrp ⊢
  have hne : rp % 10 ≠ 0 := by
   intro h0
   refine hnoten (rp / 10) ?_
   rw [show 10 * (rp / 10) = rp by omega]; exact hgood
  refine ⟨0, .inl ⟨?_, ?_, hne⟩⟩
  ·by_cases hl : dminN asym m q p < dmaxN m q p
   ·rw [if_pos hl, ← pick_rnd asym m q p hm hae hl, ← hrp]; simp
   ·rw [if_neg hl]
    rw [R] at hgood
    simp; omega
  ·split <;> simp
end Go.Proofs.YtepfodmbjojdbaaGreatDoor.Num
