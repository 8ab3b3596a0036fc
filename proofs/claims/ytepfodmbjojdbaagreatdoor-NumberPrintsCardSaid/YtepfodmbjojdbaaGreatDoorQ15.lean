/- NumberPrints: plain arithmetic: the reference's printed float is the program's. No conditions beyond each theorem's own. -/
import Derived.Test.YtepfodmbjojdbaaGreatDoorQ07
import Derived.Test.YtepfodmbjojdbaaGreatDoorQ11
import Derived.Test.YtepfodmbjojdbaaGreatDoorQ12
import Derived.Test.YtepfodmbjojdbaaGreatDoorQ05
import Derived.Test.YtepfodmbjojdbaaGreatDoorQ01
set_option linter.all false
namespace Go.Proofs.YtepfodmbjojdbaaGreatDoor.Num
open Go _root_.Nm
section
set_option maxRecDepth 1000000
def KindF (D : Nat) (least most : Int) : Prop := (D = 24 ∧ least = -126 ∧ most = 127) ∨ (D = 53 ∧ least = -1022 ∧ most = 1023)
theorem wordParts (D : Nat) (least most : Int) (hK : KindF D least most) (W : Nat) (h1 : 1 ≤ W) (h2 : W < (most - least + 2).toNat * 2 ^ (D - 1)) :
  1 ≤ mOf W (2 ^ (D - 1)) ∧ mOf W (2 ^ (D - 1)) < 2 ^ D ∧ least - D + 1 ≤ qOf D least W (2 ^ (D - 1)) ∧ qOf D least W (2 ^ (D - 1)) + D - 1 ≤ most ∧
   (mOf W (2 ^ (D - 1)) < 2 ^ (D - 1) → qOf D least W (2 ^ (D - 1)) = least - D + 1) ∧ wordN D (least - D + 1) (qOf D least W (2 ^ (D - 1))) (mOf W (2 ^ (D - 1))) = W := by
 have hD : 2 ^ D = 2 * 2 ^ (D - 1) := by
  rw [← Nat.pow_succ']; congr 1; rcases hK with h | h <;> omega
 have hP : 0 < 2 ^ (D - 1) := Nat.two_pow_pos _
 rw [hD]
 unfold wordN mOf qOf
 generalize 2 ^ (D - 1) = P at *
 clear hD
 have hdm := Nat.div_add_mod W P
 have hml := Nat.mod_lt W hP
 have hf : W / P < (most - least + 2).toNat := Nat.div_lt_of_lt_mul (by rw [Nat.mul_comm]; exact h2)
 generalize W / P = f at *
 generalize W % P = r at *
 rcases Nat.eq_zero_or_pos f with h0 | h0
 ·subst h0
  simp at hdm ⊢
  subst hdm
  rcases hK with ⟨rfl, rfl, rfl⟩ | ⟨rfl, rfl, rfl⟩ <;> refine ⟨by omega, by omega, by omega, ?_⟩ <;> simp [hml]
 ·rw [if_pos h0, if_pos h0]
  refine ⟨by omega, by omega, by omega, by omega, fun h => by omega, ?_⟩
  rw [if_neg (by omega)]
  have : (least - (D : Int) + 1 + (f : Int) - 1 - (least - D + 1)).toNat = f - 1 := by omega
  rw [this]
  obtain ⟨g, rfl⟩ : ∃ g, f = g + 1 := ⟨f - 1, by omega⟩
  rw [Nat.mul_add, Nat.mul_comm P] at hdm
  simp only [Nat.add_sub_cancel]
  omega
def e0of (t : Int) : Int := Int.tdiv (t * 30103) 100000 - 2
def eOk (t : Int) : Bool :=
 decide (10 ^ (e0of t - 1).toNat * 2 ^ (-(t - 1)).toNat ≤ 2 ^ (t - 1).toNat * 10 ^ (-(e0of t - 1)).toNat) &&
 decide (2 ^ (t + 1).toNat * 10 ^ (-(e0of t + 5)).toNat ≤ 10 ^ (e0of t + 5).toNat * 2 ^ (-(t + 1)).toNat)
def eAll (lo : Int) : Nat → Bool
 | 0 => true
 | n + 1 => eOk (lo + n) && eAll lo n
theorem eAll_at (lo : Int) : ∀ (n : Nat) (k : Nat), k < n → eAll lo n = true → eOk (lo + k) = true
 | 0, k, h, _ => absurd h (by omega)
 | n + 1, k, h, hc => by
  simp only [eAll, Bool.and_eq_true] at hc
  rcases Nat.lt_or_ge k n with h1 | h1
  ·exact eAll_at lo n k h1 hc.2
  ·have : k = n := by omega
   subst this
   exact hc.1
theorem eC : eAll (-1100) 2200 = true := by decide +kernel
theorem firstOf (P : Nat → Prop) [DecidablePred P] : ∀ n, P n → ∃ k, k ≤ n ∧ P k ∧ ∀ j, j < k → ¬ P j
 | n, h => by
  by_cases g : ∃ j, j < n ∧ P j
  ·obtain ⟨j, hj, hp⟩ := g
   obtain ⟨k, k1, k2, k3⟩ := firstOf P j hp
   exact ⟨k, by omega, k2, k3⟩
  ·exact ⟨n, Nat.le_refl _, h, fun j hj hp => g ⟨j, hj, hp⟩⟩
theorem nbits_pow (k : Nat) : nbits (2 ^ k) = k + 1 := by
 unfold nbits
 rw [if_neg (by have := Nat.two_pow_pos k; omega), Nat.log2_two_pow]
theorem place (a b : Nat) (ha : 0 < a) (hb : 0 < b) (t : Int) (ht : t = (nbits a : Int) - nbits b) (htb : -1100 ≤ t ∧ t < 1100) :
  ∃ J : Nat, J ≤ 5 ∧ (∀ z : Int, e0of t ≤ z → z < e0of t + J → ¬ a * 10 ^ (-z).toNat < b * 10 ^ z.toNat) ∧ a * 10 ^ (-(e0of t + J)).toNat < b * 10 ^ (e0of t + J).toNat ∧
   b * 10 ^ (e0of t + J - 1).toNat ≤ a * 10 ^ (-(e0of t + J - 1)).toNat := by
 obtain ⟨a0, a1, a2⟩ := nbits_bounds a ha
 obtain ⟨b0, b1, b2⟩ := nbits_bounds b hb
 have hc := eAll_at (-1100) 2200 (t + 1100).toNat (by omega) eC
 rw [show ((-1100) : Int) + (((t + 1100).toNat : Nat) : Int) = t by omega] at hc
 unfold eOk at hc
 simp only [Bool.and_eq_true, decide_eq_true_eq] at hc
 obtain ⟨c1, c2⟩ := hc
 have u1 : a * 2 ^ (-(t + 1)).toNat < b * 2 ^ (t + 1).toNat := by
  have e1 : a * 2 ^ (nbits b - 1) < 2 ^ nbits a * b := by
   calc a * 2 ^ (nbits b - 1) ≤ a * b := Nat.mul_le_mul_left _ b1
    _ < 2 ^ nbits a * b := Nat.mul_lt_mul_of_pos_right a2 hb
  have e2 : nbits b - 1 + (t + 1).toNat = nbits a + (-(t + 1)).toNat := by omega
  have e3 := Nat.mul_lt_mul_of_pos_right e1 (Nat.two_pow_pos (t + 1).toNat)
  rw [Nat.mul_assoc, ← Nat.pow_add, e2, Nat.pow_add] at e3
  have e4 : a * 2 ^ (-(t + 1)).toNat * 2 ^ nbits a < b * 2 ^ (t + 1).toNat * 2 ^ nbits a := by
   calc a * 2 ^ (-(t + 1)).toNat * 2 ^ nbits a = a * (2 ^ nbits a * 2 ^ (-(t + 1)).toNat) := by grind
    _ < 2 ^ nbits a * b * 2 ^ (t + 1).toNat := e3
    _ = b * 2 ^ (t + 1).toNat * 2 ^ nbits a := by grind
  exact Nat.lt_of_mul_lt_mul_right e4
 have u2 : b * 2 ^ (t - 1).toNat ≤ a * 2 ^ (-(t - 1)).toNat := by
  have e1 : b * 2 ^ (nbits a - 1) ≤ 2 ^ nbits b * a := by
   calc b * 2 ^ (nbits a - 1) ≤ b * a := Nat.mul_le_mul_left _ a1
    _ ≤ 2 ^ nbits b * a := Nat.mul_le_mul_right _ (by omega)
  have e2 : nbits a - 1 + (-(t - 1)).toNat = nbits b + (t - 1).toNat := by omega
  have e3 := Nat.mul_le_mul_right (2 ^ (-(t - 1)).toNat) e1
  rw [Nat.mul_assoc, ← Nat.pow_add, e2, Nat.pow_add] at e3
  have e4 : b * 2 ^ (t - 1).toNat * 2 ^ nbits b ≤ a * 2 ^ (-(t - 1)).toNat * 2 ^ nbits b := by
   calc b * 2 ^ (t - 1).toNat * 2 ^ nbits b = b * (2 ^ nbits b * 2 ^ (t - 1).toNat) := by grind
    _ ≤ 2 ^ nbits b * a * 2 ^ (-(t - 1)).toNat := e3
    _ = a * 2 ^ (-(t - 1)).toNat * 2 ^ nbits b := by grind
  exact Nat.le_of_mul_le_mul_right e4 (Nat.two_pow_pos _)
 have hi5 : a * 10 ^ (-(e0of t + (5 : Nat))).toNat < b * 10 ^ (e0of t + (5 : Nat)).toNat := by
  have hX : 0 < 2 ^ (-(t + 1)).toNat := Nat.two_pow_pos _
  have hY : 0 < 10 ^ (-(e0of t + 5)).toNat := Nat.pow_pos (by decide)
  rw [show ((5 : Nat) : Int) = 5 from rfl]
  generalize 2 ^ (-(t + 1)).toNat = xm at *
  generalize 2 ^ (t + 1).toNat = xp at *
  generalize 10 ^ (-(e0of t + 5)).toNat = ym at *
  generalize 10 ^ (e0of t + 5).toNat = yp at *
  have k1 := Nat.mul_lt_mul_of_pos_right u1 hY
  have k2 := Nat.mul_le_mul_left b c2
  have k3 : a * ym * xm < b * yp * xm := by
   calc a * ym * xm = a * xm * ym := by grind
    _ < b * xp * ym := k1
    _ = b * (xp * ym) := by grind
    _ ≤ b * (yp * xm) := k2
    _ = b * yp * xm := by grind
  exact Nat.lt_of_mul_lt_mul_right k3
 have lo0 : b * 10 ^ (e0of t - 1).toNat ≤ a * 10 ^ (-(e0of t - 1)).toNat := by
  have hX : 0 < 2 ^ (-(t - 1)).toNat := Nat.two_pow_pos _
  generalize 2 ^ (-(t - 1)).toNat = xm at *
  generalize 2 ^ (t - 1).toNat = xp at *
  generalize 10 ^ (-(e0of t - 1)).toNat = ym at *
  generalize 10 ^ (e0of t - 1).toNat = yp at *
  have k1 := Nat.mul_le_mul_right ym u2
  have k2 := Nat.mul_le_mul_left b c1
  have k3 : b * yp * xm ≤ a * ym * xm := by
   calc b * yp * xm = b * (yp * xm) := by grind
    _ ≤ b * (xp * ym) := k2
    _ = b * xp * ym := by grind
    _ ≤ a * xm * ym := k1
    _ = a * ym * xm := by grind
  exact Nat.le_of_mul_le_mul_right k3 hX
 obtain ⟨J, j1, j2, j3⟩ := firstOf (fun j => a * 10 ^ (-(e0of t + (j : Nat))).toNat < b * 10 ^ (e0of t + (j : Nat)).toNat) 5 hi5
 refine ⟨J, j1, fun z hz1 hz2 => ?_, j2, ?_⟩
 ·have := j3 (z - e0of t).toNat (by omega)
  rwa [show e0of t + (((z - e0of t).toNat : Nat) : Int) = z by omega] at this
 ·rcases Nat.eq_zero_or_pos J with h | h
  ·subst h
   simpa using lo0
  ·have := j3 (J - 1) (by omega)
   rw [show e0of t + ((J - 1 : Nat) : Int) = e0of t + J - 1 by omega] at this
   omega
theorem scaleHi (m : Nat) (q ee p : Int) (h : m * 2 ^ q.toNat * 10 ^ (-ee).toNat < 2 ^ (-q).toNat * 10 ^ ee.toNat) :
  m * vv p q * 10 ^ (-(p + ee)).toNat < uu p q * 10 ^ (p + ee).toNat := by
 unfold vv uu
 have e : p.toNat + ee.toNat + (-(p + ee)).toNat = (p + ee).toNat + (-p).toNat + (-ee).toNat := by omega
 have e2 : 10 ^ p.toNat * 10 ^ ee.toNat * 10 ^ (-(p + ee)).toNat = 10 ^ (p + ee).toNat * 10 ^ (-p).toNat * 10 ^ (-ee).toNat := by
  rw [← Nat.pow_add, ← Nat.pow_add, e, Nat.pow_add, Nat.pow_add]
 have h1 : 0 < 10 ^ p.toNat := Nat.pow_pos (by decide)
 have h2 : 0 < 10 ^ (-(p + ee)).toNat := Nat.pow_pos (by decide)
 clear e
 generalize 10 ^ p.toNat = A at *
 generalize 10 ^ (-p).toNat = A' at *
 generalize 10 ^ ee.toNat = E at *
 generalize 10 ^ (-ee).toNat = E' at *
 generalize 10 ^ (p + ee).toNat = S at *
 generalize 10 ^ (-(p + ee)).toNat = S' at *
 generalize 2 ^ q.toNat = Q at *
 generalize 2 ^ (-q).toNat = Q' at *
 have k := Nat.mul_lt_mul_of_pos_right h (Nat.mul_pos h1 h2)
 have k2 : m * (Q * A) * S' * E' < Q' * A' * S * E' := by
  calc m * (Q * A) * S' * E' = m * Q * E' * (A * S') := by grind
   _ < Q' * E * (A * S') := k
   _ = Q' * (A * E * S') := by grind
   _ = Q' * (S * A' * E') := by rw [e2]
   _ = Q' * A' * S * E' := by grind
 exact Nat.lt_of_mul_lt_mul_right k2
theorem scaleLo (m : Nat) (q ee p : Int) (h : 2 ^ (-q).toNat * 10 ^ ee.toNat ≤ m * 2 ^ q.toNat * 10 ^ (-ee).toNat) :
  uu p q * 10 ^ (p + ee).toNat ≤ m * vv p q * 10 ^ (-(p + ee)).toNat := by
 unfold vv uu
 have e : p.toNat + ee.toNat + (-(p + ee)).toNat = (p + ee).toNat + (-p).toNat + (-ee).toNat := by omega
 have e2 : 10 ^ p.toNat * 10 ^ ee.toNat * 10 ^ (-(p + ee)).toNat = 10 ^ (p + ee).toNat * 10 ^ (-p).toNat * 10 ^ (-ee).toNat := by
  rw [← Nat.pow_add, ← Nat.pow_add, e, Nat.pow_add, Nat.pow_add]
 have h3 : 0 < 10 ^ (-ee).toNat := Nat.pow_pos (by decide)
 clear e
 generalize 10 ^ p.toNat = A at *
 generalize 10 ^ (-p).toNat = A' at *
 generalize 10 ^ ee.toNat = E at *
 generalize 10 ^ (-ee).toNat = E' at *
 generalize 10 ^ (p + ee).toNat = S at *
 generalize 10 ^ (-(p + ee)).toNat = S' at *
 generalize 2 ^ q.toNat = Q at *
 generalize 2 ^ (-q).toNat = Q' at *
 have k := Nat.mul_le_mul_right (A * S') h
 have k2 : Q' * A' * S * E' ≤ m * (Q * A) * S' * E' := by
  calc Q' * A' * S * E' = Q' * (S * A' * E') := by grind
   _ = Q' * (A * E * S') := by rw [e2]
   _ = Q' * E * (A * S') := by grind
   _ ≤ m * Q * E' * (A * S') := k
   _ = m * (Q * A) * S' * E' := by grind
 exact Nat.le_of_mul_le_mul_right k2 h3
theorem widthOf (asym : Prop) [Decidable asym] (q : Int) (hq : -1074 ≤ q ∧ q ≤ 971) :
  (¬ asym → uu (scP asym q) q ≤ vv (scP asym q) q ∧ vv (scP asym q) q < 10 * uu (scP asym q) q) ∧
  (asym → 4 * uu (scP asym q) q ≤ 3 * vv (scP asym q) q ∧ 3 * vv (scP asym q) q < 40 * uu (scP asym q) q) := by
 have h := rngAll_at (-1074) 2046 (q + 1074).toNat (by omega) rAll
 rw [show ((-1074) : Int) + (((q + 1074).toNat : Nat) : Int) = q by omega] at h
 unfold rng at h
 simp only [Bool.and_eq_true, decide_eq_true_eq] at h
 obtain ⟨⟨⟨h1, h2⟩, h3⟩, h4⟩ := h
 unfold scP
 constructor
 ·intro hn; rw [if_neg hn]; exact ⟨h1, h2⟩
 ·intro hn; rw [if_pos hn]; exact ⟨h3, h4⟩
theorem someOf (asym : Prop) [Decidable asym] (m : Nat) (q p : Int) (hm : 1 ≤ m) (hae : asym → m % 2 = 0)
  (h1 : ¬ asym → uu p q ≤ vv p q ∧ vv p q < 10 * uu p q) (h2 : asym → 4 * uu p q ≤ 3 * vv p q ∧ 3 * vv p q < 40 * uu p q) :
  dminN asym m q p ≤ dmaxN m q p ∧ dmaxN m q p ≤ dminN asym m q p + 9 := by
 have hu := uu_pos p q
 have hv := vv_pos p q
 unfold dminN dmaxN
 generalize uu p q = u at *
 generalize vv p q = v at *
 simp only []
 by_cases ha : asym
 ·have he := hae ha
  rw [if_pos ha, if_neg (by omega), if_neg (by omega)]
  obtain ⟨w1, w2⟩ := h2 ha
  have y1 : (4 * m - 1) * v + 3 * v = (4 * m + 2) * v := by rw [← Nat.add_mul]; congr 1; omega
  have f1 : (4 * m + 2) * v / (4 * u) * (4 * u) ≤ (4 * m + 2) * v := Nat.div_mul_le_self _ _
  have f2 := Nat.lt_mul_div_succ ((4 * m + 2) * v) (show 0 < 4 * u by omega)
  have g1 := cei_le ((4 * m - 1) * v) (4 * u)
  generalize (4 * m + 2) * v / (4 * u) = x at *
  refine ⟨(g1 x (by omega)).2 ?_, ?_⟩
  ·rw [Nat.mul_add] at f2; omega
  ·have g2 := (g1 (cei ((4 * m - 1) * v) (4 * u)) (by omega)).1 (Nat.le_refl _)
   generalize cei ((4 * m - 1) * v) (4 * u) = n at *
   rcases Nat.lt_or_ge (n + 9) x with h | h
   ·exfalso
    have := Nat.mul_le_mul_right (4 * u) (show n + 10 ≤ x from h)
    rw [Nat.add_mul, Nat.mul_comm n] at this
    omega
   ·exact h
 ·rw [if_neg ha]
  obtain ⟨w1, w2⟩ := h1 ha
  have y1 : (4 * m - 2) * v + 4 * v = (4 * m + 2) * v := by rw [← Nat.add_mul]; congr 1; omega
  by_cases ho : m % 2 = 1
  ·rw [if_pos ho, if_pos ho]
   have g1 := fun d => cei_le ((4 * m + 2) * v) (4 * u) d (by omega)
   have g2 := fun d => lt_cei ((4 * m + 2) * v) (4 * u) d (by omega)
   have f1 : (4 * m - 2) * v / (4 * u) * (4 * u) ≤ (4 * m - 2) * v := Nat.div_mul_le_self _ _
   have f2 := Nat.lt_mul_div_succ ((4 * m - 2) * v) (show 0 < 4 * u by omega)
   have key : (4 * m - 2) * v / (4 * u) + 1 < cei ((4 * m + 2) * v) (4 * u) := by
    rw [g2]
    rcases Nat.lt_or_ge u v with h | h
    ·rw [Nat.mul_comm] at f1
     generalize (4 * m - 2) * v / (4 * u) = x at *
     rw [Nat.mul_add]; omega
    ·have : v = u := by omega
     subst this
     have e1 : (4 * m - 2) * v / (4 * v) = m - 1 := by
      rw [Nat.mul_div_mul_right _ _ hv]; omega
     rw [e1, show m - 1 + 1 = m by omega]
     have : (4 * m + 2) * v = 4 * v * m + 2 * v := by grind
     omega
   refine ⟨by omega, ?_⟩
   have g3 := (g2 (cei ((4 * m + 2) * v) (4 * u) - 1)).1 (Nat.sub_lt (Nat.lt_of_le_of_lt (Nat.zero_le _) key) (by decide))
   generalize cei ((4 * m + 2) * v) (4 * u) = c at *
   generalize (4 * m - 2) * v / (4 * u) = n at *
   rcases Nat.lt_or_ge (n + 1 + 9) (c - 1) with h | h
   ·exfalso
    have := Nat.mul_le_mul_left (4 * u) (show n + 1 + 10 ≤ c - 1 from h)
    rw [Nat.mul_add, Nat.mul_add] at this
    rw [Nat.mul_add] at f2
    omega
   ·exact h
  ·rw [if_neg ho, if_neg ho]
   have f1 : (4 * m + 2) * v / (4 * u) * (4 * u) ≤ (4 * m + 2) * v := Nat.div_mul_le_self _ _
   have f2 := Nat.lt_mul_div_succ ((4 * m + 2) * v) (show 0 < 4 * u by omega)
   have g1 := cei_le ((4 * m - 2) * v) (4 * u)
   generalize (4 * m + 2) * v / (4 * u) = x at *
   refine ⟨(g1 x (by omega)).2 ?_, ?_⟩
   ·rw [Nat.mul_add] at f2; omega
   ·have g2 := (g1 (cei ((4 * m - 2) * v) (4 * u)) (by omega)).1 (Nat.le_refl _)
    generalize cei ((4 * m - 2) * v) (4 * u) = n at *
    rcases Nat.lt_or_ge (n + 9) x with h | h
    ·exfalso
     have := Nat.mul_le_mul_right (4 * u) (show n + 10 ≤ x from h)
     rw [Nat.add_mul, Nat.mul_comm n] at this
     omega
    ·exact h
end
section
set_option maxHeartbeats 1000000
theorem optEq (r : Option Nat) (W : Nat) : (nearB r && (((nearW r : Nat) : Int) == (W : Int))) = true ↔ r = some W := by
 cases r with
 | none => simp [nearB]
 | some v => simp [nearB, nearW]; omega
theorem cmpN_pos (x y : Nat) : 0 < cmpN x y ↔ y < x := by unfold cmpN; split <;> (try split) <;> omega
theorem cmpN_zero (x y : Nat) : cmpN x y = 0 ↔ x = y := by unfold cmpN; split <;> (try split) <;> omega
theorem ndig_ten (x : Nat) (h : 1 ≤ x) : ndig (x * 10) = ndig x + 1 := by
 rw [ndig, dif_neg (by omega), Nat.mul_div_cancel _ (by decide)]
theorem ndig_tens (x : Nat) (h : 1 ≤ x) : ∀ k, ndig (x * 10 ^ k) = ndig x + k
 | 0 => by simp
 | k + 1 => by
  rw [Nat.pow_succ, ← Nat.mul_assoc, ndig_ten _ (Nat.mul_pos h (Nat.pow_pos (by decide))), ndig_tens x h k]; omega
theorem ndig_of (x n : Nat) (hn : 1 ≤ n) (h1 : 10 ^ (n - 1) ≤ x) (h2 : x < 10 ^ n) : ndig x = n := by
 obtain ⟨j, rfl⟩ : ∃ j, n = j + 1 := ⟨n - 1, by omega⟩
 refine ndig_eq j x (fun _ => ?_) (Nat.div_eq_of_lt h2)
 have : 1 ≤ x / 10 ^ j := by
  rw [Nat.le_div_iff_mul_le (Nat.pow_pos (by decide))]
  simpa using h1
 omega
theorem dminN_no (asym : Prop) [Decidable asym] (m : Nat) (q p : Int) (h : ¬ asym) : dminN asym m q p = dminN False m q p := by
 unfold dminN; simp [h]
theorem refPick_no (asym : Prop) [Decidable asym] (m : Nat) (q p : Int) (h : ¬ asym) : refPick asym m q p = refPick False m q p := by
 unfold refPick; rw [dminN_no asym m q p h]
theorem scP_no (asym : Prop) [Decidable asym] (q : Int) (h : ¬ asym) : scP asym q = scP False q := by unfold scP; simp [h]
def tinyOk (q : Int) (m : Nat) : Bool :=
 !(decide (dminN False m q (scP False q) ≤ dmaxN m q (scP False q) / 10 * 10) && decide (m * vv (scP False q) q < uu (scP False q) q * 10)) || decide (refPick False m q (scP False q) = 10)
theorem tiny32 : ∀ m, m < 10 → 1 ≤ m → tinyOk (-149) m = true := by decide +kernel
theorem tiny64 : ∀ m, m < 10 → 1 ≤ m → tinyOk (-1074) m = true := by decide +kernel
theorem floatPlain (D : Nat) (least most : Int) (hK : KindF D least most) (W m : Nat) (q : Int) (hm : m = mOf W (2 ^ (D - 1))) (hq : q = qOf D least W (2 ^ (D - 1))) (h1 : 1 ≤ W)
  (h2 : W < (most - least + 2).toNat * 2 ^ (D - 1)) (a b : Nat) (ha : a = m * 2 ^ q.toNat) (hb : b = 2 ^ (-q).toNat) (t : Int) (ht : t = (nbits a : Int) - nbits b)
  (asym : Prop) [Decidable asym] (hasym : asym ↔ m = 2 ^ (D - 1) ∧ least - D + 1 < q) :
  ∃ (J N r k : Nat) (ee : Int), J ≤ 5 ∧ ee = e0of t + J ∧ (∀ z : Int, e0of t ≤ z → z < ee → ¬ a * 10 ^ (-z).toNat < b * 10 ^ z.toNat) ∧ a * 10 ^ (-ee).toNat < b * 10 ^ ee.toNat ∧
   (1 ≤ N ∧ N ≤ 17) ∧ (∀ n, 1 ≤ n → n < N → dnB D least most W a b ee n = false ∧ upB D least most W a b ee n = false) ∧
   (dnB D least most W a b ee N = true ∨ upB D least most W a b ee N = true) ∧ (∀ n, 1 ≤ n → n ≤ 17 → topN a ee n < undN b ee n * 2 ^ 58) ∧ (-340 ≤ ee ∧ ee ≤ 340) ∧ (-1100 ≤ t ∧ t < 1100) ∧
   r % 10 ≠ 0 ∧ r < 10 ^ 17 ∧ r * 10 ^ k ≤ 10 ^ 17 ∧ (goPick asym m q (scP asym q)).1 = r * 10 ^ k ∧
   (pickN D least most W a b ee N = 10 ^ N → r = 1 ∧ (ndig (r * 10 ^ k) : Int) - (goPick asym m q (scP asym q)).2 = ee + 1) ∧
   (pickN D least most W a b ee N ≠ 10 ^ N → r = pickN D least most W a b ee N ∧ (ndig (r * 10 ^ k) : Int) - (goPick asym m q (scP asym q)).2 = ee) := by
 obtain ⟨m1, m2, q1, q2, hcan, hw⟩ := wordParts D least most hK W h1 h2
 rw [← hm, ← hq] at hw hcan
 rw [← hm] at m1 m2
 rw [← hq] at q1 q2
 clear hm hq h2
 have hD2 : 2 ≤ D := by rcases hK with h | h <;> omega
 have hqr : -1074 ≤ q ∧ q ≤ 971 := by rcases hK with h | h <;> omega
 have hmB : m < 2 ^ 53 := Nat.lt_of_lt_of_le m2 (Nat.pow_le_pow_right (by decide) (by rcases hK with h | h <;> omega))
 have hmA : asym → m ≤ 2 ^ 52 := fun h => by
  rw [(hasym.1 h).1]; exact Nat.pow_le_pow_right (by decide) (by rcases hK with h | h <;> omega)
 have hae : asym → m % 2 = 0 := fun h => by
  rw [(hasym.1 h).1]
  obtain ⟨j, hj⟩ : ∃ j, D - 1 = j + 1 := ⟨D - 2, by omega⟩
  rw [hj, Nat.pow_succ]; omega
 have hap : 0 < a := by rw [ha]; exact Nat.mul_pos m1 (Nat.two_pow_pos _)
 have hbp : 0 < b := by rw [hb]; exact Nat.two_pow_pos _
 have hnb : nbits b = (-q).toNat + 1 := by rw [hb]; exact nbits_pow _
 have hna : q.toNat + 1 ≤ nbits a ∧ nbits a ≤ q.toNat + 53 := by
  obtain ⟨a0, a1, a2⟩ := nbits_bounds a hap
  constructor
  ·have h3 : 2 ^ q.toNat < 2 ^ nbits a := by
    refine Nat.lt_of_le_of_lt ?_ a2
    rw [ha]; exact Nat.le_mul_of_pos_left _ m1
   have := (Nat.pow_lt_pow_iff_right (a := 2) (by decide)).1 h3
   omega
  ·have h3 : 2 ^ (nbits a - 1) < 2 ^ (q.toNat + 53) := by
    refine Nat.lt_of_le_of_lt a1 ?_
    rw [ha, Nat.pow_add, Nat.mul_comm]
    exact Nat.mul_lt_mul_of_pos_left hmB (Nat.two_pow_pos _)
   have := (Nat.pow_lt_pow_iff_right (a := 2) (by decide)).1 h3
   omega
 have htb : -1100 ≤ t ∧ t < 1100 := by omega
 obtain ⟨J, j1, j2, j3, j4⟩ := place a b hap hbp t ht htb
 have heb : -340 ≤ e0of t + J ∧ e0of t + J ≤ 340 := by
  have e : e0of t = Int.tdiv (t * 30103) 100000 - 2 := rfl
  have e1 := Int.mul_tdiv_add_tmod (t * 30103) 100000
  have e2 := Int.tmod_lt_of_pos (t * 30103) (show (0 : Int) < 100000 by decide)
  have e3 := Int.lt_tmod_of_pos (t * 30103) (show (0 : Int) < 100000 by decide)
  clear hmB hmA hcan
  omega
 generalize hee : e0of t + (J : Int) = ee at *
 have hhi : m * 2 ^ q.toNat * 10 ^ (-ee).toNat < 2 ^ (-q).toNat * 10 ^ ee.toNat := by rw [← ha, ← hb]; exact j3
 have hlo : 2 ^ (-q).toNat * 10 ^ (ee - 1).toNat ≤ m * 2 ^ q.toNat * 10 ^ (-(ee - 1)).toNat := by rw [← ha, ← hb]; exact j4
 have hiN : ∀ n : Nat, m * vv ((n : Int) - ee) q < uu ((n : Int) - ee) q * 10 ^ n := by
  intro n
  have h := scaleHi m q ee ((n : Int) - ee) hhi
  rw [show (n : Int) - ee + ee = n by omega, show (-(n : Int)).toNat = 0 by omega, Int.toNat_natCast, Nat.pow_zero, Nat.mul_one] at h
  exact h
 have loN : ∀ n : Nat, 1 ≤ n → uu ((n : Int) - ee) q * 10 ^ (n - 1) ≤ m * vv ((n : Int) - ee) q := by
  intro n hn
  have h := scaleLo m q (ee - 1) ((n : Int) - ee) hlo
  rw [show (n : Int) - ee + (ee - 1) = ((n - 1 : Nat) : Int) by omega, show (-((n - 1 : Nat) : Int)).toNat = 0 by omega, Int.toNat_natCast, Nat.pow_zero, Nat.mul_one] at h
  exact h
 have etop : ∀ n : Nat, topN a ee n = m * vv ((n : Int) - ee) q := by
  intro n; unfold topN vv; rw [ha, Nat.mul_assoc]
 have eund : ∀ n : Nat, undN b ee n = uu ((n : Int) - ee) q := by
  intro n; unfold undN uu; rw [hb]
 have elow : ∀ n : Nat, lowN a b ee n = m * vv ((n : Int) - ee) q / uu ((n : Int) - ee) q := by
  intro n; unfold lowN; rw [etop, eund]
 have elef : ∀ n : Nat, lefN a b ee n = m * vv ((n : Int) - ee) q % uu ((n : Int) - ee) q := by
  intro n; unfold lefN; rw [etop, eund]
 have hpow : ∀ n : Nat, 0 < 10 ^ n := fun n => Nat.pow_pos (by decide)
 have low1 : ∀ n : Nat, 1 ≤ n → 10 ^ (n - 1) ≤ m * vv ((n : Int) - ee) q / uu ((n : Int) - ee) q := by
  intro n hn
  rw [Nat.le_div_iff_mul_le (uu_pos _ _), Nat.mul_comm]
  exact loN n hn
 have low2 : ∀ n : Nat, m * vv ((n : Int) - ee) q / uu ((n : Int) - ee) q < 10 ^ n := by
  intro n
  exact Nat.div_lt_of_lt_mul (hiN n)
 have near : ∀ (n d : Nat), 0 < d → (nearestN D least most d (-((n : Int) - ee)) = some W ↔ Rd asym m q ((n : Int) - ee) d) := by
  intro n d hd
  have h := near_iff D least most d (-((n : Int) - ee)) m q hD2 hd m1 m2 q1 q2 hcan
  rw [hw] at h
  rw [h]
  unfold Rd uu vv
  have e1 : d * 10 ^ (-((n : Int) - ee)).toNat * 2 ^ (-q).toNat = d * (2 ^ (-q).toNat * 10 ^ (-((n : Int) - ee)).toNat) := by grind
  have e2 : 10 ^ (- -((n : Int) - ee)).toNat * 2 ^ q.toNat = 2 ^ q.toNat * 10 ^ ((n : Int) - ee).toNat := by
   rw [Int.neg_neg, Nat.mul_comm]
  rw [e1, e2, show (m = 2 ^ (D - 1) ∧ least - D + 1 < q) = asym from propext hasym.symm]
 have dn : ∀ n : Nat, 1 ≤ n → (dnB D least most W a b ee n = true ↔ Rd asym m q ((n : Int) - ee) (m * vv ((n : Int) - ee) q / uu ((n : Int) - ee) q)) := by
  intro n hn
  have hl : 0 < m * vv ((n : Int) - ee) q / uu ((n : Int) - ee) q := Nat.lt_of_lt_of_le (hpow _) (low1 n hn)
  rw [← near n _ hl]
  unfold dnB
  rw [elow, Bool.and_eq_true, optEq]
  have : decide ((0 : Int) < ((m * vv ((n : Int) - ee) q / uu ((n : Int) - ee) q : Nat) : Int)) = true := decide_eq_true (Int.natCast_pos.2 hl)
  rw [this]
  simp
 have upp : ∀ n : Nat, (upB D least most W a b ee n = true ↔ Rd asym m q ((n : Int) - ee) (m * vv ((n : Int) - ee) q / uu ((n : Int) - ee) q + 1)) := by
  intro n
  rw [← near n _ (Nat.succ_pos _)]
  unfold upB
  rw [elow, optEq]
 have near' := fun n => Rd_near asym m q ((n : Int) - ee)
 obtain ⟨p, hp⟩ : ∃ p, p = scP asym q := ⟨_, rfl⟩
 obtain ⟨wd1, wd2⟩ := widthOf asym q hqr
 rw [← hp] at wd1 wd2 ⊢
 have huv : uu p q ≤ vv p q := by
  by_cases h : asym
  ·have := wd2 h; omega
  ·exact (wd1 h).1
 have hup := uu_pos p q
 obtain ⟨w1, w2⟩ := someOf asym m q p m1 hae wd1 wd2
 have hn0 : 1 ≤ p + ee := by
  rcases Int.lt_or_le (p + ee) 1 with h | h
  ·exfalso
   have h5 := scaleHi m q ee p hhi
   rw [show (p + ee).toNat = 0 by omega, Nat.pow_zero, Nat.mul_one] at h5
   have h6 : vv p q ≤ m * vv p q := Nat.le_mul_of_pos_left _ m1
   have h7 : m * vv p q ≤ m * vv p q * 10 ^ (-(p + ee)).toNat := Nat.le_mul_of_pos_right _ (hpow _)
   omega
  ·exact h
 obtain ⟨n0, hn0e⟩ : ∃ n0 : Nat, (n0 : Int) = p + ee := ⟨(p + ee).toNat, by omega⟩
 have hpe : p = (n0 : Int) - ee := by omega
 have hn17 : n0 ≤ 17 := by
  rcases Nat.lt_or_ge 17 n0 with h | h
  ·exfalso
   have h5 := loN n0 (by omega)
   rw [← hpe] at h5
   have h6 : uu p q * 10 ^ 17 ≤ uu p q * 10 ^ (n0 - 1) := Nat.mul_le_mul_left _ (Nat.pow_le_pow_right (by decide) (by omega))
   have e17 : 10 ^ 17 = 100000000000000000 := by decide
   rw [e17] at h6
   by_cases ha' : asym
   ·have h7 := Nat.mul_le_mul_right (vv p q) (hmA ha')
    have e52 : 2 ^ 52 = 4503599627370496 := by decide
    rw [e52] at h7
    have := wd2 ha'
    generalize 10 ^ (n0 - 1) = T at *
    clear hmB hmA
    omega
   ·have h7 := Nat.mul_le_mul_right (vv p q) (Nat.le_of_lt hmB)
    have e53 : 2 ^ 53 = 9007199254740992 := by decide
    rw [e53] at h7
    have := wd1 ha'
    generalize 10 ^ (n0 - 1) = T at *
    clear hmB hmA
    omega
  ·exact h
 have hP0 : 1 ≤ n0 ∧ (dnB D least most W a b ee n0 = true ∨ upB D least most W a b ee n0 = true) := by
  refine ⟨by omega, ?_⟩
  have h5 := (Rd_iff asym m q p (dminN asym m q p) m1 hae).2 ⟨Nat.le_refl _, w1⟩
  rw [hpe] at h5
  rcases near' n0 _ h5 with h | h
  ·exact .inl ((dn n0 (by omega)).2 h)
  ·exact .inr ((upp n0).2 h)
 obtain ⟨N, N1, ⟨N2, N3⟩, N4⟩ := firstOf (fun n => 1 ≤ n ∧ (dnB D least most W a b ee n = true ∨ upB D least most W a b ee n = true)) n0 hP0
 have hbad : ∀ n, 1 ≤ n → n < N → dnB D least most W a b ee n = false ∧ upB D least most W a b ee n = false := by
  intro n hn1 hnN
  have h5 := N4 n hnN
  constructor
  ·cases h6 : dnB D least most W a b ee n with
   | false => rfl
   | true => exact absurd ⟨hn1, .inl h6⟩ h5
  ·cases h6 : upB D least most W a b ee n with
   | false => rfl
   | true => exact absurd ⟨hn1, .inr h6⟩ h5
 have hbad' : ∀ n : Nat, 1 ≤ n → n < N → ∀ d, ¬ Rd asym m q ((n : Int) - ee) d := by
  intro n hn1 hnN d hd
  obtain ⟨g1, g2⟩ := hbad n hn1 hnN
  rcases near' n d hd with h | h
  ·rw [(dn n hn1).2 h] at g1; cases g1
  ·rw [(upp n).2 h] at g2; cases g2
 have hpick : pickN D least most W a b ee N = refPick asym m q ((N : Int) - ee) := by
  unfold pickN refPick
  simp only []
  have R := fun d => Rd_iff asym m q ((N : Int) - ee) d m1 hae
  have hdn : (dnB D least most W a b ee N = false) ↔ ¬ (dminN asym m q ((N : Int) - ee) ≤ m * vv ((N : Int) - ee) q / uu ((N : Int) - ee) q ∧ m * vv ((N : Int) - ee) q / uu ((N : Int) - ee) q ≤ dmaxN m q ((N : Int) - ee)) := by
   rw [← R, ← dn N N2]; simp
  have hup : (upB D least most W a b ee N = true) ↔ (dminN asym m q ((N : Int) - ee) ≤ m * vv ((N : Int) - ee) q / uu ((N : Int) - ee) q + 1 ∧ m * vv ((N : Int) - ee) q / uu ((N : Int) - ee) q + 1 ≤ dmaxN m q ((N : Int) - ee)) := by rw [upp, R]
  rw [Nat.mul_comm (lefN a b ee N) 2, elow, elef, eund]
  simp only [hup, hdn, cmpN_pos, cmpN_zero]
 have hgood' : Rd asym m q ((N : Int) - ee) (refPick asym m q ((N : Int) - ee)) := by
  rw [← hpick]
  unfold pickN
  split
  ·rename_i h
   rw [elow]; exact (upp N).1 h.1
  ·rename_i h
   rw [elow]
   refine (dn N N2).1 ?_
   rcases N3 with h5 | h5
   ·exact h5
   ·cases h6 : dnB D least most W a b ee N with
    | true => rfl
    | false => exact absurd ⟨h5, .inl h6⟩ h
 have hrange : m * vv ((N : Int) - ee) q / uu ((N : Int) - ee) q ≤ refPick asym m q ((N : Int) - ee) ∧ refPick asym m q ((N : Int) - ee) ≤ m * vv ((N : Int) - ee) q / uu ((N : Int) - ee) q + 1 := by
  unfold refPick; simp only []; split <;> omega
 have hl1 := low1 N N2
 have hl2 := low2 N
 have hpN := hpow (N - 1)
 have htiny : p + ee = 1 → dminN asym m q p ≤ dmaxN m q p / 10 * 10 → refPick asym m q p = 10 := by
  intro hp1 hd
  have h5 := hiN n0
  rw [← hpe, show n0 = 1 by omega] at h5
  have hm10 : m < 10 := by
   rcases Nat.lt_or_ge m 10 with h | h
   ·exact h
   ·exfalso
    have h6 := Nat.mul_le_mul_right (vv p q) h
    omega
  have hq0 : q = least - D + 1 := by
   apply hcan
   refine Nat.lt_of_lt_of_le hm10 ?_
   refine Nat.le_trans (show 10 ≤ 2 ^ 23 by decide) (Nat.pow_le_pow_right (by decide) (by rcases hK with h | h <;> omega))
  have hna : ¬ asym := fun h => by have := (hasym.1 h).2; omega
  rw [dminN_no asym m q p hna] at hd
  rw [refPick_no asym m q p hna]
  rw [scP_no asym q hna] at hp
  have hok : tinyOk q m = true := by
   rcases hK with ⟨rfl, rfl, rfl⟩ | ⟨rfl, rfl, rfl⟩
   ·rw [hq0]; exact tiny32 m hm10 m1
   ·rw [hq0]; exact tiny64 m hm10 m1
  unfold tinyOk at hok
  rw [← hp] at hok
  rw [decide_eq_true hd, decide_eq_true (show m * vv p q < uu p q * 10 by simpa using h5)] at hok
  simpa using hok
 obtain ⟨k, hk⟩ := select asym m q p ee N m1 hae w1 w2 N2 hbad' _ rfl hgood' hn0 (by omega) (by omega) htiny
 have hdv : ∀ n, 1 ≤ n → n ≤ 17 → topN a ee n < undN b ee n * 2 ^ 58 := by
  intro n g1 g2
  rw [etop, eund]
  refine Nat.lt_of_lt_of_le (hiN n) (Nat.mul_le_mul_left _ ?_)
  exact Nat.le_trans (Nat.pow_le_pow_right (by decide) g2) (by decide)
 have hN17 : N ≤ 17 := by omega
 have e10 : 10 ^ N ≤ 10 ^ 17 := Nat.pow_le_pow_right (by decide) hN17
 have hg2 : (goPick asym m q p).2 ≤ p := by
  unfold goPick; split
  ·simp; omega
  ·split <;> exact Int.le_refl _
 generalize hrp : refPick asym m q ((N : Int) - ee) = rp at *
 rcases hk with ⟨g1, g2, g3⟩ | ⟨g1, g2, g3, g4⟩
 ·have hne : rp ≠ 10 ^ N := by
   intro h
   apply g3
   rw [h]
   obtain ⟨j, rfl⟩ : ∃ j, N = j + 1 := ⟨N - 1, by omega⟩
   rw [Nat.pow_succ]; omega
  have hle17 : rp * 10 ^ k ≤ 10 ^ 17 := by
   have a1 : rp * 10 ^ k ≤ 10 ^ N * 10 ^ k := Nat.mul_le_mul_right _ (by omega)
   rw [← Nat.pow_add] at a1
   exact Nat.le_trans a1 (Nat.pow_le_pow_right (by decide) (by omega))
  refine ⟨J, N, rp, k, ee, j1, hee.symm, j2, j3, ⟨N2, hN17⟩, hbad, N3, hdv, heb, htb, g3, by omega, hle17, g1, fun h => absurd (hpick.symm.trans h) hne, fun _ => ⟨hpick.symm, ?_⟩⟩
  rw [ndig_tens _ (by omega), ndig_of _ N N2 (by omega) (by omega), g2]
  omega
 ·subst g2
  refine ⟨J, 1, 1, k, ee, j1, hee.symm, j2, j3, ⟨N2, hN17⟩, hbad, N3, hdv, heb, htb, by decide, by decide, by rw [Nat.one_mul]; exact Nat.pow_le_pow_right (by decide) (by omega), by rw [g3]; simp, fun _ => ⟨rfl, ?_⟩, fun h => absurd (hpick.trans g1) (by simpa using h)⟩
  rw [ndig_tens _ (by omega), g4, ndig_of 1 1 (by decide) (by decide) (by decide)]
  omega
end
end Go.Proofs.YtepfodmbjojdbaaGreatDoor.Num
