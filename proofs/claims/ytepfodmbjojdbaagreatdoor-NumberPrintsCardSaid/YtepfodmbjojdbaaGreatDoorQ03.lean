/- NumberPrints: plain arithmetic: rounding by a table of powers of ten. No conditions beyond each theorem's own. -/
set_option linter.all false
namespace Nm
def rnd (a b : Nat) : Nat := if 2 * (a % b) > b ∨ (2 * (a % b) = b ∧ a / b % 2 = 1) then a / b + 1 else a / b
theorem rnd_spec (a b : Nat) (hb : 0 < b) :
  (2 * rnd a b * b < 2 * a + b ∨ (2 * rnd a b * b = 2 * a + b ∧ rnd a b % 2 = 0)) ∧
  (2 * a < 2 * rnd a b * b + b ∨ (2 * a = 2 * rnd a b * b + b ∧ rnd a b % 2 = 0)) := by
 have h := Nat.div_add_mod a b
 have hr := Nat.mod_lt a hb
 unfold rnd
 generalize a / b = n at *
 generalize a % b = r at *
 subst h
 split
 ·rename_i hc
  have e : 2 * (n + 1) * b = 2 * (b * n) + 2 * b := by rw [Nat.mul_comm b n]; simp [Nat.mul_add, Nat.add_mul, Nat.mul_assoc]
  rw [e]
  omega
 ·rename_i hc
  have e : 2 * n * b = 2 * (b * n) := by rw [Nat.mul_comm b n, Nat.mul_assoc]
  rw [e]
  omega
theorem rnd_unique (a b m : Nat) (hb : 0 < b)
  (h1 : 2 * m * b < 2 * a + b ∨ (2 * m * b = 2 * a + b ∧ m % 2 = 0))
  (h2 : 2 * a < 2 * m * b + b ∨ (2 * a = 2 * m * b + b ∧ m % 2 = 0)) : rnd a b = m := by
 obtain ⟨g1, g2⟩ := rnd_spec a b hb
 generalize rnd a b = n at *
 rcases Nat.lt_trichotomy n m with h | h | h
 ·exfalso
  obtain ⟨k, rfl⟩ : ∃ k, m = n + 1 + k := ⟨m - n - 1, by omega⟩
  have e : 2 * (n + 1 + k) * b = 2 * n * b + 2 * b + 2 * k * b := by simp [Nat.mul_add, Nat.add_mul]
  rw [e] at h1 h2
  have : 0 ≤ 2 * k * b := Nat.zero_le _
  by_cases hk : k = 0
  ·subst hk; omega
  ·have : b ≤ k * b := Nat.le_mul_of_pos_left b (by omega)
   have e2 : 2 * k * b = 2 * (k * b) := Nat.mul_assoc _ _ _
   omega
 ·exact h
 ·exfalso
  obtain ⟨k, rfl⟩ : ∃ k, n = m + 1 + k := ⟨n - m - 1, by omega⟩
  have e : 2 * (m + 1 + k) * b = 2 * m * b + 2 * b + 2 * k * b := by simp [Nat.mul_add, Nat.add_mul]
  rw [e] at g1 g2
  by_cases hk : k = 0
  ·subst hk; omega
  ·have : b ≤ k * b := Nat.le_mul_of_pos_left b (by omega)
   have e2 : 2 * k * b = 2 * (k * b) := Nat.mul_assoc _ _ _
   omega
def unr (a b : Nat) : Nat := (4 * a / b) ||| (if 4 * a % b = 0 then 0 else 1)
theorem or_one (n : Nat) : n ||| 1 = n + (1 - n % 2) := by
 rcases Nat.mod_two_eq_zero_or_one n with h | h
 ·have : n = 2 * (n / 2) := by omega
  rw [this]
  rw [show 2 * (n/2) ||| 1 = 2 * (n / 2) + 1 from by
   have := Nat.two_pow_add_eq_or_of_lt (i := 1) (b := 1) (by decide) (n / 2)
   simpa using this.symm]
  omega
 ·have : n = 2 * (n / 2) + 1 := by omega
  have e : 2 * (n / 2) + 1 = 2 * (n / 2) ||| 1 := by
   have := Nat.two_pow_add_eq_or_of_lt (i := 1) (b := 1) (by decide) (n / 2)
   simpa using this
  rw [h]
  conv => lhs; rw [this, e, Nat.or_assoc, Nat.or_self, ← e]
  omega
theorem unr_eq (a b : Nat) : unr a b = if 4 * a % b = 0 then 4 * a / b else 4 * a / b + (1 - 4 * a / b % 2) := by
 unfold unr
 split
 ·simp
 ·exact or_one _
theorem four_div (a b : Nat) (hb : 0 < b) : ∃ n r k, a / b = n ∧ a % b = r ∧ r < b ∧ a = b * n + r ∧ 4 * a / b = 4 * n + k ∧ k < 4 ∧ b * k ≤ 4 * r ∧ 4 * r < b * k + b ∧ (4 * a % b = 4 * r - b * k) := by
 refine ⟨a / b, a % b, 4 * (a % b) / b, rfl, rfl, Nat.mod_lt a hb, (Nat.div_add_mod a b).symm, ?_, ?_, ?_, ?_, ?_⟩
 ·have h := Nat.div_add_mod a b
  conv => lhs; rw [← h]
  rw [Nat.mul_add, show 4 * (b * (a / b)) = b * (4 * (a / b)) by simp [Nat.mul_left_comm]]
  rw [Nat.mul_add_div hb]
 ·have := Nat.mod_lt a hb
  exact Nat.div_lt_of_lt_mul (by omega)
 ·exact Nat.mul_div_le _ _
 ·have := Nat.lt_mul_div_succ (4 * (a % b)) hb
  rw [Nat.mul_add] at this; omega
 ·have h := Nat.div_add_mod a b
  conv => lhs; rw [← h]
  rw [Nat.mul_add, show 4 * (b * (a / b)) = b * (4 * (a / b)) by simp [Nat.mul_left_comm], Nat.mul_add_mod]
  have := Nat.div_add_mod (4 * (a % b)) b
  omega
theorem unr_floor (a b : Nat) (hb : 0 < b) : unr a b / 4 = a / b := by
 obtain ⟨n, r, k, h1, h2, h3, h4, h5, h6, h7, h8, h9⟩ := four_div a b hb
 rw [unr_eq, h5, h1]
 split <;> omega
theorem unr_round (a b : Nat) (hb : 0 < b) : (unr a b + 1 + unr a b / 4 % 2) / 4 = rnd a b := by
 rw [unr_floor a b hb]
 obtain ⟨n, r, k, h1, h2, h3, h4, h5, h6, h7, h8, h9⟩ := four_div a b hb
 rw [unr_eq, h5, rnd, h1, h2, h9]
 have hk : k = 0 ∨ k = 1 ∨ k = 2 ∨ k = 3 := by omega
 rcases hk with rfl | rfl | rfl | rfl <;> (repeat' split) <;> omega
def cei (a b : Nat) : Nat := (a + b - 1) / b
theorem cei_eq (a b : Nat) (hb : 0 < b) : cei a b = if a % b = 0 then a / b else a / b + 1 := by
 unfold cei
 have h := Nat.div_add_mod a b
 have hr := Nat.mod_lt a hb
 generalize a / b = n at *
 generalize a % b = r at *
 subst h
 split
 ·rename_i h0; subst h0
  rw [Nat.add_zero, show b * n + b - 1 = b * n + (b - 1) by omega, Nat.mul_add_div hb, Nat.div_eq_of_lt (by omega)]; try omega
 ·rw [show b * n + r + b - 1 = b * (n + 1) + (r - 1) by rw [Nat.mul_add]; omega, Nat.mul_add_div hb, Nat.div_eq_of_lt (by omega)]; try omega
theorem unr_ceil (a b : Nat) (hb : 0 < b) : (unr a b + 3) / 4 = cei a b := by
 rw [cei_eq a b hb]
 obtain ⟨n, r, k, h1, h2, h3, h4, h5, h6, h7, h8, h9⟩ := four_div a b hb
 rw [unr_eq, h5, h1, h2, h9]
 have hk : k = 0 ∨ k = 1 ∨ k = 2 ∨ k = 3 := by omega
 rcases hk with rfl | rfl | rfl | rfl <;> (repeat' split) <;> omega
theorem unr_ceil_up (a b : Nat) (hb : 0 < b) : (unr a b + 1 + 3) / 4 = a / b + 1 := by
 have := unr_floor a b hb
 omega
theorem unr_floor_down (a b : Nat) (hb : 0 < b) (ha : 0 < a) : (unr a b - 1) / 4 = cei a b - 1 ∧ 1 ≤ unr a b := by
 rw [cei_eq a b hb]
 obtain ⟨n, r, k, h1, h2, h3, h4, h5, h6, h7, h8, h9⟩ := four_div a b hb
 have hn : n ≠ 0 ∨ r ≠ 0 := by
  rcases Nat.eq_zero_or_pos n with h | h
  ·right; subst h; omega
  ·left; omega
 rw [unr_eq, h5, h1, h2, h9]
 have hk : k = 0 ∨ k = 1 ∨ k = 2 ∨ k = 3 := by omega
 rcases hk with rfl | rfl | rfl | rfl <;> (repeat' split) <;> omega
def stk (a b : Nat) : Nat := (a / b) ||| (if a % b = 0 then 0 else 1)
theorem unr_stk (a b : Nat) : unr a b = stk (4 * a) b := rfl
theorem stk_scale (k a b : Nat) (hk : 0 < k) : stk (k * a) (k * b) = stk a b := by
 unfold stk
 rw [Nat.mul_div_mul_left _ _ hk, Nat.mul_mod_mul_left]
 have : k * (a % b) = 0 ↔ a % b = 0 := by simp [Nat.mul_eq_zero]; omega
 simp [this]
theorem stk_of (a b q : Nat) (h1 : q * b < a) (h2 : a < (q + 1) * b) : stk a b = q ||| 1 := by
 have e1 : a / b = q := Nat.div_eq_of_lt_le (by omega) (by omega)
 have e2 : a % b ≠ 0 := by
  intro h
  have := Nat.div_add_mod a b
  rw [e1, h, Nat.mul_comm] at this
  omega
 simp [stk, e1, e2]
theorem stk_exact (b q : Nat) (hb : 0 < b) : stk (q * b) b = q := by
 simp [stk, Nat.mul_div_cancel _ hb]
def usc (x hi lo s : Nat) : Nat :=
 if (x * hi / 2 ^ 64) % 2 ^ s ≠ 0 then (x * hi / 2 ^ 64) / 2 ^ s ||| 1
 else if x * hi % 2 ^ 64 < x * lo / 2 ^ 64 then (x * hi / 2 ^ 64 - 1) / 2 ^ s ||| 1
 else (x * hi / 2 ^ 64) / 2 ^ s ||| (if x * hi % 2 ^ 64 - x * lo / 2 ^ 64 > 1 then 1 else 0)
theorem usc_exact (x hi lo s pn pd : Nat) (hx : 0 < x) (hx' : x < 2 ^ 64) (hlo : lo < 2 ^ 64) (hpd : 0 < pd)
  (hh : 0 < x * hi / 2 ^ 64)
  (h1 : pn + pd * lo ≤ pd * (hi * 2 ^ 64)) (h2 : pd * (hi * 2 ^ 64) < pn + pd * lo + pd)
  (hc : (pd * 2 ^ (128 + s)) ∣ x * pn ∨
   (2 ^ 64 < (x * (hi * 2 ^ 64 - lo)) % 2 ^ (128 + s) ∧ (x * (hi * 2 ^ 64 - lo)) % 2 ^ (128 + s) + 2 ^ 64 ≤ 2 ^ (128 + s))) :
  usc x hi lo s = stk (x * pn) (pd * 2 ^ (128 + s)) := by
 have hW : 2 ^ (128 + s) = 2 ^ 128 * 2 ^ s := Nat.pow_add _ _ _
 rw [hW] at hc ⊢
 unfold usc
 have hS : 0 < 2 ^ s := Nat.two_pow_pos s
 generalize 2 ^ s = S at *
 have ha := Nat.div_add_mod (x * hi) (2 ^ 64)
 have hb := Nat.div_add_mod (x * lo) (2 ^ 64)
 have hm := Nat.mod_lt (x * hi) (y := 2 ^ 64) (by decide)
 have hm2 := Nat.mod_lt (x * lo) (y := 2 ^ 64) (by decide)
 have hk := Nat.div_add_mod (x * hi / 2 ^ 64) S
 have hr0 := Nat.mod_lt (x * hi / 2 ^ 64) hS
 have hlo2 : x * lo ≤ (2 ^ 64 - 1) * (2 ^ 64 - 1) := Nat.mul_le_mul (by omega) (by omega)
 have hPle : lo ≤ hi * 2 ^ 64 := by
  rcases Nat.eq_zero_or_pos hi with h | h
  ·subst h; simp at hh
  ·have : 1 * 2 ^ 64 ≤ hi * 2 ^ 64 := Nat.mul_le_mul_right _ h
   omega
 obtain ⟨Z, hZ⟩ : ∃ Z, Z = x * (hi * 2 ^ 64 - lo) := ⟨_, rfl⟩
 have hZ2 : Z + x * lo = x * hi * 2 ^ 64 := by
  rw [hZ, Nat.mul_sub, Nat.mul_assoc]
  have : x * lo ≤ x * (hi * 2 ^ 64) := Nat.mul_le_mul_left _ hPle
  omega
 rw [← hZ] at hc
 have hN1 : x * pn ≤ Z * pd := by
  have e : x * (pn + pd * lo) ≤ x * (pd * (hi * 2 ^ 64)) := Nat.mul_le_mul_left _ h1
  have e1 : x * (pd * (hi * 2 ^ 64)) = (x * hi * 2 ^ 64) * pd := by grind
  have e2 : x * (pd * lo) = (x * lo) * pd := by grind
  rw [e1, ← hZ2, Nat.mul_add, e2, Nat.add_mul] at e
  omega
 have hN2 : Z * pd < x * pn + x * pd := by
  have e : x * (pd * (hi * 2 ^ 64)) < x * (pn + pd * lo + pd) := Nat.mul_lt_mul_of_pos_left h2 hx
  have e1 : x * (pd * (hi * 2 ^ 64)) = (x * hi * 2 ^ 64) * pd := by grind
  have e2 : x * (pd * lo) = (x * lo) * pd := by grind
  rw [e1, ← hZ2, Nat.mul_add, Nat.mul_add, e2, Nat.add_mul] at e
  omega
 generalize x * pn = N at *
 have key : ∀ q, q * (2 ^ 128 * S) + x ≤ Z → Z < (q + 1) * (2 ^ 128 * S) → stk N (pd * (2 ^ 128 * S)) = q ||| 1 := by
  intro q hq1 hq2
  refine stk_of _ _ _ ?_ ?_
  ·have e : (q * (2 ^ 128 * S) + x) * pd ≤ Z * pd := Nat.mul_le_mul_right _ hq1
   rw [Nat.add_mul] at e
   have e2 : q * (pd * (2 ^ 128 * S)) = q * (2 ^ 128 * S) * pd := by grind
   omega
  ·have e : Z * pd < (q + 1) * (2 ^ 128 * S) * pd := Nat.mul_lt_mul_of_pos_right hq2 hpd
   have e2 : (q + 1) * (pd * (2 ^ 128 * S)) = (q + 1) * (2 ^ 128 * S) * pd := by grind
   omega
 generalize x * hi = XH at *
 generalize x * lo = XL at *
 generalize XH / 2 ^ 64 = h at *
 generalize XH % 2 ^ 64 = mid at *
 generalize XL / 2 ^ 64 = mid2 at *
 generalize XL % 2 ^ 64 = lp at *
 generalize h / S = k at *
 generalize h % S = r0 at *
 have em : ∀ q, q * (2 ^ 128 * S) = 2 ^ 128 * (S * q) := by intro q; rw [Nat.mul_comm q, Nat.mul_assoc]
 have em1 : (k + 1) * (2 ^ 128 * S) = 2 ^ 128 * (S * k) + 2 ^ 128 * S := by rw [em, Nat.mul_add]; omega
 split
 ·rename_i hr
  refine (key k ?_ ?_).symm
  ·rw [em]; omega
  ·rw [em1]; omega
 ·rename_i hr
  have hr' : r0 = 0 := by omega
  subst hr'
  split
  ·rename_i hlt
   obtain ⟨k', rfl⟩ : ∃ k', k = k' + 1 := by
    refine ⟨k - 1, ?_⟩
    rcases Nat.eq_zero_or_pos k with h0 | h0
    ·subst h0; simp at hk; omega
    ·omega
   have e3 : S * (k' + 1) = S * k' + S := by rw [Nat.mul_add]; omega
   have e4 : (h - 1) / S = k' := by
    rw [show h - 1 = S * k' + (S - 1) by omega, Nat.mul_add_div hS, Nat.div_eq_of_lt (by omega)]; rfl
   rw [e4]
   refine (key k' ?_ ?_).symm
   ·rw [em]; omega
   ·rw [em, e3]; omega
  ·rename_i hge
   split
   ·rename_i hgt
    refine (key k ?_ ?_).symm
    ·rw [em]; omega
    ·rw [em1]; omega
   ·rename_i hle
    have hWpos : 0 < 2 ^ 128 * S := Nat.mul_pos (by decide) hS
    have hWbig : 2 ^ 128 ≤ 2 ^ 128 * S := Nat.le_mul_of_pos_right _ hS
    simp only [Nat.or_zero]
    have hz1 : 2 ^ 128 * (S * k) ≤ Z + 2 ^ 64 - 1 := by omega
    have hz2 : Z ≤ 2 ^ 128 * (S * k) + 2 ^ 64 := by omega
    rcases hc with ⟨j, hj⟩ | ⟨c1, c2⟩
    ·have hjk : j = k := by
      have f1 : (j * (2 ^ 128 * S)) * pd ≤ Z * pd := by
       rw [show j * (2 ^ 128 * S) * pd = pd * (2 ^ 128 * S) * j by grind]; omega
      have f2 : Z * pd < (j * (2 ^ 128 * S) + x) * pd := by
       rw [Nat.add_mul, show j * (2 ^ 128 * S) * pd = pd * (2 ^ 128 * S) * j by grind]; omega
      have g1 : j * (2 ^ 128 * S) ≤ Z := Nat.le_of_mul_le_mul_right f1 hpd
      have g2 : Z < j * (2 ^ 128 * S) + x := Nat.lt_of_mul_lt_mul_right f2
      rcases Nat.lt_trichotomy j k with hl | hl | hl
      ·exfalso
       obtain ⟨d, rfl⟩ : ∃ d, k = j + 1 + d := ⟨k - j - 1, by omega⟩
       have : 2 ^ 128 * (S * (j + 1 + d)) = j * (2 ^ 128 * S) + 2 ^ 128 * S + d * (2 ^ 128 * S) := by grind
       omega
      ·exact hl
      ·exfalso
       obtain ⟨d, rfl⟩ : ∃ d, j = k + 1 + d := ⟨j - k - 1, by omega⟩
       have : (k + 1 + d) * (2 ^ 128 * S) = 2 ^ 128 * (S * k) + 2 ^ 128 * S + d * (2 ^ 128 * S) := by grind
       omega
     subst hjk
     rw [hj, Nat.mul_comm]
     exact (stk_exact _ _ (Nat.mul_pos hpd hWpos)).symm
    ·exfalso
     by_cases hzz : 2 ^ 128 * (S * k) ≤ Z
     ·have e5 : Z % (2 ^ 128 * S) = Z - 2 ^ 128 * (S * k) := by
       rw [show Z = (2 ^ 128 * S) * k + (Z - 2 ^ 128 * (S * k)) by rw [Nat.mul_assoc]; omega, Nat.mul_add_mod, Nat.mod_eq_of_lt (by omega), Nat.mul_assoc]; omega
      omega
     ·obtain ⟨k', rfl⟩ : ∃ k', k = k' + 1 := by
       refine ⟨k - 1, ?_⟩
       rcases Nat.eq_zero_or_pos k with h0 | h0
       ·subst h0; simp at hzz
       ·omega
      have e6 : 2 ^ 128 * (S * (k' + 1)) = (2 ^ 128 * S) * k' + 2 ^ 128 * S := by rw [Nat.mul_add, Nat.mul_add, Nat.mul_assoc]; omega
      have e5 : Z % (2 ^ 128 * S) = Z - (2 ^ 128 * S) * k' := by
       have hh : Z = (2 ^ 128 * S) * k' + (Z - (2 ^ 128 * S) * k') := by omega
       conv => lhs; rw [hh]
       rw [Nat.mul_add_mod, Nat.mod_eq_of_lt (by omega)]
      omega
def BIG : Nat := 2 ^ 256
def lb : Nat → Nat → Nat → Nat → Nat → Nat
 | 0, _, _, _, _ => 0
 | f + 1, a, m, L, R =>
  if a = 0 then BIG
  else if a * ((L + a - 1) / a) ≤ R then (L + a - 1) / a
  else (L + m * lb f (m % a) a (a * ((L + a - 1) / a) - R) (a * ((L + a - 1) / a) - L) + a - 1) / a
theorem cdiv_le {L a y : Nat} (ha : 0 < a) (h : L ≤ a * y) : (L + a - 1) / a ≤ y := by
 rw [Nat.div_le_iff_le_mul_add_pred ha]; omega
theorem lb_sound : ∀ (f a m L R : Nat), 0 < L → R < m → ∀ y, L ≤ a * y % m → a * y % m ≤ R → lb f a m L R ≤ y := by
 intro f
 induction f with
 | zero => intros; exact Nat.zero_le _
 | succ f ih =>
  intro a m L R hL hR y h1 h2
  unfold lb
  split
  ·rename_i h; subst h; simp at h1; omega
  ·rename_i ha
   have ha : 0 < a := by omega
   split
   ·exact cdiv_le ha (Nat.le_trans h1 (Nat.mod_le _ _))
   ·rename_i hgt
    have hdm := Nat.div_add_mod (a * y) m
    generalize hq : a * y / m = q at *
    generalize hr : a * y % m = r at *
    have ht1 : L ≤ a * ((L + a - 1) / a) := by
     have := Nat.div_add_mod (L + a - 1) a
     have := Nat.mod_lt (L + a - 1) ha
     omega
    have ht2 : a * ((L + a - 1) / a) ≤ L + a - 1 := Nat.mul_div_le _ _
    generalize (L + a - 1) / a = t at *
    have hmod : (m % a) * q % a = a * t - r := by
     have e : m * q + (r + 0) = a * y := by omega
     have e2 : m * q + a * t = a * y + (a * t - r) := by omega
     have e3 : (m * q + a * t) % a = (m * q) % a := Nat.add_mul_mod_self_left _ _ _
     have e4 : (a * y + (a * t - r)) % a = (a * t - r) % a := Nat.mul_add_mod _ _ _
     rw [Nat.mod_mul_mod, ← e3, e2, e4, Nat.mod_eq_of_lt (by omega)]
    have hy := ih (m % a) a (a * t - R) (a * t - L) (by omega) (by omega) q (by rw [hmod]; omega) (by rw [hmod]; omega)
    refine cdiv_le ha ?_
    have := Nat.mul_le_mul_left m hy
    omega
def log2Pow10 (p : Int) : Int := p * 108853 / 2 ^ 15
def log10Pow2 (q : Int) : Int := q * 78913 / 2 ^ 18
def skewed (q : Int) : Int := (q * 631305 - 261663) / 2 ^ 21
def pn (p : Int) : Nat := 10 ^ p.toNat * 2 ^ (127 - log2Pow10 p).toNat
def pd (p : Int) : Nat := 10 ^ (-p).toNat * 2 ^ (log2Pow10 p - 127).toNat
def pm (p : Int) : Nat := (pn p + pd p - 1) / pd p
def pmHi (p : Int) : Nat := (pm p + 2 ^ 64 - 1) / 2 ^ 64
def pmLo (p : Int) : Nat := pmHi p * 2 ^ 64 - pm p
theorem pd_pos (p : Int) : 0 < pd p := Nat.mul_pos (Nat.pow_pos (by decide)) (Nat.two_pow_pos _)
theorem pm_split (p : Int) : pmHi p * 2 ^ 64 - pmLo p = pm p ∧ pmLo p < 2 ^ 64 ∧ pmLo p ≤ pmHi p * 2 ^ 64 := by
 unfold pmLo
 have h : pm p ≤ pmHi p * 2 ^ 64 ∧ pmHi p * 2 ^ 64 < pm p + 2 ^ 64 := by unfold pmHi; omega
 omega
theorem pm_bounds (p : Int) : pn p + pd p * pmLo p ≤ pd p * (pmHi p * 2 ^ 64) ∧ pd p * (pmHi p * 2 ^ 64) < pn p + pd p * pmLo p + pd p := by
 obtain ⟨h1, h2, h3⟩ := pm_split p
 have e : pmHi p * 2 ^ 64 = pm p + pmLo p := by omega
 rw [e, Nat.mul_add]
 have hp := pd_pos p
 have g1 : pn p ≤ pd p * pm p := by
  unfold pm
  have := Nat.div_add_mod (pn p + pd p - 1) (pd p)
  have := Nat.mod_lt (pn p + pd p - 1) hp
  omega
 have g2 : pd p * pm p < pn p + pd p := by
  have := Nat.mul_div_le (pn p + pd p - 1) (pd p)
  have e2 : pd p * pm p ≤ pn p + pd p - 1 := this
  omega
 omega
def vv (p q : Int) : Nat := 2 ^ q.toNat * 10 ^ p.toNat
def uu (p q : Int) : Nat := 2 ^ (-q).toNat * 10 ^ (-p).toNat
theorem vv_pos (p q : Int) : 0 < vv p q := Nat.mul_pos (Nat.two_pow_pos _) (Nat.pow_pos (by decide))
theorem uu_pos (p q : Int) : 0 < uu p q := Nat.mul_pos (Nat.two_pow_pos _) (Nat.pow_pos (by decide))
theorem stk_cross (a b c d : Nat) (hb : 0 < b) (hd : 0 < d) (h : a * d = c * b) : stk a b = stk c d := by
 rw [← stk_scale d a b hd, ← stk_scale b c d hb, Nat.mul_comm d a, h, Nat.mul_comm c b, Nat.mul_comm d b]
theorem dvd_near {G a b : Nat} (h1 : G ∣ a) (h2 : G ∣ b) (h3 : a < b + G) (h4 : b < a + G) : a = b := by
 obtain ⟨m, rfl⟩ := h1
 obtain ⟨n, rfl⟩ := h2
 rcases Nat.lt_trichotomy m n with h | h | h
 ·exfalso
  have := Nat.mul_le_mul_left G (show m + 1 ≤ n from h)
  rw [Nat.mul_add] at this; omega
 ·rw [h]
 ·exfalso
  have := Nat.mul_le_mul_left G (show n + 1 ≤ m from h)
  rw [Nat.mul_add] at this; omega
theorem near_exact (p : Int) (x s : Nat) (hx : 0 < x) (hx' : x < 2 ^ 64)
  (c1 : 2 ^ 65 * 5 ^ (-p).toNat ≤ 2 ^ (127 - log2Pow10 p + p).toNat) (c2 : 0 ≤ 127 - log2Pow10 p + p) (c3 : 2 ^ 65 * 5 ^ (-p).toNat ≤ 2 ^ 128) (hp : p < 0) :
  (pd p * 2 ^ (128 + s)) ∣ x * pn p ∨ (2 ^ 64 < (x * pm p) % 2 ^ (128 + s) ∧ (x * pm p) % 2 ^ (128 + s) + 2 ^ 64 ≤ 2 ^ (128 + s)) := by
 obtain ⟨h1, h2, h3⟩ := pm_split p
 obtain ⟨hb1, hb2⟩ := pm_bounds p
 have hpd := pd_pos p
 have hlp : log2Pow10 p < 0 := by unfold log2Pow10; omega
 have hG : ∃ G, G ∣ pn p ∧ G ∣ pd p * 2 ^ (128 + s) ∧ 2 ^ 65 * pd p ≤ G := by
  refine ⟨2 ^ ((-p).toNat + min (127 - log2Pow10 p + p).toNat 128), ?_, ?_, ?_⟩
  ·unfold pn
   refine Nat.dvd_trans ?_ (Nat.dvd_mul_left _ _)
   exact Nat.pow_dvd_pow _ (by omega)
  ·unfold pd
   rw [show (log2Pow10 p - 127).toNat = 0 by omega, Nat.pow_zero, Nat.mul_one, show (10 : Nat) = 2 * 5 from rfl, Nat.mul_pow]
   rw [show 2 ^ (-p).toNat * 5 ^ (-p).toNat * 2 ^ (128 + s) = 5 ^ (-p).toNat * 2 ^ ((-p).toNat + (128 + s)) by rw [Nat.pow_add 2 (-p).toNat]; grind]
   refine Nat.dvd_trans ?_ (Nat.dvd_mul_left _ _)
   exact Nat.pow_dvd_pow _ (by omega)
  ·unfold pd
   rw [show (log2Pow10 p - 127).toNat = 0 by omega, Nat.pow_zero, Nat.mul_one, show (10 : Nat) = 2 * 5 from rfl, Nat.mul_pow]
   rw [Nat.pow_add, show 2 ^ 65 * (2 ^ (-p).toNat * 5 ^ (-p).toNat) = 2 ^ (-p).toNat * (2 ^ 65 * 5 ^ (-p).toNat) by grind]
   refine Nat.mul_le_mul_left _ ?_
   rcases Nat.le_total (127 - log2Pow10 p + p).toNat 128 with h | h
   ·rw [Nat.min_eq_left h]; exact c1
   ·rw [Nat.min_eq_right h]; exact c3
 obtain ⟨G, g1, g2, g3⟩ := hG
 have hWbig : 2 ^ 128 ≤ 2 ^ (128 + s) := Nat.pow_le_pow_right (by decide) (by omega)
 have hW : 0 < 2 ^ (128 + s) := Nat.two_pow_pos _
 have hdm := Nat.div_add_mod (x * pm p) (2 ^ (128 + s))
 have hml := Nat.mod_lt (x * pm p) hW
 have e0 : pmHi p * 2 ^ 64 = pm p + pmLo p := by omega
 have n1 : x * pn p ≤ (x * pm p) * pd p := by
  have : pn p ≤ pd p * pm p := by rw [e0, Nat.mul_add] at hb1; omega
  have := Nat.mul_le_mul_left x this
  rw [show (x * pm p) * pd p = x * (pd p * pm p) by grind]; exact this
 have n2 : (x * pm p) * pd p < x * pn p + x * pd p := by
  have : pd p * pm p < pn p + pd p := by rw [e0, Nat.mul_add] at hb2; omega
  have := Nat.mul_lt_mul_of_pos_left this hx
  rw [Nat.mul_add] at this
  rw [show (x * pm p) * pd p = x * (pd p * pm p) by grind]; exact this
 by_cases hnear : 2 ^ 64 < (x * pm p) % 2 ^ (128 + s) ∧ (x * pm p) % 2 ^ (128 + s) + 2 ^ 64 ≤ 2 ^ (128 + s)
 ·exact .inr hnear
 left
 generalize 2 ^ (128 + s) = W at *
 generalize x * pm p / W = j at *
 generalize x * pm p % W = r at *
 have d1 : G ∣ x * pn p := Nat.dvd_trans g1 (Nat.dvd_mul_left _ _)
 have hxpd : x * pd p ≤ 2 ^ 64 * pd p := Nat.mul_le_mul_right _ (by omega)
 have g3' : 2 ^ 65 * pd p = 2 ^ 64 * pd p + 2 ^ 64 * pd p := by omega
 by_cases hr : r ≤ 2 ^ 64
 ·have e1 : x * pm p * pd p = j * (pd p * W) + r * pd p := by rw [← hdm]; grind
  have hrp : r * pd p ≤ 2 ^ 64 * pd p := Nat.mul_le_mul_right _ hr
  have e2 : x * pn p = j * (pd p * W) := by
   refine dvd_near d1 (Nat.dvd_trans g2 (Nat.dvd_mul_left _ _)) ?_ ?_ <;> omega
  rw [e2]; exact Nat.dvd_mul_left _ _
 ·obtain ⟨r', hr'⟩ : ∃ r', r + r' = W ∧ r' < 2 ^ 64 := ⟨W - r, by omega, by omega⟩
  have e1 : x * pm p * pd p + r' * pd p = (j + 1) * (pd p * W) := by rw [← hdm, ← Nat.add_mul, Nat.add_assoc, hr'.1]; grind
  have hrp : r' * pd p ≤ 2 ^ 64 * pd p := Nat.mul_le_mul_right _ (by omega)
  have e2 : x * pn p = (j + 1) * (pd p * W) := by
   refine dvd_near d1 (Nat.dvd_trans g2 (Nat.dvd_mul_left _ _)) ?_ ?_ <;> omega
  rw [e2]; exact Nat.dvd_mul_left _ _
def chk (z0 N : Nat) (p q : Int) : Bool :=
 if -27 ≤ p ∧ p < 0 then
  decide (2 ^ 65 * 5 ^ (-p).toNat ≤ 2 ^ (127 - log2Pow10 p + p).toNat) && decide (0 ≤ 127 - log2Pow10 p + p) && decide (2 ^ 65 * 5 ^ (-p).toNat ≤ 2 ^ 128)
 else
  let M := 2 ^ (127 - q - log2Pow10 p).toNat
  let D := 2 ^ (66 - z0)
  let a := pm p % M
  decide (0 ≤ 127 - q - log2Pow10 p) && decide (2 * D < M) && decide (N < lb 400 a M 1 D) && decide (N < lb 400 a M (M - D) (M - 1)) &&
   ((pm p * pd p == pn p) || decide (N < M / Nat.gcd (pm p) M))
theorem usc_at (z0 N : Nat) (p q : Int) (z : Nat) (y s : Nat) (hc : chk z0 N p q = true) (hz0 : 2 ≤ z0) (hz : z0 ≤ z) (hz' : z ≤ 66)
  (hs : (s : Int) = z - q - log2Pow10 p - 3) (hy : 0 < y) (hyN : y ≤ N) (hx' : y * 2 ^ (z - 2) < 2 ^ 64)
  (hh : 0 < y * 2 ^ (z - 2) * pmHi p / 2 ^ 64) :
  usc (y * 2 ^ (z - 2)) (pmHi p) (pmLo p) s = unr (y * vv p q) (4 * uu p q) := by
 obtain ⟨hs1, hs2, hs3⟩ := pm_split p
 obtain ⟨hb1, hb2⟩ := pm_bounds p
 have hpd := pd_pos p
 have hx : 0 < y * 2 ^ (z - 2) := Nat.mul_pos hy (Nat.two_pow_pos _)
 rw [usc_exact (y * 2 ^ (z - 2)) (pmHi p) (pmLo p) s (pn p) (pd p) hx hx' hs2 hpd hh hb1 hb2 ?_]
 ·rw [unr_stk]
  refine stk_cross _ _ _ _ (Nat.mul_pos hpd (Nat.two_pow_pos _)) (Nat.mul_pos (by decide) (uu_pos _ _)) ?_
  unfold pn pd vv uu
  have e : 2 ^ (z - 2) * (2 ^ (127 - log2Pow10 p).toNat * (4 * 2 ^ (-q).toNat)) = 4 * (2 ^ q.toNat * (2 ^ (log2Pow10 p - 127).toNat * 2 ^ (128 + s))) := by
   rw [show (4 : Nat) = 2 ^ 2 from rfl]
   simp only [← Nat.pow_add]
   congr 1
   omega
  have e2 : ∀ a b c d k : Nat, y * a * (k * b) * (4 * (c * d)) = (y * k * d) * (a * (b * (4 * c))) := by intros; grind
  have e3 : ∀ a b c d k : Nat, 4 * (y * (a * k)) * (d * b * c) = (y * k * d) * (4 * (a * (b * c))) := by intros; grind
  rw [e2, e3, e]
 ·
  rw [hs1]
  generalize hxx : y * 2 ^ (z - 2) = x at *
  unfold chk at hc
  split at hc
  ·rename_i hp
   simp only [Bool.and_eq_true, decide_eq_true_eq] at hc
   obtain ⟨⟨c1, c2⟩, c3⟩ := hc
   exact near_exact p x s hx hx' c1 c2 c3 hp.2
  ·rename_i hp
   simp only [Bool.and_eq_true, Bool.or_eq_true, decide_eq_true_eq, beq_iff_eq] at hc
   obtain ⟨⟨⟨⟨c1, c2⟩, c3⟩, c4⟩, c5⟩ := hc
   have eW : 2 ^ (128 + s) = 2 ^ (z - 2) * 2 ^ (127 - q - log2Pow10 p).toNat := by
    rw [← Nat.pow_add]; congr 1; omega
   have eX : x * pm p % 2 ^ (128 + s) = 2 ^ (z - 2) * (pm p * y % 2 ^ (127 - q - log2Pow10 p).toNat) := by
    rw [eW, ← hxx, ← Nat.mul_mod_mul_left]; congr 1; grind
   generalize hM : 2 ^ (127 - q - log2Pow10 p).toNat = M at *
   have hMp : 0 < M := by rw [← hM]; exact Nat.two_pow_pos _
   have hD : 2 ^ 64 ≤ 2 ^ (z - 2) * 2 ^ (66 - z0) := by
    rw [← Nat.pow_add]; exact Nat.pow_le_pow_right (by decide) (by omega)
   generalize 2 ^ (66 - z0) = D at *
   have hr : pm p % M * y % M = pm p * y % M := by rw [Nat.mod_mul_mod]
   have hlt := Nat.mod_lt (pm p * y) hMp
   have n1 : ¬ (1 ≤ pm p * y % M ∧ pm p * y % M ≤ D) := by
    rintro ⟨g1, g2⟩
    have := lb_sound 400 (pm p % M) M 1 D (by omega) (by omega) y (by rw [hr]; exact g1) (by rw [hr]; exact g2)
    omega
   have n2 : ¬ (M - D ≤ pm p * y % M) := by
    intro g1
    have := lb_sound 400 (pm p % M) M (M - D) (M - 1) (by omega) (by omega) y (by rw [hr]; exact g1) (by rw [hr]; omega)
    omega
   rw [eX, eW]
   by_cases hz : pm p * y % M = 0
   ·left
    rcases c5 with c5 | c5
    ·rw [← c5, show x * (pm p * pd p) = pd p * (x * pm p) by grind]
     refine Nat.mul_dvd_mul_left _ ?_
     rw [← hxx]
     have : M ∣ pm p * y := Nat.dvd_of_mod_eq_zero hz
     rw [show y * 2 ^ (z - 2) * pm p = 2 ^ (z - 2) * (pm p * y) by grind]
     exact Nat.mul_dvd_mul_left _ this
    ·exfalso
     have hd : M ∣ pm p * y := Nat.dvd_of_mod_eq_zero hz
     have hg : 0 < Nat.gcd (pm p) M := Nat.gcd_pos_of_pos_right _ hMp
     have h3 : M / Nat.gcd (pm p) M ∣ y := by
      have hco : Nat.Coprime (M / Nat.gcd (pm p) M) (pm p / Nat.gcd (pm p) M) := (Nat.coprime_div_gcd_div_gcd hg).symm
      refine hco.dvd_of_dvd_mul_left ?_
      refine Nat.dvd_of_mul_dvd_mul_left hg ?_
      rw [Nat.mul_div_cancel' (Nat.gcd_dvd_right _ _), ← Nat.mul_assoc, Nat.mul_div_cancel' (Nat.gcd_dvd_left _ _)]
      exact hd
     have := Nat.le_of_dvd hy h3
     omega
   ·right
    have g1 : D + 1 ≤ pm p * y % M := by omega
    have g2 : pm p * y % M + D ≤ M := by omega
    have e1 := Nat.mul_le_mul_left (2 ^ (z - 2)) g1
    have e2 := Nat.mul_le_mul_left (2 ^ (z - 2)) g2
    rw [Nat.mul_add] at e1 e2
    have : 0 < 2 ^ (z - 2) := Nat.two_pow_pos _
    omega
end Nm
