/- NumberPrints: the table of powers of ten, checked. No conditions beyond each theorem's own. -/
import Derived.Test.YtepfodmbjojdbaaGreatDoorQ03
import GoSem.PinnedTables
set_option linter.all false
namespace Nm
section
def chkAll (z0 N : Nat) (lo : Int) : Nat → Bool
 | 0 => true
 | n + 1 => chk z0 N (-log10Pow2 (lo + n)) (lo + n) && chk z0 N (-skewed (lo + n)) (lo + n) && chkAll z0 N lo n
theorem chkAll_at (z0 N : Nat) (lo : Int) : ∀ (n : Nat) (k : Nat), k < n → chkAll z0 N lo n = true → chk z0 N (-log10Pow2 (lo + k)) (lo + k) = true ∧ chk z0 N (-skewed (lo + k)) (lo + k) = true
 | 0, k, h, _ => absurd h (by omega)
 | n + 1, k, h, hc => by
  simp only [chkAll, Bool.and_eq_true] at hc
  rcases Nat.lt_or_ge k n with h1 | h1
  ·exact chkAll_at z0 N lo n k h1 hc.2
  ·have : k = n := by omega
   subst this
   exact hc.1
def rng (q : Int) : Bool :=
 decide (uu (-log10Pow2 q) q ≤ vv (-log10Pow2 q) q) && decide (vv (-log10Pow2 q) q < 10 * uu (-log10Pow2 q) q) &&
  decide (4 * uu (-skewed q) q ≤ 3 * vv (-skewed q) q) && decide (3 * vv (-skewed q) q < 40 * uu (-skewed q) q)
def rngAll (lo : Int) : Nat → Bool
 | 0 => true
 | n + 1 => rng (lo + n) && rngAll lo n
theorem rngAll_at (lo : Int) : ∀ (n : Nat) (k : Nat), k < n → rngAll lo n = true → rng (lo + k) = true
 | 0, k, h, _ => absurd h (by omega)
 | n + 1, k, h, hc => by
  simp only [rngAll, Bool.and_eq_true] at hc
  rcases Nat.lt_or_ge k n with h1 | h1
  ·exact rngAll_at lo n k h1 hc.2
  ·have : k = n := by omega
   subst this
   exact hc.1
def tabOk : List (Nat × Nat) → Int → Bool
 | [], _ => true
 | x :: r, p => decide (x.1 = pmHi p) && decide (x.2 = pmLo p) && decide (2 ^ 63 ≤ pmHi p) && decide (pmHi p < 2 ^ 64) && tabOk r (p + 1)
theorem tabOk_at : ∀ (l : List (Nat × Nat)) (p : Int) (i : Nat), tabOk l p = true → i < l.length → l[i]? = some (pmHi (p + i), pmLo (p + i)) ∧ 2 ^ 63 ≤ pmHi (p + i) ∧ pmHi (p + i) < 2 ^ 64
 | [], p, i, _, h => absurd h (by simp)
 | x :: r, p, i, hc, h => by
  simp only [tabOk, Bool.and_eq_true, decide_eq_true_eq] at hc
  cases i with
  | zero =>
   obtain ⟨⟨⟨⟨h1, h2⟩, h3⟩, h4⟩, h5⟩ := hc
   simp only [Int.natCast_zero, Int.add_zero, List.getElem?_cons_zero]
   refine ⟨?_, h3, h4⟩
   rw [← h1, ← h2]
  | succ i =>
   have := tabOk_at r (p + 1) i hc.2 (by simpa using h)
   rw [show p + ((i + 1 : Nat) : Int) = p + 1 + i by omega]
   simpa using this
set_option maxRecDepth 1000000
theorem c32 : chkAll 40 (2 ^ 27) (-149) 254 = true := by decide +kernel
theorem rAll : rngAll (-1074) 2046 = true := by decide +kernel
theorem tab : tabOk Go.Pinned.pow10Rows (-348) = true := by decide +kernel
theorem tabLen : Go.Pinned.pow10Rows.length = 696 := by decide +kernel
end
section
set_option maxRecDepth 1000000
theorem c64 : chkAll 11 (2 ^ 56) (-1074) 2046 = true := by decide +kernel
end
end Nm
