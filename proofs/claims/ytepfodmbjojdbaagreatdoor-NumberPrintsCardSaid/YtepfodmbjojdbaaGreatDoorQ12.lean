/- NumberPrints: the contracts of strconv's shortFloat. No conditions beyond each theorem's own. -/
import Derived.Test.YtepfodmbjojdbaaGreatDoorQ10
import Derived.Test.YtepfodmbjojdbaaGreatDoorQ11
import Derived.Test.YtepfodmbjojdbaaGreatDoorQ07
set_option linter.all false
namespace Go.Proofs.YtepfodmbjojdbaaGreatDoor.Num
open _root_.Nm
theorem geom (z mm : Nat) (hz : 2 ≤ z) (hmm : 1 ≤ mm) : (4 * mm - 2) * 2 ^ (z - 2) + 2 ^ (z - 1) = mm * 2 ^ z ∧ (4 * mm + 2) * 2 ^ (z - 2) = mm * 2 ^ z + 2 ^ (z - 1) ∧
  (4 * mm - 1) * 2 ^ (z - 2) + 2 ^ (z - 2) = mm * 2 ^ z ∧ 4 * mm * 2 ^ (z - 2) = mm * 2 ^ z := by
 obtain ⟨k, rfl⟩ : ∃ k, z = k + 2 := ⟨z - 2, by omega⟩
 obtain ⟨n, rfl⟩ : ∃ n, mm = n + 1 := ⟨mm - 1, by omega⟩
 have e1 : 2 ^ (k + 1) = 2 * 2 ^ k := by rw [Nat.pow_succ]; omega
 have e2 : 2 ^ (k + 2) = 4 * 2 ^ k := by rw [Nat.pow_succ, e1]; omega
 rw [show k + 2 - 2 = k by omega, show k + 2 - 1 = k + 1 by omega, e1, e2, show 4 * (n + 1) - 2 = 4 * n + 2 by omega, show 4 * (n + 1) - 1 = 4 * n + 3 by omega]
 clear e1 e2
 generalize 2 ^ k = P
 refine ⟨by grind, by grind, by grind, by grind⟩
theorem tab_at (p : Int) (hp : -348 ≤ p ∧ p ≤ 347) : 2 ^ 63 ≤ pmHi p ∧ pmHi p < 2 ^ 64 := by
 have := tabOk_at _ _ (p + 348).toNat tab (by rw [tabLen]; omega)
 rw [show -348 + (((p + 348).toNat : Nat) : Int) = p by omega] at this
 exact this.2
theorem usc_small (x hi lo s : Nat) (hx : x < 2 ^ 64) (hhi : hi < 2 ^ 64) (hs : 5 ≤ s) : usc x hi lo s < 2 ^ 59 := by
 have h1 : x * hi / 2 ^ 64 < 2 ^ 64 := by
  rw [Nat.div_lt_iff_lt_mul (by decide)]
  exact Nat.mul_lt_mul'' hx hhi
 have h2 : ∀ n, n < 2 ^ 64 → n / 2 ^ s < 2 ^ 59 := by
  intro n hn
  have h3 : n / 2 ^ s ≤ n / 2 ^ 5 := Nat.div_le_div_left (Nat.pow_le_pow_right (by decide) hs) (by decide)
  omega
 unfold usc
 generalize x * hi / 2 ^ 64 = h at *
 split
 ·exact Nat.or_lt_two_pow (h2 _ h1) (by decide)
 ·split
  ·exact Nat.or_lt_two_pow (h2 _ (by omega)) (by decide)
  ·exact Nat.or_lt_two_pow (h2 _ h1) (by split <;> decide)
theorem usc_unr (z0 N : Nat) (p q : Int) (z y s : Nat) (hc : chk z0 N p q = true) (hp : -348 ≤ p ∧ p ≤ 347) (hz0 : 2 ≤ z0) (hz : z0 ≤ z) (hz' : z ≤ 63)
  (hs : (s : Int) = z - q - log2Pow10 p - 3) (hs5 : 5 ≤ s) (hy : 0 < y) (hyN : y ≤ N) (h1 : 2 ^ 62 ≤ y * 2 ^ (z - 2)) (h2 : y * 2 ^ (z - 2) < 2 ^ 64) :
  usc (y * 2 ^ (z - 2)) (pmHi p) (pmLo p) s = unr (y * vv p q) (4 * uu p q) ∧ unr (y * vv p q) (4 * uu p q) < 2 ^ 59 ∧ 0 < y * 2 ^ (z - 2) * pmHi p / 2 ^ 64 := by
 obtain ⟨t1, t2⟩ := tab_at p hp
 have hh : 0 < y * 2 ^ (z - 2) * pmHi p / 2 ^ 64 := by
  have : 2 ^ 62 * 2 ^ 63 ≤ y * 2 ^ (z - 2) * pmHi p := Nat.mul_le_mul h1 t1
  refine Nat.div_pos ?_ (by decide)
  refine Nat.le_trans ?_ this
  decide
 have e := usc_at z0 N p q z y s hc hz0 hz (by omega) hs hy hyN h2 hh
 exact ⟨e, by rw [← e]; exact usc_small _ _ _ _ h2 t2 hs5, hh⟩
def scP (asym : Prop) [Decidable asym] (q : Int) : Int := if asym then -skewed q else -log10Pow2 q
def yLo (asym : Prop) [Decidable asym] (mm : Nat) : Nat := if asym then 4 * mm - 1 else 4 * mm - 2
theorem scP_range (asym : Prop) [Decidable asym] (q : Int) (hq : -1074 ≤ q ∧ q ≤ 971) : -293 ≤ scP asym q ∧ scP asym q ≤ 325 ∧ -1100 ≤ log2Pow10 (scP asym q) ∧ log2Pow10 (scP asym q) ≤ 1100 ∧ -2 ≤ q + log2Pow10 (scP asym q) ∧ q + log2Pow10 (scP asym q) ≤ 3 := by
 unfold scP
 split
 ·unfold skewed log2Pow10; omega
 ·unfold log10Pow2 log2Pow10; omega
theorem dmin_of (asym : Prop) [Decidable asym] (mm : Nat) (q p : Int) :
  (unr (yLo asym mm * vv p q) (4 * uu p q) + mm % 2 + 3) / 4 = dminN asym mm q p := by
 have hb : 0 < 4 * uu p q := Nat.mul_pos (by decide) (uu_pos p q)
 unfold dminN yLo
 by_cases h : mm % 2 = 1
 ·rw [if_pos h, h, unr_ceil_up _ _ hb]
 ·rw [if_neg h, show mm % 2 = 0 by omega, Nat.add_zero, unr_ceil _ _ hb]
theorem dmax_of (mm : Nat) (q p : Int) (hm : 1 ≤ mm) :
  (unr ((4 * mm + 2) * vv p q) (4 * uu p q) - mm % 2) / 4 = dmaxN mm q p ∧ mm % 2 ≤ unr ((4 * mm + 2) * vv p q) (4 * uu p q) := by
 have hb : 0 < 4 * uu p q := Nat.mul_pos (by decide) (uu_pos p q)
 have ha : 0 < (4 * mm + 2) * vv p q := Nat.mul_pos (by omega) (vv_pos p q)
 obtain ⟨f1, f2⟩ := unr_floor_down _ _ hb ha
 unfold dmaxN
 by_cases h : mm % 2 = 1
 ·rw [if_pos h, h]; exact ⟨f1, f2⟩
 ·rw [if_neg h, show mm % 2 = 0 by omega, Nat.sub_zero, unr_floor _ _ hb]; exact ⟨rfl, Nat.zero_le _⟩
theorem round_of (mm : Nat) (q p : Int) : (unr (4 * mm * vv p q) (4 * uu p q) + 1 + unr (4 * mm * vv p q) (4 * uu p q) / 4 % 2) / 4 = rnd (mm * vv p q) (uu p q) := by
 have hb : 0 < 4 * uu p q := Nat.mul_pos (by decide) (uu_pos p q)
 rw [unr_round _ _ hb, Nat.mul_assoc, rnd_scale 4 _ _ (by decide)]
section
open Go Go.RowKit YtepfodmbjojdbaaGreatDoorW.PrintWords YtepfodmbjojdbaaGreatDoorW.PrintMore PNumberPrints
set_option maxHeartbeats 1600000
def PowTab (w : World) : Prop := ∀ p : Int, -348 ≤ p → p ≤ 347 → PowAt p (pmHi p) (pmLo p) w
theorem PowTab.below {w w' : World} (h : PowTab w) (hb : Below w.heap.size w w') : PowTab w' := fun p h1 h2 => (h p h1 h2).below hb
theorem and1_i64 (n : Nat) (hn : n < 9223372036854775808) : bits BinOp.and IntKind.i64 (wrap64 (n : Int)) 1 = ((n % 2 : Nat) : Int) := by
 rw [w64 (by omega)]
 have hk : (BitVec.ofInt 64 1).toNat = 2 ^ 1 - 1 := by decide
 have key : (BitVec.ofInt 64 (n : Int) &&& BitVec.ofInt 64 1).toNat = ((n : Int) % ((2 ^ 64 : Nat) : Int)).toNat % 2 ^ 1 := by
  rw [BitVec.toNat_and, BitVec.toNat_ofInt, hk, Nat.and_two_pow_sub_one_eq_mod]
 show IntKind.i64.wrap ((BitVec.ofInt 64 (n : Int) &&& BitVec.ofInt 64 1).toNat : Nat) = _
 rw [key, IntKind.wrap_i64]
 omega
theorem facts32 (mm z s : Nat) (q : Int) (asym : Prop) [Decidable asym] (hm : 1 ≤ mm) (hmx : mm < 2 ^ 24) (hq : (-149) ≤ q ∧ q ≤ 104) (hz : 40 ≤ z) (hz' : z ≤ 63) (h1 : 2 ^ 63 ≤ mm * 2 ^ z) (h2 : mm * 2 ^ z + 2 ^ z ≤ 2 ^ 64)
  (hs : (s : Int) = z - q - log2Pow10 (scP asym q) - 3) (hs5 : 5 ≤ s) (y : Nat) (hy1 : 4 * mm - 2 ≤ y) (hy2 : y ≤ 4 * mm + 2) :
  usc (y * 2 ^ (z - 2)) (pmHi (scP asym q)) (pmLo (scP asym q)) s = unr (y * vv (scP asym q) q) (4 * uu (scP asym q) q) ∧ unr (y * vv (scP asym q) q) (4 * uu (scP asym q) q) < 2 ^ 59 ∧
   0 < y * 2 ^ (z - 2) * pmHi (scP asym q) / 2 ^ 64 ∧ y * 2 ^ (z - 2) < 2 ^ 64 := by
 obtain ⟨g1, g2, g3, g4⟩ := geom z mm (by omega) hm
 have hr := scP_range asym q (by omega)
 have hz2 : 2 ^ (z - 1) ≤ 2 ^ 62 := Nat.pow_le_pow_right (by decide) (by omega)
 have hz3 : 2 ^ z = 2 * 2 ^ (z - 1) := by obtain ⟨k, rfl⟩ : ∃ k, z = k + 1 := ⟨z - 1, by omega⟩; rw [Nat.pow_succ, show k + 1 - 1 = k by omega]; omega
 have hz4 : 0 < 2 ^ (z - 1) := Nat.two_pow_pos _
 have k1 : (4 * mm - 2) * 2 ^ (z - 2) ≤ y * 2 ^ (z - 2) := Nat.mul_le_mul_right _ hy1
 have k2 : y * 2 ^ (z - 2) ≤ (4 * mm + 2) * 2 ^ (z - 2) := Nat.mul_le_mul_right _ hy2
 have k3 : 2 ^ 62 ≤ y * 2 ^ (z - 2) := by omega
 have k4 : y * 2 ^ (z - 2) < 2 ^ 64 := by omega
 have hc := chkAll_at 40 (2 ^ 27) ((-149)) 254 (q + 149).toNat (by omega) c32
 rw [show ((-149) : Int) + (((q + 149).toNat : Nat) : Int) = q by omega] at hc
 have hc' : chk 40 (2 ^ 27) (scP asym q) q = true := by
  unfold scP; split
  ·exact hc.2
  ·exact hc.1
 have hyb : y ≤ 2 ^ 27 := by omega
 clear k1 k2 g1 g2 g3 g4 hz2 hz3 hz4 h1 h2
 obtain ⟨r1, r2, r3⟩ := usc_unr 40 (2 ^ 27) (scP asym q) q z y s hc' (by omega) (by decide) hz hz' hs hs5 (by omega) hyb k3 k4
 exact ⟨r1, r2, r3, k4⟩
theorem short32 (mm z : Nat) (q : Int) (w : World) (hm : 1 ≤ mm) (hmx : mm < 2 ^ 24) (hq : (-149) ≤ q ∧ q ≤ 104) (hz : 40 ≤ z) (hz' : z ≤ 63) (h1 : 2 ^ 63 ≤ mm * 2 ^ z) (h2 : mm * 2 ^ z + 2 ^ z ≤ 2 ^ 64)
  (hsub : z = 40 ∨ q = (-149)) (hT : PowTab w) :
  Calls Tryz.prog 200 #[.int .u64 ((mm * 2 ^ z : Nat) : Int), .int .i64 (q - z)] w (Rt w (.tuple #[.int .u64 ((goPick (mm = 2 ^ 23 ∧ (-149) < q) mm q (scP (mm = 2 ^ 23 ∧ (-149) < q) q)).1 : Int), .int .i64 (-(goPick (mm = 2 ^ 23 ∧ (-149) < q) mm q (scP (mm = 2 ^ 23 ∧ (-149) < q) q)).2)])) := by
 have hr := scP_range (mm = 2 ^ 23 ∧ (-149) < q) q (by omega)
 obtain ⟨s, hs⟩ : ∃ s : Nat, (s : Int) = z - q - log2Pow10 (scP (mm = 2 ^ 23 ∧ (-149) < q) q) - 3 := ⟨(z - q - log2Pow10 (scP (mm = 2 ^ 23 ∧ (-149) < q) q) - 3).toNat, by omega⟩
 have hs5 : 5 ≤ s ∧ s < 64 := by omega
 have FA := facts32 mm z s q (mm = 2 ^ 23 ∧ (-149) < q) hm hmx hq hz hz' h1 h2 hs hs5.1
 obtain ⟨g1, g2, g3, g4⟩ := geom z mm (by omega) hm
 have dmn := dmin_of (mm = 2 ^ 23 ∧ (-149) < q) mm q (scP (mm = 2 ^ 23 ∧ (-149) < q) q)
 have dmx := dmax_of mm q (scP (mm = 2 ^ 23 ∧ (-149) < q) q) hm
 have drd := round_of mm q (scP (mm = 2 ^ 23 ∧ (-149) < q) q)
 have hP := hT (scP (mm = 2 ^ 23 ∧ (-149) < q) q) (by omega) (by omega)
 have F0 := FA (yLo (mm = 2 ^ 23 ∧ (-149) < q) mm) (by unfold yLo; split <;> omega) (by unfold yLo; split <;> omega)
 have F1 := FA (4 * mm + 2) (by omega) (by omega)
 have F2 := FA (4 * mm) (by omega) (by omega)
 clear FA
 have hlo64 := (pm_split (scP (mm = 2 ^ 23 ∧ (-149) < q) q)).2.1
 have hhi64 := (tab_at (scP (mm = 2 ^ 23 ∧ (-149) < q) q) (by omega)).2
 obtain ⟨res, rp, hrr⟩ : ∃ (res : Nat) (rp : Int), goPick (mm = 2 ^ 23 ∧ (-149) < q) mm q (scP (mm = 2 ^ 23 ∧ (-149) < q) q) = (res, rp) := ⟨_, _, rfl⟩
 rw [hrr]
 have hpa : (mm = 2 ^ 23 ∧ (-149) < q) → scP (mm = 2 ^ 23 ∧ (-149) < q) q = -skewed q ∧ yLo (mm = 2 ^ 23 ∧ (-149) < q) mm = 4 * mm - 1 := fun h => ⟨if_pos h, if_pos h⟩
 have hpn : ¬ (mm = 2 ^ 23 ∧ (-149) < q) → scP (mm = 2 ^ 23 ∧ (-149) < q) q = -log10Pow2 q ∧ yLo (mm = 2 ^ 23 ∧ (-149) < q) mm = 4 * mm - 2 := fun h => ⟨if_neg h, if_neg h⟩
 generalize scP (mm = 2 ^ 23 ∧ (-149) < q) q = p at *
 generalize yLo (mm = 2 ^ 23 ∧ (-149) < q) mm = y0 at *
 unfold goPick at hrr
 generalize dminN (mm = 2 ^ 23 ∧ (-149) < q) mm q p = d0 at *
 generalize dmaxN mm q p = d1 at *
 generalize rnd (mm * vv p q) (uu p q) = r at *
 rw [← g4] at h1 h2 ⊢
 rw [← g4] at g1 g2 g3
 generalize 4 * mm * 2 ^ (z - 2) = m at *
 generalize (4 * mm + 2) * 2 ^ (z - 2) = x1 at *
 generalize hx0 : y0 * 2 ^ (z - 2) = x0 at *
 generalize unr (y0 * vv p q) (4 * uu p q) = u0 at *
 generalize unr ((4 * mm + 2) * vv p q) (4 * uu p q) = u1 at *
 generalize unr (4 * mm * vv p q) (4 * uu p q) = u2 at *
 generalize pmHi p = hi at *
 generalize pmLo p = lo at *
 generalize hlp : log2Pow10 p = lp at *
 have hres : (d0 ≤ d1 / 10 * 10 → res = d1 / 10 ∧ -rp = -(p - 1)) ∧ (¬ d0 ≤ d1 / 10 * 10 → d0 < d1 → res = r ∧ -rp = -p) ∧ (¬ d0 ≤ d1 / 10 * 10 → ¬ d0 < d1 → res = d0 ∧ -rp = -p) := by
  refine ⟨fun a => ?_, fun a b => ?_, fun a b => ?_⟩
  ·rw [if_pos a] at hrr; obtain ⟨rfl, rfl⟩ := Prod.mk.inj hrr; exact ⟨rfl, rfl⟩
  ·rw [if_neg a, if_pos b] at hrr; obtain ⟨rfl, rfl⟩ := Prod.mk.inj hrr; exact ⟨rfl, rfl⟩
  ·rw [if_neg a, if_neg b] at hrr; obtain ⟨rfl, rfl⟩ := Prod.mk.inj hrr; exact ⟨rfl, rfl⟩
 clear hrr hT
 have H0 := fun w' (hS : Sc w.heap.size hi lo s w') => uscale_any x0 hi lo s w.heap.size w' hS.c0 hS.c1 hS.c2 hs5.2 F0.2.2.2 hhi64 hlo64 F0.2.2.1
 have H1 := fun w' (hS : Sc w.heap.size hi lo s w') => uscale_any x1 hi lo s w.heap.size w' hS.c0 hS.c1 hS.c2 hs5.2 F1.2.2.2 hhi64 hlo64 F1.2.2.1
 have H2 := fun w' (hS : Sc w.heap.size hi lo s w') => uscale_any m hi lo s w.heap.size w' hS.c0 hS.c1 hS.c2 hs5.2 F2.2.2.2 hhi64 hlo64 F2.2.2.1
 rw [F0.1] at H0
 rw [F1.1] at H1
 rw [F2.1] at H2
 have b0 := F0.2.1
 have b1 := F1.2.1
 have b2 := F2.2.1
 have b4 := F0.2.2.2
 have b5 := F1.2.2.2
 have b6 := F2.2.2.2
 clear F0 F1 F2 hlo64 hhi64
 have N0 := fun w => nudge_any u0 ((mm % 2 : Nat) : Int) (u0 + mm % 2) w (by omega) (by omega) (by omega)
 have N1 := fun w => nudge_any u1 (-((mm % 2 : Nat) : Int)) (u1 - mm % 2) w (by omega) (by omega) (by omega)
 have K0 := fun w => ceil_any (u0 + mm % 2) w (by omega)
 have K1 := fun w => floor_any (u1 - mm % 2) w (by omega)
 have K2 := fun w => round_any u2 w (by omega)
 rw [dmn] at K0
 rw [dmx.1] at K1
 rw [drd] at K2
 have L1 := fun w => log2Pow10_any p w (by omega)
 rw [hlp] at L1
 have PR := fun w (hw : PowAt p hi lo w) => prescale_new (q - z) p lp hi lo s w hw (by omega) (by omega) (by omega)
 have hd1 : d1 < 2 ^ 62 := by omega
 have T1 : IntKind.u64.wrap ((d1 : Int) / 10) = ((d1 / 10 : Nat) : Int) := by rw [wu64 (by omega)]; omega
 have T2 : IntKind.u64.wrap (((d1 / 10 : Nat) : Int) * 10) = ((d1 / 10 * 10 : Nat) : Int) := by rw [wu64 (by omega)]; omega
 have T3 : wrap64 (-p) = -p := w64 (by omega)
 have T4 : wrap64 (p - 1) = p - 1 := w64 (by omega)
 have T5 : wrap64 (-(p - 1)) = -(p - 1) := w64 (by omega)
 have T6 : wrap64 (-((mm % 2 : Nat) : Int)) = -((mm % 2 : Nat) : Int) := w64 (by omega)
 have hmm63 : mm < 9223372036854775808 := by
  have : (2 : Nat) ^ 24 ≤ 2 ^ 62 := by decide
  omega
 by_cases hA : mm = 2 ^ 23 ∧ (-149) < q
 ·obtain ⟨hp1, hp2⟩ := hpa hA
  have hzz : z = 40 := by omega
  subst hzz
  have hm63 : m = 9223372036854775808 := by rw [g4, hA.1]
  have hq1 := hA.2
  have L0 := fun w => skewed_any q w (by omega)
  have hx : x0 + 2 ^ (40 - 2) = m := by rw [← hx0, hp2]; exact g3
  simp only [Nat.reduceSub, Nat.reducePow] at hx g2 g4
  clear g1 g3 h1 h2 hs hs5 dmx dmn hpa hpn hlp
  exact short_asym_32 m hi lo s x0 x1 (mm % 2) 0 (q - (40 : Nat)) q p lp u0 u1 u2 (u0 + mm % 2) (u1 - mm % 2) d0 d1 r w hP PR L1 H0 H1 H2 _ _ _ _ _ T1 T2 T3 T4 T5 res (-rp) hres _ T6 N0 N1 K0 K1 K2
   (show ((m : Int) == 9223372036854775808) = true by rw [hm63]; rfl) (show decide (((-189)) < q - ((40 : Nat) : Int)) = true by simp; omega)
   (show wrap64 (q - ((40 : Nat) : Int) + 40) = q by rw [w64 (by omega)]; omega) (show wrap64 (-(skewed q)) = p by rw [← hp1]; exact w64 (by omega))
   (show IntKind.u64.wrap ((m : Int) - _) = (x0 : Int) by rw [wu64 (by omega)]; omega) (show IntKind.u64.wrap ((m : Int) + _) = (x1 : Int) by rw [wu64 (by omega)]; omega)
   (show bits BinOp.and IntKind.i64 (wrap64 ((m : Int) / _)) 1 = ((mm % 2 : Nat) : Int) by
    rw [show (m : Int) / 1099511627776 = (mm : Int) by omega]; exact and1_i64 mm hmm63)
   L0
 obtain ⟨hp1, hp2⟩ := hpn hA
 have L0 := fun w => log10Pow2_any q w (by omega)
 by_cases hzz : z = 40
 ·subst hzz
  have hx : x0 + 2 ^ (40 - 1) = m := by rw [← hx0, hp2]; exact g1
  simp only [Nat.reduceSub, Nat.reducePow] at hx g2 g4
  clear g1 g3 h1 h2 hs hs5 dmx dmn hpa hpn hlp
  by_cases hm63 : m = 9223372036854775808
  ·have hq1 : ¬ (-149) < q := fun h => hA ⟨by simp only [Nat.reducePow]; omega, h⟩
   exact short_norm1_32 m hi lo s x0 x1 (mm % 2) 0 (q - (40 : Nat)) q p lp u0 u1 u2 (u0 + mm % 2) (u1 - mm % 2) d0 d1 r w hP PR L1 H0 H1 H2 _ _ _ _ _ T1 T2 T3 T4 T5 res (-rp) hres _ T6 N0 N1 K0 K1 K2
    (show ((m : Int) == 9223372036854775808) = true by rw [hm63]; rfl) (show decide (((-189)) < q - ((40 : Nat) : Int)) = false by simp; omega) (show decide (((-189)) ≤ q - ((40 : Nat) : Int)) = true by simp; omega)
    (show wrap64 (q - ((40 : Nat) : Int) + 40) = q by rw [w64 (by omega)]; omega) (show wrap64 (-(log10Pow2 q)) = p by rw [← hp1]; exact w64 (by omega))
    (show IntKind.u64.wrap ((m : Int) - _) = (x0 : Int) by rw [wu64 (by omega)]; omega) (show IntKind.u64.wrap ((m : Int) + _) = (x1 : Int) by rw [wu64 (by omega)]; omega)
    (show bits BinOp.and IntKind.i64 (wrap64 ((m : Int) / _)) 1 = ((mm % 2 : Nat) : Int) by
     rw [show (m : Int) / 1099511627776 = (mm : Int) by omega]; exact and1_i64 mm hmm63)
    L0
  ·exact short_norm0_32 m hi lo s x0 x1 (mm % 2) 0 (q - (40 : Nat)) q p lp u0 u1 u2 (u0 + mm % 2) (u1 - mm % 2) d0 d1 r w hP PR L1 H0 H1 H2 _ _ _ _ _ T1 T2 T3 T4 T5 res (-rp) hres _ T6 N0 N1 K0 K1 K2
    (show ((m : Int) == 9223372036854775808) = false by simp; omega) (show decide (((-189)) ≤ q - ((40 : Nat) : Int)) = true by simp; omega)
    (show wrap64 (q - ((40 : Nat) : Int) + 40) = q by rw [w64 (by omega)]; omega) (show wrap64 (-(log10Pow2 q)) = p by rw [← hp1]; exact w64 (by omega))
    (show IntKind.u64.wrap ((m : Int) - _) = (x0 : Int) by rw [wu64 (by omega)]; omega) (show IntKind.u64.wrap ((m : Int) + _) = (x1 : Int) by rw [wu64 (by omega)]; omega)
    (show bits BinOp.and IntKind.i64 (wrap64 ((m : Int) / _)) 1 = ((mm % 2 : Nat) : Int) by
     rw [show (m : Int) / 1099511627776 = (mm : Int) by omega]; exact and1_i64 mm hmm63)
    L0
 have hqq : q = (-149) := by omega
 have hx : x0 + 2 ^ (z - 1) = m := by rw [← hx0, hp2]; exact g1
 have HD : (m : Int) / 2 ^ z = (mm : Int) := by
  have : m / 2 ^ z = mm := by rw [g4]; exact Nat.mul_div_cancel _ (Nat.two_pow_pos _)
  rw [← this]; simp
 have hz1 : 2 ^ (z - 1) ≤ 2 ^ 62 := Nat.pow_le_pow_right (by decide) (by omega)
 have HH' : ((2 : Int) ^ (z - 1)) = ((2 ^ (z - 1) : Nat) : Int) := by simp
 obtain ⟨H, hH⟩ : ∃ H, H = 2 ^ (z - 1) := ⟨_, rfl⟩
 have HH : IntKind.u64.wrap (2 ^ (z - 1)) = (H : Int) := by rw [HH', ← hH]; rw [← hH] at hz1; clear HH' HD hx g1 g2 g3 g4 hx0 hs h1 h2; exact wu64 (by omega)
 rw [← hH] at hx g2 hz1
 clear g1 g3 g4 h1 h2 hs hs5 dmx dmn hpa hpn hlp HH' hH hx0
 by_cases hm63 : m = 9223372036854775808
 ·exact short_sub1_32 m hi lo s x0 x1 (mm % 2) 0 (q - (z : Nat)) q p lp u0 u1 u2 (u0 + mm % 2) (u1 - mm % 2) d0 d1 r w hP PR L1 H0 H1 H2 _ _ _ _ _ T1 T2 T3 T4 T5 res (-rp) hres _ T6 N0 N1 K0 K1 K2
   (show ((m : Int) == 9223372036854775808) = true by rw [hm63]; rfl) (show decide (((-189)) < q - (z : Int)) = false by simp; omega) (show decide (((-189)) ≤ q - (z : Int)) = false by simp; omega) z (z - 1) H mm ((z : Int) - 40)
   (show wrap64 (((-189)) - (q - (z : Int))) = (z : Int) - 40 by rw [w64 (by omega)]; omega) (show wrap64 (40 + ((z : Int) - 40)) = (z : Int) by rw [w64 (by omega)]; omega)
   (show (z : Int) - 1 = ((z - 1 : Nat) : Int) by omega) HH HD (show (z : Int) ≤ 64 by omega) (show ((z - 1 : Nat) : Int) ≤ 64 by omega)
   (show wrap64 (q - (z : Int) + (z : Int)) = q by rw [w64 (by omega)]; omega) (show wrap64 (-(log10Pow2 q)) = p by rw [← hp1]; exact w64 (by omega))
   (show IntKind.u64.wrap ((m : Int) - (H : Int)) = (x0 : Int) by rw [wu64 (by omega)]; omega) (show IntKind.u64.wrap ((m : Int) + (H : Int)) = (x1 : Int) by rw [wu64 (by omega)]; omega)
   (and1_i64 mm hmm63)
   L0
 ·exact short_sub0_32 m hi lo s x0 x1 (mm % 2) 0 (q - (z : Nat)) q p lp u0 u1 u2 (u0 + mm % 2) (u1 - mm % 2) d0 d1 r w hP PR L1 H0 H1 H2 _ _ _ _ _ T1 T2 T3 T4 T5 res (-rp) hres _ T6 N0 N1 K0 K1 K2
   (show ((m : Int) == 9223372036854775808) = false by simp; omega) (show decide (((-189)) ≤ q - (z : Int)) = false by simp; omega) z (z - 1) H mm ((z : Int) - 40)
   (show wrap64 (((-189)) - (q - (z : Int))) = (z : Int) - 40 by rw [w64 (by omega)]; omega) (show wrap64 (40 + ((z : Int) - 40)) = (z : Int) by rw [w64 (by omega)]; omega)
   (show (z : Int) - 1 = ((z - 1 : Nat) : Int) by omega) HH HD (show (z : Int) ≤ 64 by omega) (show ((z - 1 : Nat) : Int) ≤ 64 by omega)
   (show wrap64 (q - (z : Int) + (z : Int)) = q by rw [w64 (by omega)]; omega) (show wrap64 (-(log10Pow2 q)) = p by rw [← hp1]; exact w64 (by omega))
   (show IntKind.u64.wrap ((m : Int) - (H : Int)) = (x0 : Int) by rw [wu64 (by omega)]; omega) (show IntKind.u64.wrap ((m : Int) + (H : Int)) = (x1 : Int) by rw [wu64 (by omega)]; omega)
   (and1_i64 mm hmm63)
   L0
theorem facts64 (mm z s : Nat) (q : Int) (asym : Prop) [Decidable asym] (hm : 1 ≤ mm) (hmx : mm < 2 ^ 53) (hq : (-1074) ≤ q ∧ q ≤ 971) (hz : 11 ≤ z) (hz' : z ≤ 63) (h1 : 2 ^ 63 ≤ mm * 2 ^ z) (h2 : mm * 2 ^ z + 2 ^ z ≤ 2 ^ 64)
  (hs : (s : Int) = z - q - log2Pow10 (scP asym q) - 3) (hs5 : 5 ≤ s) (y : Nat) (hy1 : 4 * mm - 2 ≤ y) (hy2 : y ≤ 4 * mm + 2) :
  usc (y * 2 ^ (z - 2)) (pmHi (scP asym q)) (pmLo (scP asym q)) s = unr (y * vv (scP asym q) q) (4 * uu (scP asym q) q) ∧ unr (y * vv (scP asym q) q) (4 * uu (scP asym q) q) < 2 ^ 59 ∧
   0 < y * 2 ^ (z - 2) * pmHi (scP asym q) / 2 ^ 64 ∧ y * 2 ^ (z - 2) < 2 ^ 64 := by
 obtain ⟨g1, g2, g3, g4⟩ := geom z mm (by omega) hm
 have hr := scP_range asym q (by omega)
 have hz2 : 2 ^ (z - 1) ≤ 2 ^ 62 := Nat.pow_le_pow_right (by decide) (by omega)
 have hz3 : 2 ^ z = 2 * 2 ^ (z - 1) := by obtain ⟨k, rfl⟩ : ∃ k, z = k + 1 := ⟨z - 1, by omega⟩; rw [Nat.pow_succ, show k + 1 - 1 = k by omega]; omega
 have hz4 : 0 < 2 ^ (z - 1) := Nat.two_pow_pos _
 have k1 : (4 * mm - 2) * 2 ^ (z - 2) ≤ y * 2 ^ (z - 2) := Nat.mul_le_mul_right _ hy1
 have k2 : y * 2 ^ (z - 2) ≤ (4 * mm + 2) * 2 ^ (z - 2) := Nat.mul_le_mul_right _ hy2
 have k3 : 2 ^ 62 ≤ y * 2 ^ (z - 2) := by omega
 have k4 : y * 2 ^ (z - 2) < 2 ^ 64 := by omega
 have hc := chkAll_at 11 (2 ^ 56) ((-1074)) 2046 (q + 1074).toNat (by omega) c64
 rw [show ((-1074) : Int) + (((q + 1074).toNat : Nat) : Int) = q by omega] at hc
 have hc' : chk 11 (2 ^ 56) (scP asym q) q = true := by
  unfold scP; split
  ·exact hc.2
  ·exact hc.1
 have hyb : y ≤ 2 ^ 56 := by omega
 clear k1 k2 g1 g2 g3 g4 hz2 hz3 hz4 h1 h2
 obtain ⟨r1, r2, r3⟩ := usc_unr 11 (2 ^ 56) (scP asym q) q z y s hc' (by omega) (by decide) hz hz' hs hs5 (by omega) hyb k3 k4
 exact ⟨r1, r2, r3, k4⟩
theorem short64 (mm z : Nat) (q : Int) (w : World) (hm : 1 ≤ mm) (hmx : mm < 2 ^ 53) (hq : (-1074) ≤ q ∧ q ≤ 971) (hz : 11 ≤ z) (hz' : z ≤ 63) (h1 : 2 ^ 63 ≤ mm * 2 ^ z) (h2 : mm * 2 ^ z + 2 ^ z ≤ 2 ^ 64)
  (hsub : z = 11 ∨ q = (-1074)) (hT : PowTab w) :
  Calls Tryz.prog 206 #[.int .u64 ((mm * 2 ^ z : Nat) : Int), .int .i64 (q - z)] w (Rt w (.tuple #[.int .u64 ((goPick (mm = 2 ^ 52 ∧ (-1074) < q) mm q (scP (mm = 2 ^ 52 ∧ (-1074) < q) q)).1 : Int), .int .i64 (-(goPick (mm = 2 ^ 52 ∧ (-1074) < q) mm q (scP (mm = 2 ^ 52 ∧ (-1074) < q) q)).2)])) := by
 have hr := scP_range (mm = 2 ^ 52 ∧ (-1074) < q) q (by omega)
 obtain ⟨s, hs⟩ : ∃ s : Nat, (s : Int) = z - q - log2Pow10 (scP (mm = 2 ^ 52 ∧ (-1074) < q) q) - 3 := ⟨(z - q - log2Pow10 (scP (mm = 2 ^ 52 ∧ (-1074) < q) q) - 3).toNat, by omega⟩
 have hs5 : 5 ≤ s ∧ s < 64 := by omega
 have FA := facts64 mm z s q (mm = 2 ^ 52 ∧ (-1074) < q) hm hmx hq hz hz' h1 h2 hs hs5.1
 obtain ⟨g1, g2, g3, g4⟩ := geom z mm (by omega) hm
 have dmn := dmin_of (mm = 2 ^ 52 ∧ (-1074) < q) mm q (scP (mm = 2 ^ 52 ∧ (-1074) < q) q)
 have dmx := dmax_of mm q (scP (mm = 2 ^ 52 ∧ (-1074) < q) q) hm
 have drd := round_of mm q (scP (mm = 2 ^ 52 ∧ (-1074) < q) q)
 have hP := hT (scP (mm = 2 ^ 52 ∧ (-1074) < q) q) (by omega) (by omega)
 have F0 := FA (yLo (mm = 2 ^ 52 ∧ (-1074) < q) mm) (by unfold yLo; split <;> omega) (by unfold yLo; split <;> omega)
 have F1 := FA (4 * mm + 2) (by omega) (by omega)
 have F2 := FA (4 * mm) (by omega) (by omega)
 clear FA
 have hlo64 := (pm_split (scP (mm = 2 ^ 52 ∧ (-1074) < q) q)).2.1
 have hhi64 := (tab_at (scP (mm = 2 ^ 52 ∧ (-1074) < q) q) (by omega)).2
 obtain ⟨res, rp, hrr⟩ : ∃ (res : Nat) (rp : Int), goPick (mm = 2 ^ 52 ∧ (-1074) < q) mm q (scP (mm = 2 ^ 52 ∧ (-1074) < q) q) = (res, rp) := ⟨_, _, rfl⟩
 rw [hrr]
 have hpa : (mm = 2 ^ 52 ∧ (-1074) < q) → scP (mm = 2 ^ 52 ∧ (-1074) < q) q = -skewed q ∧ yLo (mm = 2 ^ 52 ∧ (-1074) < q) mm = 4 * mm - 1 := fun h => ⟨if_pos h, if_pos h⟩
 have hpn : ¬ (mm = 2 ^ 52 ∧ (-1074) < q) → scP (mm = 2 ^ 52 ∧ (-1074) < q) q = -log10Pow2 q ∧ yLo (mm = 2 ^ 52 ∧ (-1074) < q) mm = 4 * mm - 2 := fun h => ⟨if_neg h, if_neg h⟩
 generalize scP (mm = 2 ^ 52 ∧ (-1074) < q) q = p at *
 generalize yLo (mm = 2 ^ 52 ∧ (-1074) < q) mm = y0 at *
 unfold goPick at hrr
 generalize dminN (mm = 2 ^ 52 ∧ (-1074) < q) mm q p = d0 at *
 generalize dmaxN mm q p = d1 at *
 generalize rnd (mm * vv p q) (uu p q) = r at *
 rw [← g4] at h1 h2 ⊢
 rw [← g4] at g1 g2 g3
 generalize 4 * mm * 2 ^ (z - 2) = m at *
 generalize (4 * mm + 2) * 2 ^ (z - 2) = x1 at *
 generalize hx0 : y0 * 2 ^ (z - 2) = x0 at *
 generalize unr (y0 * vv p q) (4 * uu p q) = u0 at *
 generalize unr ((4 * mm + 2) * vv p q) (4 * uu p q) = u1 at *
 generalize unr (4 * mm * vv p q) (4 * uu p q) = u2 at *
 generalize pmHi p = hi at *
 generalize pmLo p = lo at *
 generalize hlp : log2Pow10 p = lp at *
 have hres : (d0 ≤ d1 / 10 * 10 → res = d1 / 10 ∧ -rp = -(p - 1)) ∧ (¬ d0 ≤ d1 / 10 * 10 → d0 < d1 → res = r ∧ -rp = -p) ∧ (¬ d0 ≤ d1 / 10 * 10 → ¬ d0 < d1 → res = d0 ∧ -rp = -p) := by
  refine ⟨fun a => ?_, fun a b => ?_, fun a b => ?_⟩
  ·rw [if_pos a] at hrr; obtain ⟨rfl, rfl⟩ := Prod.mk.inj hrr; exact ⟨rfl, rfl⟩
  ·rw [if_neg a, if_pos b] at hrr; obtain ⟨rfl, rfl⟩ := Prod.mk.inj hrr; exact ⟨rfl, rfl⟩
  ·rw [if_neg a, if_neg b] at hrr; obtain ⟨rfl, rfl⟩ := Prod.mk.inj hrr; exact ⟨rfl, rfl⟩
 clear hrr hT
 have H0 := fun w' (hS : Sc w.heap.size hi lo s w') => uscale_any x0 hi lo s w.heap.size w' hS.c0 hS.c1 hS.c2 hs5.2 F0.2.2.2 hhi64 hlo64 F0.2.2.1
 have H1 := fun w' (hS : Sc w.heap.size hi lo s w') => uscale_any x1 hi lo s w.heap.size w' hS.c0 hS.c1 hS.c2 hs5.2 F1.2.2.2 hhi64 hlo64 F1.2.2.1
 have H2 := fun w' (hS : Sc w.heap.size hi lo s w') => uscale_any m hi lo s w.heap.size w' hS.c0 hS.c1 hS.c2 hs5.2 F2.2.2.2 hhi64 hlo64 F2.2.2.1
 rw [F0.1] at H0
 rw [F1.1] at H1
 rw [F2.1] at H2
 have b0 := F0.2.1
 have b1 := F1.2.1
 have b2 := F2.2.1
 have b4 := F0.2.2.2
 have b5 := F1.2.2.2
 have b6 := F2.2.2.2
 clear F0 F1 F2 hlo64 hhi64
 have N0 := fun w => nudge_any u0 ((mm % 2 : Nat) : Int) (u0 + mm % 2) w (by omega) (by omega) (by omega)
 have N1 := fun w => nudge_any u1 (-((mm % 2 : Nat) : Int)) (u1 - mm % 2) w (by omega) (by omega) (by omega)
 have K0 := fun w => ceil_any (u0 + mm % 2) w (by omega)
 have K1 := fun w => floor_any (u1 - mm % 2) w (by omega)
 have K2 := fun w => round_any u2 w (by omega)
 rw [dmn] at K0
 rw [dmx.1] at K1
 rw [drd] at K2
 have L1 := fun w => log2Pow10_any p w (by omega)
 rw [hlp] at L1
 have PR := fun w (hw : PowAt p hi lo w) => prescale_new (q - z) p lp hi lo s w hw (by omega) (by omega) (by omega)
 have hd1 : d1 < 2 ^ 62 := by omega
 have T1 : IntKind.u64.wrap ((d1 : Int) / 10) = ((d1 / 10 : Nat) : Int) := by rw [wu64 (by omega)]; omega
 have T2 : IntKind.u64.wrap (((d1 / 10 : Nat) : Int) * 10) = ((d1 / 10 * 10 : Nat) : Int) := by rw [wu64 (by omega)]; omega
 have T3 : wrap64 (-p) = -p := w64 (by omega)
 have T4 : wrap64 (p - 1) = p - 1 := w64 (by omega)
 have T5 : wrap64 (-(p - 1)) = -(p - 1) := w64 (by omega)
 have T6 : wrap64 (-((mm % 2 : Nat) : Int)) = -((mm % 2 : Nat) : Int) := w64 (by omega)
 have hmm63 : mm < 9223372036854775808 := by
  have : (2 : Nat) ^ 53 ≤ 2 ^ 62 := by decide
  omega
 by_cases hA : mm = 2 ^ 52 ∧ (-1074) < q
 ·obtain ⟨hp1, hp2⟩ := hpa hA
  have hzz : z = 11 := by omega
  subst hzz
  have hm63 : m = 9223372036854775808 := by rw [g4, hA.1]
  have hq1 := hA.2
  have L0 := fun w => skewed_any q w (by omega)
  have hx : x0 + 2 ^ (11 - 2) = m := by rw [← hx0, hp2]; exact g3
  simp only [Nat.reduceSub, Nat.reducePow] at hx g2 g4
  clear g1 g3 h1 h2 hs hs5 dmx dmn hpa hpn hlp
  exact short_asym_64 m hi lo s x0 x1 (mm % 2) 0 (q - (11 : Nat)) q p lp u0 u1 u2 (u0 + mm % 2) (u1 - mm % 2) d0 d1 r w hP PR L1 H0 H1 H2 _ _ _ _ _ T1 T2 T3 T4 T5 res (-rp) hres _ T6 N0 N1 K0 K1 K2
   (show ((m : Int) == 9223372036854775808) = true by rw [hm63]; rfl) (show decide (((-1085)) < q - ((11 : Nat) : Int)) = true by simp; omega)
   (show wrap64 (q - ((11 : Nat) : Int) + 11) = q by rw [w64 (by omega)]; omega) (show wrap64 (-(skewed q)) = p by rw [← hp1]; exact w64 (by omega))
   (show IntKind.u64.wrap ((m : Int) - _) = (x0 : Int) by rw [wu64 (by omega)]; omega) (show IntKind.u64.wrap ((m : Int) + _) = (x1 : Int) by rw [wu64 (by omega)]; omega)
   (show bits BinOp.and IntKind.i64 (wrap64 ((m : Int) / _)) 1 = ((mm % 2 : Nat) : Int) by
    rw [show (m : Int) / 2048 = (mm : Int) by omega]; exact and1_i64 mm hmm63)
   L0
 obtain ⟨hp1, hp2⟩ := hpn hA
 have L0 := fun w => log10Pow2_any q w (by omega)
 by_cases hzz : z = 11
 ·subst hzz
  have hx : x0 + 2 ^ (11 - 1) = m := by rw [← hx0, hp2]; exact g1
  simp only [Nat.reduceSub, Nat.reducePow] at hx g2 g4
  clear g1 g3 h1 h2 hs hs5 dmx dmn hpa hpn hlp
  by_cases hm63 : m = 9223372036854775808
  ·have hq1 : ¬ (-1074) < q := fun h => hA ⟨by simp only [Nat.reducePow]; omega, h⟩
   exact short_norm1_64 m hi lo s x0 x1 (mm % 2) 0 (q - (11 : Nat)) q p lp u0 u1 u2 (u0 + mm % 2) (u1 - mm % 2) d0 d1 r w hP PR L1 H0 H1 H2 _ _ _ _ _ T1 T2 T3 T4 T5 res (-rp) hres _ T6 N0 N1 K0 K1 K2
    (show ((m : Int) == 9223372036854775808) = true by rw [hm63]; rfl) (show decide (((-1085)) < q - ((11 : Nat) : Int)) = false by simp; omega) (show decide (((-1085)) ≤ q - ((11 : Nat) : Int)) = true by simp; omega)
    (show wrap64 (q - ((11 : Nat) : Int) + 11) = q by rw [w64 (by omega)]; omega) (show wrap64 (-(log10Pow2 q)) = p by rw [← hp1]; exact w64 (by omega))
    (show IntKind.u64.wrap ((m : Int) - _) = (x0 : Int) by rw [wu64 (by omega)]; omega) (show IntKind.u64.wrap ((m : Int) + _) = (x1 : Int) by rw [wu64 (by omega)]; omega)
    (show bits BinOp.and IntKind.i64 (wrap64 ((m : Int) / _)) 1 = ((mm % 2 : Nat) : Int) by
     rw [show (m : Int) / 2048 = (mm : Int) by omega]; exact and1_i64 mm hmm63)
    L0
  ·exact short_norm0_64 m hi lo s x0 x1 (mm % 2) 0 (q - (11 : Nat)) q p lp u0 u1 u2 (u0 + mm % 2) (u1 - mm % 2) d0 d1 r w hP PR L1 H0 H1 H2 _ _ _ _ _ T1 T2 T3 T4 T5 res (-rp) hres _ T6 N0 N1 K0 K1 K2
    (show ((m : Int) == 9223372036854775808) = false by simp; omega) (show decide (((-1085)) ≤ q - ((11 : Nat) : Int)) = true by simp; omega)
    (show wrap64 (q - ((11 : Nat) : Int) + 11) = q by rw [w64 (by omega)]; omega) (show wrap64 (-(log10Pow2 q)) = p by rw [← hp1]; exact w64 (by omega))
    (show IntKind.u64.wrap ((m : Int) - _) = (x0 : Int) by rw [wu64 (by omega)]; omega) (show IntKind.u64.wrap ((m : Int) + _) = (x1 : Int) by rw [wu64 (by omega)]; omega)
    (show bits BinOp.and IntKind.i64 (wrap64 ((m : Int) / _)) 1 = ((mm % 2 : Nat) : Int) by
     rw [show (m : Int) / 2048 = (mm : Int) by omega]; exact and1_i64 mm hmm63)
    L0
 have hqq : q = (-1074) := by omega
 have hx : x0 + 2 ^ (z - 1) = m := by rw [← hx0, hp2]; exact g1
 have HD : (m : Int) / 2 ^ z = (mm : Int) := by
  have : m / 2 ^ z = mm := by rw [g4]; exact Nat.mul_div_cancel _ (Nat.two_pow_pos _)
  rw [← this]; simp
 have hz1 : 2 ^ (z - 1) ≤ 2 ^ 62 := Nat.pow_le_pow_right (by decide) (by omega)
 have HH' : ((2 : Int) ^ (z - 1)) = ((2 ^ (z - 1) : Nat) : Int) := by simp
 obtain ⟨H, hH⟩ : ∃ H, H = 2 ^ (z - 1) := ⟨_, rfl⟩
 have HH : IntKind.u64.wrap (2 ^ (z - 1)) = (H : Int) := by rw [HH', ← hH]; rw [← hH] at hz1; clear HH' HD hx g1 g2 g3 g4 hx0 hs h1 h2; exact wu64 (by omega)
 rw [← hH] at hx g2 hz1
 clear g1 g3 g4 h1 h2 hs hs5 dmx dmn hpa hpn hlp HH' hH hx0
 by_cases hm63 : m = 9223372036854775808
 ·exact short_sub1_64 m hi lo s x0 x1 (mm % 2) 0 (q - (z : Nat)) q p lp u0 u1 u2 (u0 + mm % 2) (u1 - mm % 2) d0 d1 r w hP PR L1 H0 H1 H2 _ _ _ _ _ T1 T2 T3 T4 T5 res (-rp) hres _ T6 N0 N1 K0 K1 K2
   (show ((m : Int) == 9223372036854775808) = true by rw [hm63]; rfl) (show decide (((-1085)) < q - (z : Int)) = false by simp; omega) (show decide (((-1085)) ≤ q - (z : Int)) = false by simp; omega) z (z - 1) H mm ((z : Int) - 11)
   (show wrap64 (((-1085)) - (q - (z : Int))) = (z : Int) - 11 by rw [w64 (by omega)]; omega) (show wrap64 (11 + ((z : Int) - 11)) = (z : Int) by rw [w64 (by omega)]; omega)
   (show (z : Int) - 1 = ((z - 1 : Nat) : Int) by omega) HH HD (show (z : Int) ≤ 64 by omega) (show ((z - 1 : Nat) : Int) ≤ 64 by omega)
   (show wrap64 (q - (z : Int) + (z : Int)) = q by rw [w64 (by omega)]; omega) (show wrap64 (-(log10Pow2 q)) = p by rw [← hp1]; exact w64 (by omega))
   (show IntKind.u64.wrap ((m : Int) - (H : Int)) = (x0 : Int) by rw [wu64 (by omega)]; omega) (show IntKind.u64.wrap ((m : Int) + (H : Int)) = (x1 : Int) by rw [wu64 (by omega)]; omega)
   (and1_i64 mm hmm63)
   L0
 ·exact short_sub0_64 m hi lo s x0 x1 (mm % 2) 0 (q - (z : Nat)) q p lp u0 u1 u2 (u0 + mm % 2) (u1 - mm % 2) d0 d1 r w hP PR L1 H0 H1 H2 _ _ _ _ _ T1 T2 T3 T4 T5 res (-rp) hres _ T6 N0 N1 K0 K1 K2
   (show ((m : Int) == 9223372036854775808) = false by simp; omega) (show decide (((-1085)) ≤ q - (z : Int)) = false by simp; omega) z (z - 1) H mm ((z : Int) - 11)
   (show wrap64 (((-1085)) - (q - (z : Int))) = (z : Int) - 11 by rw [w64 (by omega)]; omega) (show wrap64 (11 + ((z : Int) - 11)) = (z : Int) by rw [w64 (by omega)]; omega)
   (show (z : Int) - 1 = ((z - 1 : Nat) : Int) by omega) HH HD (show (z : Int) ≤ 64 by omega) (show ((z - 1 : Nat) : Int) ≤ 64 by omega)
   (show wrap64 (q - (z : Int) + (z : Int)) = q by rw [w64 (by omega)]; omega) (show wrap64 (-(log10Pow2 q)) = p by rw [← hp1]; exact w64 (by omega))
   (show IntKind.u64.wrap ((m : Int) - (H : Int)) = (x0 : Int) by rw [wu64 (by omega)]; omega) (show IntKind.u64.wrap ((m : Int) + (H : Int)) = (x1 : Int) by rw [wu64 (by omega)]; omega)
   (and1_i64 mm hmm63)
   L0
end
end Go.Proofs.YtepfodmbjojdbaaGreatDoor.Num
