/- NumberPrints: strconv's uscale and its helpers. No conditions beyond each theorem's own. -/
import Derived.Test.YtepfodmbjojdbaaGreatDoorQ01
import Derived.Test.YtepfodmbjojdbaaGreatDoorQ03
import Derived.Test.YtepfodmbjojdbaaGreatDoorQ08
import Derived.Lib.Hide
import Derived.WalkSmall
import Derived.Laws.Bits64b
import Derived.Deep.QuietTactic
import Derived.BigQuiet
set_option linter.all false
namespace Go.Proofs.YtepfodmbjojdbaaGreatDoor.Num
open Go Go.RowKit YtepfodmbjojdbaaGreatDoorW.PrintWords YtepfodmbjojdbaaGreatDoorW.PrintMore PNumberPrints
section
set_option maxHeartbeats 1600000
theorem bool2u (b : Bool) (w : World) : Calls Tryz.prog 221 #[.bool b] w (Re w (.int .u64 (if b then 1 else 0))) := by
 cases b
 all_goals
  go_enter Tryz.func221, Tryz.ntmps221
  go_wp2
  go_ret
  exact ⟨rfl, rfl⟩
theorem log10Pow2_any (x : Int) (w : World) (hx : -10000 ≤ x ∧ x ≤ 10000) : Calls Tryz.prog 190 #[.int .i64 x] w (Re w (.int .i64 (Nm.log10Pow2 x))) := by
 have e1 : wrap64 (x * 78913) = x * 78913 := w64 (by omega)
 go_enter Tryz.func190, Tryz.ntmps190
 go_wp2
 go_ret
 exact ⟨by unfold Nm.log10Pow2; rfl, rfl⟩
theorem log2Pow10_any (x : Int) (w : World) (hx : -10000 ≤ x ∧ x ≤ 10000) : Calls Tryz.prog 235 #[.int .i64 x] w (Re w (.int .i64 (Nm.log2Pow10 x))) := by
 have e1 : wrap64 (x * 108853) = x * 108853 := w64 (by omega)
 go_enter Tryz.func235, Tryz.ntmps235
 go_wp2
 go_ret
 exact ⟨by unfold Nm.log2Pow10; rfl, rfl⟩
theorem skewed_any (x : Int) (w : World) (hx : -10000 ≤ x ∧ x ≤ 10000) : Calls Tryz.prog 233 #[.int .i64 x] w (Re w (.int .i64 (Nm.skewed x))) := by
 have e1 : wrap64 (x * 631305) = x * 631305 := w64 (by omega)
 have e2 : wrap64 (x * 631305 - 261663) = x * 631305 - 261663 := w64 (by omega)
 go_enter Tryz.func233, Tryz.ntmps233
 go_wp2
 go_ret
 exact ⟨by unfold Nm.skewed; rfl, rfl⟩
theorem floor_any (u : Nat) (w : World) (hu : u < 18446744073709551616) : Calls Tryz.prog 239 #[.int .u64 (u : Int)] w (Re w (.int .u64 ((u / 4 : Nat) : Int))) := by
 have e1 : IntKind.u64.wrap (u : Int) = (u : Int) := wu64 (by omega)
 clear hu
 go_enter Tryz.func239, Tryz.ntmps239
 go_wp2
 go_ret
 exact ⟨by rfl, rfl⟩
theorem ceil_any (u : Nat) (w : World) (hu : u + 3 < 18446744073709551616) : Calls Tryz.prog 238 #[.int .u64 (u : Int)] w (Re w (.int .u64 (((u + 3) / 4 : Nat) : Int))) := by
 have e1 : IntKind.u64.wrap ((u : Int) + 3) = (u : Int) + 3 := wu64 (by omega)
 clear hu
 go_enter Tryz.func238, Tryz.ntmps238
 go_wp2
 go_ret
 exact ⟨by rfl, rfl⟩
theorem nudge_any (u : Nat) (d : Int) (r : Nat) (w : World) (hd : -1 ≤ d ∧ d ≤ 1) (hu : u + 3 < 18446744073709551616) (hr : (r : Int) = u + d) : Calls Tryz.prog 237 #[.int .u64 (u : Int), .int .i64 d] w (Re w (.int .u64 (r : Int))) := by
 have e1 : IntKind.u64.wrap ((u : Int) + IntKind.u64.wrap d) = (r : Int) := by rw [wu64_eq, wu64_eq]; omega
 clear hu hd hr
 go_enter Tryz.func237, Tryz.ntmps237
 go_wp2
 go_ret
 exact ⟨by first | rfl | rw [e1], rfl⟩
theorem round_any (u : Nat) (w : World) (hu : u + 3 < 18446744073709551616) : Calls Tryz.prog 240 #[.int .u64 (u : Int)] w (Re w (.int .u64 (((u + 1 + u / 4 % 2) / 4 : Nat) : Int))) := by
 have e0 : IntKind.u64.wrap ((u : Int) + 1) = (u : Int) + 1 := wu64 (by omega)
 have e1 : bits BinOp.and IntKind.u64 ((u : Int) / 4) 1 = (u : Int) / 4 % 2 := and_one_u64 _ (by omega) (by omega)
 have e2 : IntKind.u64.wrap ((u : Int) + 1 + (u : Int) / 4 % 2) = (u : Int) + 1 + (u : Int) / 4 % 2 := wu64 (by omega)
 clear hu
 go_enter Tryz.func240, Tryz.ntmps240
 go_wp2
 go_ret
 exact ⟨by simp [e0, e1, e2], rfl⟩
theorem and63 (s : Nat) (hs : s < 64) : bits BinOp.and IntKind.i64 (s : Int) 63 = (s : Int) := by
 have : ∀ s : Fin 64, bits BinOp.and IntKind.i64 (s.val : Int) 63 = (s.val : Int) := by decide +kernel
 exact this ⟨s, hs⟩
theorem or01 (q : Nat) (hq : q < 18446744073709551616) (b : Bool) : bits BinOp.or IntKind.u64 (q : Int) (if b then 1 else 0) = ((q ||| (if b then 1 else 0) : Nat) : Int) := by
 have := bits_or_u64_nat q (if b then 1 else 0) hq (by cases b <;> decide)
 cases b
 ·simpa using this
 ·simpa using this
theorem uscale_odd (x hi lo s b p1 p0 m1 m0 q r : Nat) (w : World) (hc0 : w.cell? ⟨b, 0, none⟩ = some (.int .u64 (hi : Int))) (hc1 : w.cell? ⟨b, 1, none⟩ = some (.int .u64 (lo : Int))) (hc2 : w.cell? ⟨b, 2, none⟩ = some (.int .i64 (s : Int)))
  (hs : s < 64) (hsE : Hid (bits BinOp.and IntKind.i64 (s : Int) 63 = (s : Int)))
  (hq : Hid ((p1 : Int) / 2 ^ s = (q : Int))) (hr : Hid (IntKind.u64.wrap ((q : Int) * 2 ^ s) = (r : Int)))
  (h170 : ∀ w, Calls Tryz.prog 170 #[.int .u64 (x : Int), .int .u64 (hi : Int)] w (Re w (.tuple #[.int .u64 (p1 : Int), .int .u64 (p0 : Int)])))
  (h170' : ∀ w, Calls Tryz.prog 170 #[.int .u64 (x : Int), .int .u64 (lo : Int)] w (Re w (.tuple #[.int .u64 (m1 : Int), .int .u64 (m0 : Int)])))
  (hne : Hid (r ≠ p1)) (hor : Hid (bits BinOp.or IntKind.u64 (q : Int) 1 = ((q ||| 1 : Nat) : Int))) :
  Calls Tryz.prog 236 #[.int .u64 (x : Int), .pointer (some ⟨b, 0, none⟩)] w fun e w' => e = .returned (.int .u64 ((q ||| 1 : Nat) : Int)) ∧ ∃ n, w' = w.drewN n := by
 have h221 := bool2u
 go_enter Tryz.func236, Tryz.ntmps236
 go_wp2_with fail
 refine (h170 _).mono ?_
 rintro e w1 ⟨rfl, rfl⟩
 have hsE' : bits BinOp.and IntKind.i64 (s : Int) 63 = (s : Int) := hsE
 have hq' : (p1 : Int) / 2 ^ s = (q : Int) := hq
 have hr' : IntKind.u64.wrap ((q : Int) * 2 ^ s) = (r : Int) := hr
 have c' : ((r : Int) != (p1 : Int)) = true := by have h : r ≠ p1 := hne; simp; omega
 have hor' : bits BinOp.or IntKind.u64 (q : Int) 1 = ((q ||| 1 : Nat) : Int) := hor
 go_wp2_with fail
 go_ret
 exact ⟨rfl, 0, rfl⟩
theorem uscale_low (x hi lo s b p1 p0 m1 m0 q r pa qa d : Nat) (w : World) (hc0 : w.cell? ⟨b, 0, none⟩ = some (.int .u64 (hi : Int))) (hc1 : w.cell? ⟨b, 1, none⟩ = some (.int .u64 (lo : Int))) (hc2 : w.cell? ⟨b, 2, none⟩ = some (.int .i64 (s : Int)))
  (hs : s < 64) (hsE : Hid (bits BinOp.and IntKind.i64 (s : Int) 63 = (s : Int)))
  (hq : Hid ((p1 : Int) / 2 ^ s = (q : Int))) (hr : Hid (IntKind.u64.wrap ((q : Int) * 2 ^ s) = (r : Int)))
  (h170 : ∀ w, Calls Tryz.prog 170 #[.int .u64 (x : Int), .int .u64 (hi : Int)] w (Re w (.tuple #[.int .u64 (p1 : Int), .int .u64 (p0 : Int)])))
  (h170' : ∀ w, Calls Tryz.prog 170 #[.int .u64 (x : Int), .int .u64 (lo : Int)] w (Re w (.tuple #[.int .u64 (m1 : Int), .int .u64 (m0 : Int)])))
  (he : Hid (r = p1)) (hlt : Hid (p0 < m1)) (hpa : Hid (IntKind.u64.wrap ((p1 : Int) - 1) = (pa : Int))) (hqa : Hid ((pa : Int) / 2 ^ s = (qa : Int)))
  (hd : Hid (IntKind.u64.wrap ((p0 : Int) - (m1 : Int)) = (d : Int))) (hd1 : Hid (1 < d)) (hor : Hid (bits BinOp.or IntKind.u64 (qa : Int) 1 = ((qa ||| 1 : Nat) : Int))) :
  Calls Tryz.prog 236 #[.int .u64 (x : Int), .pointer (some ⟨b, 0, none⟩)] w fun e w' => e = .returned (.int .u64 ((qa ||| 1 : Nat) : Int)) ∧ ∃ n, w' = w.drewN n := by
 have h221 := bool2u
 go_enter Tryz.func236, Tryz.ntmps236
 go_wp2_with fail
 refine (h170 _).mono ?_
 rintro e w1 ⟨rfl, rfl⟩
 have hsE' : bits BinOp.and IntKind.i64 (s : Int) 63 = (s : Int) := hsE
 have hq' : (p1 : Int) / 2 ^ s = (q : Int) := hq
 have hr' : IntKind.u64.wrap ((q : Int) * 2 ^ s) = (r : Int) := hr
 have c' : ((r : Int) != (p1 : Int)) = false := by have h : r = p1 := he; simp [h]
 go_wp2_with fail
 refine (h170' _).mono ?_
 rintro e w2 ⟨rfl, rfl⟩
 have hlt' : decide ((p0 : Int) < (m1 : Int)) = true := by have h : p0 < m1 := hlt; simp; omega
 have hlt'' : decide (p0 < m1) = true := by have h : p0 < m1 := hlt; simp [h]
 go_wp2_with fail
 refine (h221 _ _).mono ?_
 rintro e w3 ⟨rfl, rfl⟩
 simp only [if_true]
 have hpa' : IntKind.u64.wrap ((p1 : Int) - 1) = (pa : Int) := hpa
 have hqa' : (pa : Int) / 2 ^ s = (qa : Int) := hqa
 have hd' : IntKind.u64.wrap ((p0 : Int) - (m1 : Int)) = (d : Int) := hd
 have hd1' : decide ((d : Int) > 1) = true := by have h : 1 < d := hd1; simp; omega
 have hd1'' : decide (1 < d) = true := by have h : 1 < d := hd1; simp [h]
 go_wp2_with fail
 have hor' : bits BinOp.or IntKind.u64 (qa : Int) 1 = ((qa ||| 1 : Nat) : Int) := hor
 clear h221
 go_quiet ((go_at_call 221; exact Calls.quiet_of_same (bool2u _ _)))
 go_wp2
 go_ret
 exact ⟨rfl, _, rfl⟩
theorem uscale_mid (x hi lo s b p1 p0 m1 m0 q r d g2 : Nat) (hg2 : Hid (g2 = (if decide (1 < d) = true then (1 : Nat) else 0))) (w : World) (hc0 : w.cell? ⟨b, 0, none⟩ = some (.int .u64 (hi : Int))) (hc1 : w.cell? ⟨b, 1, none⟩ = some (.int .u64 (lo : Int))) (hc2 : w.cell? ⟨b, 2, none⟩ = some (.int .i64 (s : Int)))
  (hs : s < 64) (hsE : Hid (bits BinOp.and IntKind.i64 (s : Int) 63 = (s : Int)))
  (hq : Hid ((p1 : Int) / 2 ^ s = (q : Int))) (hr : Hid (IntKind.u64.wrap ((q : Int) * 2 ^ s) = (r : Int)))
  (h170 : ∀ w, Calls Tryz.prog 170 #[.int .u64 (x : Int), .int .u64 (hi : Int)] w (Re w (.tuple #[.int .u64 (p1 : Int), .int .u64 (p0 : Int)])))
  (h170' : ∀ w, Calls Tryz.prog 170 #[.int .u64 (x : Int), .int .u64 (lo : Int)] w (Re w (.tuple #[.int .u64 (m1 : Int), .int .u64 (m0 : Int)])))
  (he : Hid (r = p1)) (hlt : Hid (¬ p0 < m1)) (hpa : Hid (IntKind.u64.wrap (p1 : Int) = (p1 : Int)))
  (hd : Hid (IntKind.u64.wrap ((p0 : Int) - (m1 : Int)) = (d : Int))) (hor : Hid (∀ b : Bool, bits BinOp.or IntKind.u64 (q : Int) (if b = true then 1 else 0) = ((q ||| (if b = true then 1 else 0) : Nat) : Int))) :
  Calls Tryz.prog 236 #[.int .u64 (x : Int), .pointer (some ⟨b, 0, none⟩)] w fun e w' => e = .returned (.int .u64 ((q ||| g2 : Nat) : Int)) ∧ ∃ n, w' = w.drewN n := by
 have h221 := bool2u
 go_enter Tryz.func236, Tryz.ntmps236
 go_wp2_with fail
 refine (h170 _).mono ?_
 rintro e w1 ⟨rfl, rfl⟩
 have hsE' : bits BinOp.and IntKind.i64 (s : Int) 63 = (s : Int) := hsE
 have hq' : (p1 : Int) / 2 ^ s = (q : Int) := hq
 have hr' : IntKind.u64.wrap ((q : Int) * 2 ^ s) = (r : Int) := hr
 have c' : ((r : Int) != (p1 : Int)) = false := by have h : r = p1 := he; simp [h]
 go_wp2_with fail
 refine (h170' _).mono ?_
 rintro e w2 ⟨rfl, rfl⟩
 have hlt' : decide ((p0 : Int) < (m1 : Int)) = false := by have h : ¬ p0 < m1 := hlt; simp; omega
 have hlt'' : decide (p0 < m1) = false := by have h : ¬ p0 < m1 := hlt; simp [h]
 go_wp2_with fail
 refine (h221 _ _).mono ?_
 rintro e w3 ⟨rfl, rfl⟩
 have hz : (if false = true then (1 : Int) else 0) = 0 := rfl
 have hz2 : (p1 : Int) - 0 = (p1 : Int) := by omega
 have hpa' : IntKind.u64.wrap (p1 : Int) = (p1 : Int) := hpa
 have hd' : IntKind.u64.wrap ((p0 : Int) - (m1 : Int)) = (d : Int) := hd
 have h221' : ∀ w, Calls Tryz.prog 221 #[.bool (decide (1 < d))] w (Re w (.int .u64 (if decide (1 < d) = true then 1 else 0))) := fun w => bool2u _ w
 have hor' : bits BinOp.or IntKind.u64 (q : Int) (if decide (1 < d) = true then 1 else 0) = ((q ||| (if decide (1 < d) = true then 1 else 0) : Nat) : Int) := (show ∀ b : Bool, bits BinOp.or IntKind.u64 (q : Int) (if b = true then 1 else 0) = ((q ||| (if b = true then 1 else 0) : Nat) : Int) from hor) _
 generalize (if decide (1 < d) = true then (1 : Int) else 0) = g1 at h221' hor'
 rw [← (show g2 = (if decide (1 < d) = true then (1 : Nat) else 0) from hg2)] at hor'
 go_wp2_with fail
 have hd3 : ((d : Int) > 1) = (1 < d) := by simp; omega
 clear h221
 go_quiet ((go_at_call 221; exact Calls.quiet_of_same (h221' _)))
 go_wp2
 go_ret
 exact ⟨rfl, _, rfl⟩
theorem uscale_any (x hi lo s b : Nat) (w : World) (hc0 : w.cell? ⟨b, 0, none⟩ = some (.int .u64 (hi : Int))) (hc1 : w.cell? ⟨b, 1, none⟩ = some (.int .u64 (lo : Int))) (hc2 : w.cell? ⟨b, 2, none⟩ = some (.int .i64 (s : Int)))
  (hs : s < 64) (hx : x < 18446744073709551616) (hhi : hi < 18446744073709551616) (hlo : lo < 18446744073709551616) (hh : 0 < x * hi / 18446744073709551616) :
  Calls Tryz.prog 236 #[.int .u64 (x : Int), .pointer (some ⟨b, 0, none⟩)] w fun e w' => e = .returned (.int .u64 ((Nm.usc x hi lo s : Nat) : Int)) ∧ ∃ n, w' = w.drewN n := by
 have h170 := fun w => Tryz.bits_Mul64 x hi hx hhi w
 have h170' := fun w => Tryz.bits_Mul64 x lo hx hlo w
 have hp1 : x * hi / 18446744073709551616 < 18446744073709551616 := by
  rw [Nat.div_lt_iff_lt_mul (by decide)]
  exact Nat.mul_lt_mul'' hx hhi
 have hm1 : x * lo / 18446744073709551616 + 1 < 18446744073709551616 := by
  have h1 : x * lo ≤ 18446744073709551615 * 18446744073709551615 := Nat.mul_le_mul (by omega) (by omega)
  omega
 have hp0 : x * hi % 18446744073709551616 < 18446744073709551616 := Nat.mod_lt _ (by decide)
 unfold Nm.usc
 rw [show (2 : Nat) ^ 64 = 18446744073709551616 from rfl]
 generalize x * hi / 18446744073709551616 = p1 at *
 generalize x * hi % 18446744073709551616 = p0 at *
 generalize x * lo / 18446744073709551616 = m1 at *
 generalize x * lo % 18446744073709551616 = m0 at *
 have hpp : 0 < 2 ^ s := Nat.two_pow_pos s
 have hdm := Nat.div_add_mod p1 (2 ^ s)
 have hq : ((p1 : Int) / 2 ^ s = ((p1 / 2 ^ s : Nat) : Int)) := by simp
 have hql : p1 / 2 ^ s < 18446744073709551616 := Nat.lt_of_le_of_lt (Nat.div_le_self _ _) hp1
 have hr : IntKind.u64.wrap (((p1 / 2 ^ s : Nat) : Int) * 2 ^ s) = ((p1 / 2 ^ s * 2 ^ s : Nat) : Int) := by
  have h1 : p1 / 2 ^ s * 2 ^ s ≤ p1 := Nat.div_mul_le_self _ _
  have h2 : ((p1 / 2 ^ s : Nat) : Int) * 2 ^ s = ((p1 / 2 ^ s * 2 ^ s : Nat) : Int) := by simp
  rw [h2]
  generalize p1 / 2 ^ s * 2 ^ s = y at *
  clear hpp hdm hq hql
  exact wu64 (by omega)
 by_cases c : p1 % 2 ^ s = 0
 ·rw [if_neg (by simpa using c)]
  have hre : p1 / 2 ^ s * 2 ^ s = p1 := Nat.div_mul_cancel (Nat.dvd_of_mod_eq_zero c)
  have hp1w : IntKind.u64.wrap (p1 : Int) = (p1 : Int) := by clear hdm hpp hq hr c hre; exact wu64 (by omega)
  by_cases c2 : p0 < m1
  ·rw [if_pos c2]
   have hpa : IntKind.u64.wrap ((p1 : Int) - 1) = ((p1 - 1 : Nat) : Int) := by clear hdm hpp hq hr c hre; rw [wu64 (by omega)]; omega
   have hd : IntKind.u64.wrap ((p0 : Int) - (m1 : Int)) = ((p0 + 18446744073709551616 - m1 : Nat) : Int) := by clear hdm hpp hq hr c hre; rw [wu64_eq]; omega
   have hql2 : (p1 - 1) / 2 ^ s < 18446744073709551616 := Nat.lt_of_le_of_lt (Nat.div_le_self _ _) (by clear hdm hpp hq hr c hre; omega)
   have hd1 : 1 < p0 + 18446744073709551616 - m1 := by clear hdm hpp hq hr c hre; omega
   exact uscale_low x hi lo s b p1 p0 m1 m0 _ _ (p1 - 1) ((p1 - 1) / 2 ^ s) _ w hc0 hc1 hc2 hs (and63 s hs) hq hr h170 h170' hre c2 hpa (by simp [RowKit.Hid]) hd hd1 (or01 _ hql2 true)
  ·rw [if_neg c2]
   have hd : IntKind.u64.wrap ((p0 : Int) - (m1 : Int)) = ((p0 - m1 : Nat) : Int) := by clear hdm hpp hq hr c hre; rw [wu64 (by omega)]; omega
   refine (uscale_mid x hi lo s b p1 p0 m1 m0 _ _ (p0 - m1) _ rfl w hc0 hc1 hc2 hs (and63 s hs) hq hr h170 h170' hre c2 hp1w hd (fun b => or01 _ hql b)).mono ?_
   rintro e w' ⟨rfl, n, rfl⟩
   refine ⟨?_, n, rfl⟩
   by_cases c3 : p0 - m1 > 1
   ·rw [if_pos c3, if_pos (by simpa using c3)]
   ·rw [if_neg c3, if_neg (by simpa using c3)]
 ·rw [if_pos c]
  have hne : p1 / 2 ^ s * 2 ^ s ≠ p1 := by
   intro h; rw [Nat.mul_comm] at h; omega
  exact uscale_odd x hi lo s b p1 p0 m1 m0 _ _ w hc0 hc1 hc2 hs (and63 s hs) hq hr h170 h170' hne (or01 _ hql true)
end
section
set_option maxRecDepth 100000
set_option maxHeartbeats 800000
theorem prescale_1 (e p lp : Int) (i hi lo s b : Nat) (w : World) (hi' : Hid (wrap64 (p + 348) = (i : Int))) (hi1 : Hid ((i : Int) < 696))
  (hs1 : Hid (wrap64 (e + lp) = e + lp)) (hs2 : Hid (wrap64 (e + lp + 3) = e + lp + 3)) (hs3 : Hid (wrap64 (-(e + lp + 3)) = (s : Int)))
  (ht : w.cell? ⟨18, i * 2, none⟩ = some (.int .u64 (hi : Int))) (ht' : w.cell? ⟨18, i * 2 + 1, none⟩ = some (.int .u64 (lo : Int)))
  (x0 x1 x2 : Value) (hc0 : w.cell? ⟨b, 0, none⟩ = some x0) (hc1 : w.cell? ⟨b, 1, none⟩ = some x1) (hc2 : w.cell? ⟨b, 2, none⟩ = some x2) (hb : b ≠ 18)
  (hf0 : w.frozen? ⟨b, 0, none⟩ = false) (hf1 : w.frozen? ⟨b, 1, none⟩ = false) (hf2 : w.frozen? ⟨b, 2, none⟩ = false) :
  Calls Tryz.prog 234 #[.pointer (some ⟨b, 0, none⟩), .int .i64 e, .int .i64 p, .int .i64 lp] w fun e w' => e = .returned (.tuple #[]) ∧ w' = ((w.setCell ⟨b, 0, none⟩ (.int .u64 (hi : Int))).setCell ⟨b, 1, none⟩ (.int .u64 (lo : Int))).setCell ⟨b, 2, none⟩ (.int .i64 (s : Int)) := by
 go_enter Tryz.func234, Tryz.ntmps234
 have e1 : wrap64 (p + 348) = (i : Int) := hi'
 have e2 : (i : Int) < 696 := hi1
 have e3 : ((i : Int)).toNat = i := Int.toNat_natCast i
 have f1 : wrap64 (e + lp) = e + lp := hs1
 have f2 : wrap64 (e + lp + 3) = e + lp + 3 := hs2
 have f3 : wrap64 (-(e + lp + 3)) = (s : Int) := hs3
 go_wp2_with fail
 go_end0
 exact ⟨rfl, rfl⟩
structure Sc (b hi lo s : Nat) (w : World) : Prop where
 c0 : w.cell? ⟨b, 0, none⟩ = some (.int .u64 (hi : Int))
 c1 : w.cell? ⟨b, 1, none⟩ = some (.int .u64 (lo : Int))
 c2 : w.cell? ⟨b, 2, none⟩ = some (.int .i64 (s : Int))
theorem Sc.draw {b hi lo s : Nat} {w : World} (h : Sc b hi lo s w) (n : Nat) : Sc b hi lo s (w.drewN n) := ⟨h.c0, h.c1, h.c2⟩
structure PowAt (p : Int) (hi lo : Nat) (w : World) : Prop where
 lo1 : -348 ≤ p
 hi1 : p ≤ 347
 size : 18 < w.heap.size
 c0 : w.cell? ⟨18, (p + 348).toNat * 2, none⟩ = some (.int .u64 (hi : Int))
 c1 : w.cell? ⟨18, (p + 348).toNat * 2 + 1, none⟩ = some (.int .u64 (lo : Int))
theorem PowAt.below {p : Int} {hi lo : Nat} {w w' : World} (h : PowAt p hi lo w) (hb : Below w.heap.size w w') : PowAt p hi lo w' :=
 ⟨h.lo1, h.hi1, Nat.lt_of_lt_of_le h.size hb.size, by rw [hb.cell h.size]; exact h.c0, by rw [hb.cell h.size]; exact h.c1⟩
theorem prescale_new (e p lp : Int) (hi lo s : Nat) (w : World) (hp : PowAt p hi lo w) (he : -5000 ≤ e ∧ e ≤ 5000) (hlp : -5000 ≤ lp ∧ lp ≤ 5000) (hs : (s : Int) = -(e + lp + 3)) :
  Calls Tryz.prog 234 #[.pointer (some ⟨w.heap.size, 0, none⟩), .int .i64 e, .int .i64 p, .int .i64 lp] (w.alloc (.cells #[.int .u64 0, .int .u64 0, .int .i64 0] 266)) fun e w' => e = .returned (.tuple #[]) ∧ Sc w.heap.size hi lo s w' ∧ Below w.heap.size w w' := by
 have hp' := hp.below ((Below.refl w.heap.size w).alloc (Nat.le_refl _) (.cells #[.int .u64 0, .int .u64 0, .int .i64 0] 266))
 have hne : w.heap.size ≠ 18 := by have := hp.size; omega
 have h1 := hp.lo1
 have h2 := hp.hi1
 have hw : wrap64 (p + 348) = (((p + 348).toNat : Nat) : Int) := by rw [w64 (by omega)]; omega
 refine (prescale_1 e p lp (p + 348).toNat hi lo s w.heap.size (w.alloc (.cells #[.int .u64 0, .int .u64 0, .int .i64 0] 266)) hw (show (((p + 348).toNat : Nat) : Int) < 696 by omega) ?_ ?_ ?_ hp'.c0 hp'.c1 (.int .u64 0) (.int .u64 0) (.int .i64 0) ?_ ?_ ?_ hne ?_ ?_ ?_).mono ?_
 ·exact (show wrap64 (e + lp) = e + lp from w64 (by omega))
 ·exact (show wrap64 (e + lp + 3) = e + lp + 3 from w64 (by omega))
 ·exact (show wrap64 (-(e + lp + 3)) = (s : Int) from (w64 (by omega)).trans hs.symm)
 ·simp
 ·simp
 ·simp
 ·simp
 ·simp
 ·simp
 rintro _ w' ⟨rfl, rfl⟩
 refine ⟨rfl, ⟨?_, ?_, ?_⟩, ?_⟩
 ·simp [go_sem]
 ·simp [go_sem]
 ·simp [go_sem]
 ·exact ((((Below.refl w.heap.size w).alloc (Nat.le_refl _) _).setCell (by simp) _).setCell (by simp) _).setCell (by simp) _
end
end Go.Proofs.YtepfodmbjojdbaaGreatDoor.Num
