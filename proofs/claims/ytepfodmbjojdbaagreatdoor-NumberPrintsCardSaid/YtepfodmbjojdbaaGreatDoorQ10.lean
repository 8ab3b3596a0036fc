/- NumberPrints: the walks of strconv's shortFloat. No conditions beyond each theorem's own. -/
import Derived.Test.YtepfodmbjojdbaaGreatDoorQ09
set_option linter.all false
namespace Go.Proofs.YtepfodmbjojdbaaGreatDoor.Num
open Go Go.RowKit YtepfodmbjojdbaaGreatDoorW.PrintWords YtepfodmbjojdbaaGreatDoorW.PrintMore PNumberPrints
set_option maxRecDepth 100000
set_option maxHeartbeats 1600000
variable (m hi lo s x0 x1 odd i : Nat) (e q p lp : Int) (u0 u1 u2 v0 v1 d0 d1 r : Nat) (w : World) (hP : PowAt p hi lo w)
variable (h234 : ∀ w, PowAt p hi lo w → Calls Tryz.prog 234 #[.pointer (some ⟨w.heap.size, 0, none⟩), .int .i64 e, .int .i64 p, .int .i64 lp] (w.alloc (.cells #[.int .u64 0, .int .u64 0, .int .i64 0] 266)) fun e w' => e = .returned (.tuple #[]) ∧ Sc w.heap.size hi lo s w' ∧ Below w.heap.size w w')
variable (h235 : ∀ w, Calls Tryz.prog 235 #[.int .i64 p] w (Re w (.int .i64 lp)))
variable (h0 : ∀ w', Sc w.heap.size hi lo s w' → Calls Tryz.prog 236 #[.int .u64 (x0 : Int), .pointer (some ⟨w.heap.size, 0, none⟩)] w' fun e w'' => e = .returned (.int .u64 (u0 : Int)) ∧ ∃ n, w'' = w'.drewN n)
variable (h1 : ∀ w', Sc w.heap.size hi lo s w' → Calls Tryz.prog 236 #[.int .u64 (x1 : Int), .pointer (some ⟨w.heap.size, 0, none⟩)] w' fun e w'' => e = .returned (.int .u64 (u1 : Int)) ∧ ∃ n, w'' = w'.drewN n)
variable (h2 : ∀ w', Sc w.heap.size hi lo s w' → Calls Tryz.prog 236 #[.int .u64 (m : Int), .pointer (some ⟨w.heap.size, 0, none⟩)] w' fun e w'' => e = .returned (.int .u64 (u2 : Int)) ∧ ∃ n, w'' = w'.drewN n)
variable (t t10 : Nat) (np p1 np1 : Int) (F1 : Hid (IntKind.u64.wrap ((d1 : Int) / 10) = (t : Int))) (F2 : Hid (IntKind.u64.wrap ((t : Int) * 10) = (t10 : Int)))
variable (E7 : Hid (wrap64 (-p) = np)) (E8 : Hid (wrap64 (p - 1) = p1)) (E9 : Hid (wrap64 (-p1) = np1))
variable (res : Nat) (rp : Int) (hres : Hid ((d0 ≤ t10 → res = t ∧ rp = np1) ∧ (¬ d0 ≤ t10 → d0 < d1 → res = r ∧ rp = np) ∧ (¬ d0 ≤ t10 → ¬ d0 < d1 → res = d0 ∧ rp = np)))
variable (nodd : Int) (E6 : Hid (wrap64 (-(odd : Int)) = nodd))
variable (g0 : ∀ w, Calls Tryz.prog 237 #[.int .u64 (u0 : Int), .int .i64 (odd : Int)] w (Re w (.int .u64 (v0 : Int))))
variable (g1 : ∀ w, Calls Tryz.prog 237 #[.int .u64 (u1 : Int), .int .i64 nodd] w (Re w (.int .u64 (v1 : Int))))
variable (k0 : ∀ w, Calls Tryz.prog 238 #[.int .u64 (v0 : Int)] w (Re w (.int .u64 (d0 : Int))))
variable (k1 : ∀ w, Calls Tryz.prog 239 #[.int .u64 (v1 : Int)] w (Re w (.int .u64 (d1 : Int))))
variable (k2 : ∀ w, Calls Tryz.prog 240 #[.int .u64 (u2 : Int)] w (Re w (.int .u64 (r : Int))))
include m hi lo s x0 x1 odd i e q p lp u0 u1 u2 v0 v1 d0 d1 r w hP h234 h235 h0 h1 h2 t t10 np p1 np1 F1 F2 E7 E8 E9 res rp hres nodd E6 g0 g1 k0 k1 k2
theorem short_norm0_32
  (c0 : Hid (((m : Int) == 9223372036854775808) = false)) (c1 : Hid (decide ((-189) ≤ e) = true))
  (E1 : Hid (wrap64 (e + 40) = q)) (E2 : Hid (wrap64 (-(Nm.log10Pow2 q)) = p)) (E3 : Hid (IntKind.u64.wrap ((m : Int) - 549755813888) = (x0 : Int))) (E4 : Hid (IntKind.u64.wrap ((m : Int) + 549755813888) = (x1 : Int)))
  (E5 : Hid (bits BinOp.and IntKind.i64 (wrap64 ((m : Int) / 1099511627776)) 1 = (odd : Int)))
  (h190 : ∀ w, Calls Tryz.prog 190 #[.int .i64 q] w (Re w (.int .i64 (Nm.log10Pow2 q))))
  :
  Calls Tryz.prog 200 #[.int .u64 (m : Int), .int .i64 e] w (Rt w (.tuple #[.int .u64 (res : Int), .int .i64 rp])) := by
 go_enter Tryz.func200, Tryz.ntmps200
 have c0' := c0.out
 have c1' := c1.out
 have E1' := E1.out
 go_wp2_with fail
 refine (h190 _).mono ?_
 rintro e1 w1 ⟨rfl, rfl⟩
 have E2' := E2.out
 have E3' := E3.out
 have E4' := E4.out
 have E5' := E5.out
 go_wp2_with fail
 refine (h235 _).mono ?_
 rintro e1 w2 ⟨rfl, rfl⟩
 go_wp2_with fail
 refine (h234 _ hP).mono ?_
 rintro e1 w2 ⟨rfl, hS, hB⟩
 go_wp2_with fail
 refine (h0 _ hS).mono ?_
 rintro e1 w3 ⟨rfl, ⟨n3, rfl⟩⟩
 go_wp2_with fail
 refine (g0 _).mono ?_
 rintro e1 w3 ⟨rfl, rfl⟩
 go_wp2_with fail
 refine (k0 _).mono ?_
 rintro e1 w3 ⟨rfl, rfl⟩
 have hS3 := hS.draw n3
 go_wp2_with fail
 refine (h1 _ hS3).mono ?_
 rintro e1 w3 ⟨rfl, ⟨n4, rfl⟩⟩
 have E6' := E6.out
 go_wp2_with fail
 refine (g1 _).mono ?_
 rintro e1 w3 ⟨rfl, rfl⟩
 go_wp2_with fail
 refine (k1 _).mono ?_
 rintro e1 w3 ⟨rfl, rfl⟩
 have hS4 := hS3.draw n4
 have F1' := F1.out
 have F2' := F2.out
 have E7' := E7.out
 by_cases a : d0 ≤ t10
 ·have E8' : wrap64 (p - 1) = p1 := E8
  have E9' := E9.out
  have a1 : decide ((d0 : Int) ≤ (t10 : Int)) = true := by simp; omega
  have a2 : decide (d0 ≤ t10) = true := by simp [a]
  go_wp2_with fail
  go_ret2
  obtain ⟨r1, r2⟩ := (show _ ∧ _ from hres).1 a
  exact ⟨by rw [r1, r2, ← E9', ← E8']; rfl, pw_below_drewN hB _⟩
 have a1 : decide ((d0 : Int) ≤ (t10 : Int)) = false := by simp; omega
 have a2 : decide (d0 ≤ t10) = false := by simp; omega
 by_cases c : d0 < d1
 ·have c1 : decide ((d0 : Int) < (d1 : Int)) = true := by simp; omega
  have c2 : decide (d0 < d1) = true := by simp [c]
  go_wp2_with fail
  refine (h2 _ (hS.draw _)).mono ?_
  rintro e1 w3 ⟨rfl, ⟨n5, rfl⟩⟩
  go_wp2_with fail
  refine (k2 _).mono ?_
  rintro e1 w3 ⟨rfl, rfl⟩
  go_wp2_with fail
  go_ret2
  obtain ⟨r1, r2⟩ := (show _ ∧ _ ∧ _ from hres).2.1 a c
  exact ⟨by rw [r1, r2, ← E7']; rfl, pw_below_drewN hB _⟩
 ·have c1 : decide ((d0 : Int) < (d1 : Int)) = false := by simp; omega
  have c2 : decide (d0 < d1) = false := by simp [c]
  go_wp2_with fail
  go_ret2
  obtain ⟨r1, r2⟩ := (show _ ∧ _ ∧ _ from hres).2.2 a c
  exact ⟨by rw [r1, r2, ← E7']; rfl, pw_below_drewN hB _⟩
theorem short_norm1_32
  (c0 : Hid (((m : Int) == 9223372036854775808) = true)) (cg : Hid (decide ((-189) < e) = false)) (c1 : Hid (decide ((-189) ≤ e) = true))
  (E1 : Hid (wrap64 (e + 40) = q)) (E2 : Hid (wrap64 (-(Nm.log10Pow2 q)) = p)) (E3 : Hid (IntKind.u64.wrap ((m : Int) - 549755813888) = (x0 : Int))) (E4 : Hid (IntKind.u64.wrap ((m : Int) + 549755813888) = (x1 : Int)))
  (E5 : Hid (bits BinOp.and IntKind.i64 (wrap64 ((m : Int) / 1099511627776)) 1 = (odd : Int)))
  (h190 : ∀ w, Calls Tryz.prog 190 #[.int .i64 q] w (Re w (.int .i64 (Nm.log10Pow2 q))))
  :
  Calls Tryz.prog 200 #[.int .u64 (m : Int), .int .i64 e] w (Rt w (.tuple #[.int .u64 (res : Int), .int .i64 rp])) := by
 go_enter Tryz.func200, Tryz.ntmps200
 have c0' := c0.out
 have cg' := cg.out
 have c1' := c1.out
 have E1' := E1.out
 go_wp2_with fail
 refine (h190 _).mono ?_
 rintro e1 w1 ⟨rfl, rfl⟩
 have E2' := E2.out
 have E3' := E3.out
 have E4' := E4.out
 have E5' := E5.out
 go_wp2_with fail
 refine (h235 _).mono ?_
 rintro e1 w2 ⟨rfl, rfl⟩
 go_wp2_with fail
 refine (h234 _ hP).mono ?_
 rintro e1 w2 ⟨rfl, hS, hB⟩
 go_wp2_with fail
 refine (h0 _ hS).mono ?_
 rintro e1 w3 ⟨rfl, ⟨n3, rfl⟩⟩
 go_wp2_with fail
 refine (g0 _).mono ?_
 rintro e1 w3 ⟨rfl, rfl⟩
 go_wp2_with fail
 refine (k0 _).mono ?_
 rintro e1 w3 ⟨rfl, rfl⟩
 have hS3 := hS.draw n3
 go_wp2_with fail
 refine (h1 _ hS3).mono ?_
 rintro e1 w3 ⟨rfl, ⟨n4, rfl⟩⟩
 have E6' := E6.out
 go_wp2_with fail
 refine (g1 _).mono ?_
 rintro e1 w3 ⟨rfl, rfl⟩
 go_wp2_with fail
 refine (k1 _).mono ?_
 rintro e1 w3 ⟨rfl, rfl⟩
 have hS4 := hS3.draw n4
 have F1' := F1.out
 have F2' := F2.out
 have E7' := E7.out
 by_cases a : d0 ≤ t10
 ·have E8' : wrap64 (p - 1) = p1 := E8
  have E9' := E9.out
  have a1 : decide ((d0 : Int) ≤ (t10 : Int)) = true := by simp; omega
  have a2 : decide (d0 ≤ t10) = true := by simp [a]
  go_wp2_with fail
  go_ret2
  obtain ⟨r1, r2⟩ := (show _ ∧ _ from hres).1 a
  exact ⟨by rw [r1, r2, ← E9', ← E8']; rfl, pw_below_drewN hB _⟩
 have a1 : decide ((d0 : Int) ≤ (t10 : Int)) = false := by simp; omega
 have a2 : decide (d0 ≤ t10) = false := by simp; omega
 by_cases c : d0 < d1
 ·have c1 : decide ((d0 : Int) < (d1 : Int)) = true := by simp; omega
  have c2 : decide (d0 < d1) = true := by simp [c]
  go_wp2_with fail
  refine (h2 _ (hS.draw _)).mono ?_
  rintro e1 w3 ⟨rfl, ⟨n5, rfl⟩⟩
  go_wp2_with fail
  refine (k2 _).mono ?_
  rintro e1 w3 ⟨rfl, rfl⟩
  go_wp2_with fail
  go_ret2
  obtain ⟨r1, r2⟩ := (show _ ∧ _ ∧ _ from hres).2.1 a c
  exact ⟨by rw [r1, r2, ← E7']; rfl, pw_below_drewN hB _⟩
 ·have c1 : decide ((d0 : Int) < (d1 : Int)) = false := by simp; omega
  have c2 : decide (d0 < d1) = false := by simp [c]
  go_wp2_with fail
  go_ret2
  obtain ⟨r1, r2⟩ := (show _ ∧ _ ∧ _ from hres).2.2 a c
  exact ⟨by rw [r1, r2, ← E7']; rfl, pw_below_drewN hB _⟩
theorem short_asym_32
  (c0 : Hid (((m : Int) == 9223372036854775808) = true)) (cg : Hid (decide ((-189) < e) = true))
  (E1 : Hid (wrap64 (e + 40) = q)) (E2 : Hid (wrap64 (-(Nm.skewed q)) = p)) (E3 : Hid (IntKind.u64.wrap ((m : Int) - 274877906944) = (x0 : Int))) (E4 : Hid (IntKind.u64.wrap ((m : Int) + 549755813888) = (x1 : Int)))
  (E5 : Hid (bits BinOp.and IntKind.i64 (wrap64 ((m : Int) / 1099511627776)) 1 = (odd : Int)))
  (h190 : ∀ w, Calls Tryz.prog 233 #[.int .i64 q] w (Re w (.int .i64 (Nm.skewed q))))
  :
  Calls Tryz.prog 200 #[.int .u64 (m : Int), .int .i64 e] w (Rt w (.tuple #[.int .u64 (res : Int), .int .i64 rp])) := by
 go_enter Tryz.func200, Tryz.ntmps200
 have c0' := c0.out
 have cg' := cg.out
 have E1' := E1.out
 go_wp2_with fail
 refine (h190 _).mono ?_
 rintro e1 w1 ⟨rfl, rfl⟩
 have E2' := E2.out
 have E3' := E3.out
 have E4' := E4.out
 have E5' := E5.out
 go_wp2_with fail
 refine (h235 _).mono ?_
 rintro e1 w2 ⟨rfl, rfl⟩
 go_wp2_with fail
 refine (h234 _ hP).mono ?_
 rintro e1 w2 ⟨rfl, hS, hB⟩
 go_wp2_with fail
 refine (h0 _ hS).mono ?_
 rintro e1 w3 ⟨rfl, ⟨n3, rfl⟩⟩
 go_wp2_with fail
 refine (g0 _).mono ?_
 rintro e1 w3 ⟨rfl, rfl⟩
 go_wp2_with fail
 refine (k0 _).mono ?_
 rintro e1 w3 ⟨rfl, rfl⟩
 have hS3 := hS.draw n3
 go_wp2_with fail
 refine (h1 _ hS3).mono ?_
 rintro e1 w3 ⟨rfl, ⟨n4, rfl⟩⟩
 have E6' := E6.out
 go_wp2_with fail
 refine (g1 _).mono ?_
 rintro e1 w3 ⟨rfl, rfl⟩
 go_wp2_with fail
 refine (k1 _).mono ?_
 rintro e1 w3 ⟨rfl, rfl⟩
 have hS4 := hS3.draw n4
 have F1' := F1.out
 have F2' := F2.out
 have E7' := E7.out
 by_cases a : d0 ≤ t10
 ·have E8' : wrap64 (p - 1) = p1 := E8
  have E9' := E9.out
  have a1 : decide ((d0 : Int) ≤ (t10 : Int)) = true := by simp; omega
  have a2 : decide (d0 ≤ t10) = true := by simp [a]
  go_wp2_with fail
  go_ret2
  obtain ⟨r1, r2⟩ := (show _ ∧ _ from hres).1 a
  exact ⟨by rw [r1, r2, ← E9', ← E8']; rfl, pw_below_drewN hB _⟩
 have a1 : decide ((d0 : Int) ≤ (t10 : Int)) = false := by simp; omega
 have a2 : decide (d0 ≤ t10) = false := by simp; omega
 by_cases c : d0 < d1
 ·have c1 : decide ((d0 : Int) < (d1 : Int)) = true := by simp; omega
  have c2 : decide (d0 < d1) = true := by simp [c]
  go_wp2_with fail
  refine (h2 _ (hS.draw _)).mono ?_
  rintro e1 w3 ⟨rfl, ⟨n5, rfl⟩⟩
  go_wp2_with fail
  refine (k2 _).mono ?_
  rintro e1 w3 ⟨rfl, rfl⟩
  go_wp2_with fail
  go_ret2
  obtain ⟨r1, r2⟩ := (show _ ∧ _ ∧ _ from hres).2.1 a c
  exact ⟨by rw [r1, r2, ← E7']; rfl, pw_below_drewN hB _⟩
 ·have c1 : decide ((d0 : Int) < (d1 : Int)) = false := by simp; omega
  have c2 : decide (d0 < d1) = false := by simp [c]
  go_wp2_with fail
  go_ret2
  obtain ⟨r1, r2⟩ := (show _ ∧ _ ∧ _ from hres).2.2 a c
  exact ⟨by rw [r1, r2, ← E7']; rfl, pw_below_drewN hB _⟩
theorem short_sub0_32
  (c0 : Hid (((m : Int) == 9223372036854775808) = false)) (c1 : Hid (decide ((-189) ≤ e) = false))
  (z z1 H mz : Nat) (dz : Int) (S1 : Hid (wrap64 ((-189) - e) = dz)) (S2 : Hid (wrap64 (40 + dz) = (z : Int))) (S3 : Hid ((z : Int) - 1 = (z1 : Int))) (S4 : Hid (IntKind.u64.wrap (2 ^ z1) = (H : Int))) (S5 : Hid ((m : Int) / 2 ^ z = (mz : Int))) (S6 : Hid ((z : Int) ≤ 64)) (S7 : Hid ((z1 : Int) ≤ 64))
  (E1 : Hid (wrap64 (e + (z : Int)) = q)) (E2 : Hid (wrap64 (-(Nm.log10Pow2 q)) = p)) (E3 : Hid (IntKind.u64.wrap ((m : Int) - (H : Int)) = (x0 : Int))) (E4 : Hid (IntKind.u64.wrap ((m : Int) + (H : Int)) = (x1 : Int)))
  (E5 : Hid (bits BinOp.and IntKind.i64 (wrap64 (mz : Int)) 1 = (odd : Int)))
  (h190 : ∀ w, Calls Tryz.prog 190 #[.int .i64 q] w (Re w (.int .i64 (Nm.log10Pow2 q))))
  :
  Calls Tryz.prog 200 #[.int .u64 (m : Int), .int .i64 e] w (Rt w (.tuple #[.int .u64 (res : Int), .int .i64 rp])) := by
 go_enter Tryz.func200, Tryz.ntmps200
 have c0' := c0.out
 have c1' := c1.out
 have S1' := S1.out
 have S2' := S2.out
 have S3' := S3.out
 have E1' := E1.out
 go_wp2_with fail
 refine (h190 _).mono ?_
 rintro e1 w1 ⟨rfl, rfl⟩
 have E2' := E2.out
 have S4' := S4.out
 have S5' := S5.out
 have S6' := S6.out
 have S7' := S7.out
 have E3' := E3.out
 have E4' := E4.out
 have E5' := E5.out
 go_wp2_with fail
 refine (h235 _).mono ?_
 rintro e1 w2 ⟨rfl, rfl⟩
 go_wp2_with fail
 refine (h234 _ hP).mono ?_
 rintro e1 w2 ⟨rfl, hS, hB⟩
 go_wp2_with fail
 refine (h0 _ hS).mono ?_
 rintro e1 w3 ⟨rfl, ⟨n3, rfl⟩⟩
 go_wp2_with fail
 refine (g0 _).mono ?_
 rintro e1 w3 ⟨rfl, rfl⟩
 go_wp2_with fail
 refine (k0 _).mono ?_
 rintro e1 w3 ⟨rfl, rfl⟩
 have hS3 := hS.draw n3
 go_wp2_with fail
 refine (h1 _ hS3).mono ?_
 rintro e1 w3 ⟨rfl, ⟨n4, rfl⟩⟩
 have E6' := E6.out
 go_wp2_with fail
 refine (g1 _).mono ?_
 rintro e1 w3 ⟨rfl, rfl⟩
 go_wp2_with fail
 refine (k1 _).mono ?_
 rintro e1 w3 ⟨rfl, rfl⟩
 have hS4 := hS3.draw n4
 have F1' := F1.out
 have F2' := F2.out
 have E7' := E7.out
 by_cases a : d0 ≤ t10
 ·have E8' : wrap64 (p - 1) = p1 := E8
  have E9' := E9.out
  have a1 : decide ((d0 : Int) ≤ (t10 : Int)) = true := by simp; omega
  have a2 : decide (d0 ≤ t10) = true := by simp [a]
  go_wp2_with fail
  go_ret2
  obtain ⟨r1, r2⟩ := (show _ ∧ _ from hres).1 a
  exact ⟨by rw [r1, r2, ← E9', ← E8']; rfl, pw_below_drewN hB _⟩
 have a1 : decide ((d0 : Int) ≤ (t10 : Int)) = false := by simp; omega
 have a2 : decide (d0 ≤ t10) = false := by simp; omega
 by_cases c : d0 < d1
 ·have c1 : decide ((d0 : Int) < (d1 : Int)) = true := by simp; omega
  have c2 : decide (d0 < d1) = true := by simp [c]
  go_wp2_with fail
  refine (h2 _ (hS.draw _)).mono ?_
  rintro e1 w3 ⟨rfl, ⟨n5, rfl⟩⟩
  go_wp2_with fail
  refine (k2 _).mono ?_
  rintro e1 w3 ⟨rfl, rfl⟩
  go_wp2_with fail
  go_ret2
  obtain ⟨r1, r2⟩ := (show _ ∧ _ ∧ _ from hres).2.1 a c
  exact ⟨by rw [r1, r2, ← E7']; rfl, pw_below_drewN hB _⟩
 ·have c1 : decide ((d0 : Int) < (d1 : Int)) = false := by simp; omega
  have c2 : decide (d0 < d1) = false := by simp [c]
  go_wp2_with fail
  go_ret2
  obtain ⟨r1, r2⟩ := (show _ ∧ _ ∧ _ from hres).2.2 a c
  exact ⟨by rw [r1, r2, ← E7']; rfl, pw_below_drewN hB _⟩
theorem short_sub1_32
  (c0 : Hid (((m : Int) == 9223372036854775808) = true)) (cg : Hid (decide ((-189) < e) = false)) (c1 : Hid (decide ((-189) ≤ e) = false))
  (z z1 H mz : Nat) (dz : Int) (S1 : Hid (wrap64 ((-189) - e) = dz)) (S2 : Hid (wrap64 (40 + dz) = (z : Int))) (S3 : Hid ((z : Int) - 1 = (z1 : Int))) (S4 : Hid (IntKind.u64.wrap (2 ^ z1) = (H : Int))) (S5 : Hid ((m : Int) / 2 ^ z = (mz : Int))) (S6 : Hid ((z : Int) ≤ 64)) (S7 : Hid ((z1 : Int) ≤ 64))
  (E1 : Hid (wrap64 (e + (z : Int)) = q)) (E2 : Hid (wrap64 (-(Nm.log10Pow2 q)) = p)) (E3 : Hid (IntKind.u64.wrap ((m : Int) - (H : Int)) = (x0 : Int))) (E4 : Hid (IntKind.u64.wrap ((m : Int) + (H : Int)) = (x1 : Int)))
  (E5 : Hid (bits BinOp.and IntKind.i64 (wrap64 (mz : Int)) 1 = (odd : Int)))
  (h190 : ∀ w, Calls Tryz.prog 190 #[.int .i64 q] w (Re w (.int .i64 (Nm.log10Pow2 q))))
  :
  Calls Tryz.prog 200 #[.int .u64 (m : Int), .int .i64 e] w (Rt w (.tuple #[.int .u64 (res : Int), .int .i64 rp])) := by
 go_enter Tryz.func200, Tryz.ntmps200
 have c0' := c0.out
 have cg' := cg.out
 have c1' := c1.out
 have S1' := S1.out
 have S2' := S2.out
 have S3' := S3.out
 have E1' := E1.out
 go_wp2_with fail
 refine (h190 _).mono ?_
 rintro e1 w1 ⟨rfl, rfl⟩
 have E2' := E2.out
 have S4' := S4.out
 have S5' := S5.out
 have S6' := S6.out
 have S7' := S7.out
 have E3' := E3.out
 have E4' := E4.out
 have E5' := E5.out
 go_wp2_with fail
 refine (h235 _).mono ?_
 rintro e1 w2 ⟨rfl, rfl⟩
 go_wp2_with fail
 refine (h234 _ hP).mono ?_
 rintro e1 w2 ⟨rfl, hS, hB⟩
 go_wp2_with fail
 refine (h0 _ hS).mono ?_
 rintro e1 w3 ⟨rfl, ⟨n3, rfl⟩⟩
 go_wp2_with fail
 refine (g0 _).mono ?_
 rintro e1 w3 ⟨rfl, rfl⟩
 go_wp2_with fail
 refine (k0 _).mono ?_
 rintro e1 w3 ⟨rfl, rfl⟩
 have hS3 := hS.draw n3
 go_wp2_with fail
 refine (h1 _ hS3).mono ?_
 rintro e1 w3 ⟨rfl, ⟨n4, rfl⟩⟩
 have E6' := E6.out
 go_wp2_with fail
 refine (g1 _).mono ?_
 rintro e1 w3 ⟨rfl, rfl⟩
 go_wp2_with fail
 refine (k1 _).mono ?_
 rintro e1 w3 ⟨rfl, rfl⟩
 have hS4 := hS3.draw n4
 have F1' := F1.out
 have F2' := F2.out
 have E7' := E7.out
 by_cases a : d0 ≤ t10
 ·have E8' : wrap64 (p - 1) = p1 := E8
  have E9' := E9.out
  have a1 : decide ((d0 : Int) ≤ (t10 : Int)) = true := by simp; omega
  have a2 : decide (d0 ≤ t10) = true := by simp [a]
  go_wp2_with fail
  go_ret2
  obtain ⟨r1, r2⟩ := (show _ ∧ _ from hres).1 a
  exact ⟨by rw [r1, r2, ← E9', ← E8']; rfl, pw_below_drewN hB _⟩
 have a1 : decide ((d0 : Int) ≤ (t10 : Int)) = false := by simp; omega
 have a2 : decide (d0 ≤ t10) = false := by simp; omega
 by_cases c : d0 < d1
 ·have c1 : decide ((d0 : Int) < (d1 : Int)) = true := by simp; omega
  have c2 : decide (d0 < d1) = true := by simp [c]
  go_wp2_with fail
  refine (h2 _ (hS.draw _)).mono ?_
  rintro e1 w3 ⟨rfl, ⟨n5, rfl⟩⟩
  go_wp2_with fail
  refine (k2 _).mono ?_
  rintro e1 w3 ⟨rfl, rfl⟩
  go_wp2_with fail
  go_ret2
  obtain ⟨r1, r2⟩ := (show _ ∧ _ ∧ _ from hres).2.1 a c
  exact ⟨by rw [r1, r2, ← E7']; rfl, pw_below_drewN hB _⟩
 ·have c1 : decide ((d0 : Int) < (d1 : Int)) = false := by simp; omega
  have c2 : decide (d0 < d1) = false := by simp [c]
  go_wp2_with fail
  go_ret2
  obtain ⟨r1, r2⟩ := (show _ ∧ _ ∧ _ from hres).2.2 a c
  exact ⟨by rw [r1, r2, ← E7']; rfl, pw_below_drewN hB _⟩
theorem short_norm0_64
  (c0 : Hid (((m : Int) == 9223372036854775808) = false)) (c1 : Hid (decide ((-1085) ≤ e) = true))
  (E1 : Hid (wrap64 (e + 11) = q)) (E2 : Hid (wrap64 (-(Nm.log10Pow2 q)) = p)) (E3 : Hid (IntKind.u64.wrap ((m : Int) - 1024) = (x0 : Int))) (E4 : Hid (IntKind.u64.wrap ((m : Int) + 1024) = (x1 : Int)))
  (E5 : Hid (bits BinOp.and IntKind.i64 (wrap64 ((m : Int) / 2048)) 1 = (odd : Int)))
  (h190 : ∀ w, Calls Tryz.prog 190 #[.int .i64 q] w (Re w (.int .i64 (Nm.log10Pow2 q))))
  :
  Calls Tryz.prog 206 #[.int .u64 (m : Int), .int .i64 e] w (Rt w (.tuple #[.int .u64 (res : Int), .int .i64 rp])) := by
 go_enter Tryz.func206, Tryz.ntmps206
 have c0' := c0.out
 have c1' := c1.out
 have E1' := E1.out
 go_wp2_with fail
 refine (h190 _).mono ?_
 rintro e1 w1 ⟨rfl, rfl⟩
 have E2' := E2.out
 have E3' := E3.out
 have E4' := E4.out
 have E5' := E5.out
 go_wp2_with fail
 refine (h235 _).mono ?_
 rintro e1 w2 ⟨rfl, rfl⟩
 go_wp2_with fail
 refine (h234 _ hP).mono ?_
 rintro e1 w2 ⟨rfl, hS, hB⟩
 go_wp2_with fail
 refine (h0 _ hS).mono ?_
 rintro e1 w3 ⟨rfl, ⟨n3, rfl⟩⟩
 go_wp2_with fail
 refine (g0 _).mono ?_
 rintro e1 w3 ⟨rfl, rfl⟩
 go_wp2_with fail
 refine (k0 _).mono ?_
 rintro e1 w3 ⟨rfl, rfl⟩
 have hS3 := hS.draw n3
 go_wp2_with fail
 refine (h1 _ hS3).mono ?_
 rintro e1 w3 ⟨rfl, ⟨n4, rfl⟩⟩
 have E6' := E6.out
 go_wp2_with fail
 refine (g1 _).mono ?_
 rintro e1 w3 ⟨rfl, rfl⟩
 go_wp2_with fail
 refine (k1 _).mono ?_
 rintro e1 w3 ⟨rfl, rfl⟩
 have hS4 := hS3.draw n4
 have F1' := F1.out
 have F2' := F2.out
 have E7' := E7.out
 by_cases a : d0 ≤ t10
 ·have E8' : wrap64 (p - 1) = p1 := E8
  have E9' := E9.out
  have a1 : decide ((d0 : Int) ≤ (t10 : Int)) = true := by simp; omega
  have a2 : decide (d0 ≤ t10) = true := by simp [a]
  go_wp2_with fail
  go_ret2
  obtain ⟨r1, r2⟩ := (show _ ∧ _ from hres).1 a
  exact ⟨by rw [r1, r2, ← E9', ← E8']; rfl, pw_below_drewN hB _⟩
 have a1 : decide ((d0 : Int) ≤ (t10 : Int)) = false := by simp; omega
 have a2 : decide (d0 ≤ t10) = false := by simp; omega
 by_cases c : d0 < d1
 ·have c1 : decide ((d0 : Int) < (d1 : Int)) = true := by simp; omega
  have c2 : decide (d0 < d1) = true := by simp [c]
  go_wp2_with fail
  refine (h2 _ (hS.draw _)).mono ?_
  rintro e1 w3 ⟨rfl, ⟨n5, rfl⟩⟩
  go_wp2_with fail
  refine (k2 _).mono ?_
  rintro e1 w3 ⟨rfl, rfl⟩
  go_wp2_with fail
  go_ret2
  obtain ⟨r1, r2⟩ := (show _ ∧ _ ∧ _ from hres).2.1 a c
  exact ⟨by rw [r1, r2, ← E7']; rfl, pw_below_drewN hB _⟩
 ·have c1 : decide ((d0 : Int) < (d1 : Int)) = false := by simp; omega
  have c2 : decide (d0 < d1) = false := by simp [c]
  go_wp2_with fail
  go_ret2
  obtain ⟨r1, r2⟩ := (show _ ∧ _ ∧ _ from hres).2.2 a c
  exact ⟨by rw [r1, r2, ← E7']; rfl, pw_below_drewN hB _⟩
theorem short_norm1_64
  (c0 : Hid (((m : Int) == 9223372036854775808) = true)) (cg : Hid (decide ((-1085) < e) = false)) (c1 : Hid (decide ((-1085) ≤ e) = true))
  (E1 : Hid (wrap64 (e + 11) = q)) (E2 : Hid (wrap64 (-(Nm.log10Pow2 q)) = p)) (E3 : Hid (IntKind.u64.wrap ((m : Int) - 1024) = (x0 : Int))) (E4 : Hid (IntKind.u64.wrap ((m : Int) + 1024) = (x1 : Int)))
  (E5 : Hid (bits BinOp.and IntKind.i64 (wrap64 ((m : Int) / 2048)) 1 = (odd : Int)))
  (h190 : ∀ w, Calls Tryz.prog 190 #[.int .i64 q] w (Re w (.int .i64 (Nm.log10Pow2 q))))
  :
  Calls Tryz.prog 206 #[.int .u64 (m : Int), .int .i64 e] w (Rt w (.tuple #[.int .u64 (res : Int), .int .i64 rp])) := by
 go_enter Tryz.func206, Tryz.ntmps206
 have c0' := c0.out
 have cg' := cg.out
 have c1' := c1.out
 have E1' := E1.out
 go_wp2_with fail
 refine (h190 _).mono ?_
 rintro e1 w1 ⟨rfl, rfl⟩
 have E2' := E2.out
 have E3' := E3.out
 have E4' := E4.out
 have E5' := E5.out
 go_wp2_with fail
 refine (h235 _).mono ?_
 rintro e1 w2 ⟨rfl, rfl⟩
 go_wp2_with fail
 refine (h234 _ hP).mono ?_
 rintro e1 w2 ⟨rfl, hS, hB⟩
 go_wp2_with fail
 refine (h0 _ hS).mono ?_
 rintro e1 w3 ⟨rfl, ⟨n3, rfl⟩⟩
 go_wp2_with fail
 refine (g0 _).mono ?_
 rintro e1 w3 ⟨rfl, rfl⟩
 go_wp2_with fail
 refine (k0 _).mono ?_
 rintro e1 w3 ⟨rfl, rfl⟩
 have hS3 := hS.draw n3
 go_wp2_with fail
 refine (h1 _ hS3).mono ?_
 rintro e1 w3 ⟨rfl, ⟨n4, rfl⟩⟩
 have E6' := E6.out
 go_wp2_with fail
 refine (g1 _).mono ?_
 rintro e1 w3 ⟨rfl, rfl⟩
 go_wp2_with fail
 refine (k1 _).mono ?_
 rintro e1 w3 ⟨rfl, rfl⟩
 have hS4 := hS3.draw n4
 have F1' := F1.out
 have F2' := F2.out
 have E7' := E7.out
 by_cases a : d0 ≤ t10
 ·have E8' : wrap64 (p - 1) = p1 := E8
  have E9' := E9.out
  have a1 : decide ((d0 : Int) ≤ (t10 : Int)) = true := by simp; omega
  have a2 : decide (d0 ≤ t10) = true := by simp [a]
  go_wp2_with fail
  go_ret2
  obtain ⟨r1, r2⟩ := (show _ ∧ _ from hres).1 a
  exact ⟨by rw [r1, r2, ← E9', ← E8']; rfl, pw_below_drewN hB _⟩
 have a1 : decide ((d0 : Int) ≤ (t10 : Int)) = false := by simp; omega
 have a2 : decide (d0 ≤ t10) = false := by simp; omega
 by_cases c : d0 < d1
 ·have c1 : decide ((d0 : Int) < (d1 : Int)) = true := by simp; omega
  have c2 : decide (d0 < d1) = true := by simp [c]
  go_wp2_with fail
  refine (h2 _ (hS.draw _)).mono ?_
  rintro e1 w3 ⟨rfl, ⟨n5, rfl⟩⟩
  go_wp2_with fail
  refine (k2 _).mono ?_
  rintro e1 w3 ⟨rfl, rfl⟩
  go_wp2_with fail
  go_ret2
  obtain ⟨r1, r2⟩ := (show _ ∧ _ ∧ _ from hres).2.1 a c
  exact ⟨by rw [r1, r2, ← E7']; rfl, pw_below_drewN hB _⟩
 ·have c1 : decide ((d0 : Int) < (d1 : Int)) = false := by simp; omega
  have c2 : decide (d0 < d1) = false := by simp [c]
  go_wp2_with fail
  go_ret2
  obtain ⟨r1, r2⟩ := (show _ ∧ _ ∧ _ from hres).2.2 a c
  exact ⟨by rw [r1, r2, ← E7']; rfl, pw_below_drewN hB _⟩
theorem short_asym_64
  (c0 : Hid (((m : Int) == 9223372036854775808) = true)) (cg : Hid (decide ((-1085) < e) = true))
  (E1 : Hid (wrap64 (e + 11) = q)) (E2 : Hid (wrap64 (-(Nm.skewed q)) = p)) (E3 : Hid (IntKind.u64.wrap ((m : Int) - 512) = (x0 : Int))) (E4 : Hid (IntKind.u64.wrap ((m : Int) + 1024) = (x1 : Int)))
  (E5 : Hid (bits BinOp.and IntKind.i64 (wrap64 ((m : Int) / 2048)) 1 = (odd : Int)))
  (h190 : ∀ w, Calls Tryz.prog 233 #[.int .i64 q] w (Re w (.int .i64 (Nm.skewed q))))
  :
  Calls Tryz.prog 206 #[.int .u64 (m : Int), .int .i64 e] w (Rt w (.tuple #[.int .u64 (res : Int), .int .i64 rp])) := by
 go_enter Tryz.func206, Tryz.ntmps206
 have c0' := c0.out
 have cg' := cg.out
 have E1' := E1.out
 go_wp2_with fail
 refine (h190 _).mono ?_
 rintro e1 w1 ⟨rfl, rfl⟩
 have E2' := E2.out
 have E3' := E3.out
 have E4' := E4.out
 have E5' := E5.out
 go_wp2_with fail
 refine (h235 _).mono ?_
 rintro e1 w2 ⟨rfl, rfl⟩
 go_wp2_with fail
 refine (h234 _ hP).mono ?_
 rintro e1 w2 ⟨rfl, hS, hB⟩
 go_wp2_with fail
 refine (h0 _ hS).mono ?_
 rintro e1 w3 ⟨rfl, ⟨n3, rfl⟩⟩
 go_wp2_with fail
 refine (g0 _).mono ?_
 rintro e1 w3 ⟨rfl, rfl⟩
 go_wp2_with fail
 refine (k0 _).mono ?_
 rintro e1 w3 ⟨rfl, rfl⟩
 have hS3 := hS.draw n3
 go_wp2_with fail
 refine (h1 _ hS3).mono ?_
 rintro e1 w3 ⟨rfl, ⟨n4, rfl⟩⟩
 have E6' := E6.out
 go_wp2_with fail
 refine (g1 _).mono ?_
 rintro e1 w3 ⟨rfl, rfl⟩
 go_wp2_with fail
 refine (k1 _).mono ?_
 rintro e1 w3 ⟨rfl, rfl⟩
 have hS4 := hS3.draw n4
 have F1' := F1.out
 have F2' := F2.out
 have E7' := E7.out
 by_cases a : d0 ≤ t10
 ·have E8' : wrap64 (p - 1) = p1 := E8
  have E9' := E9.out
  have a1 : decide ((d0 : Int) ≤ (t10 : Int)) = true := by simp; omega
  have a2 : decide (d0 ≤ t10) = true := by simp [a]
  go_wp2_with fail
  go_ret2
  obtain ⟨r1, r2⟩ := (show _ ∧ _ from hres).1 a
  exact ⟨by rw [r1, r2, ← E9', ← E8']; rfl, pw_below_drewN hB _⟩
 have a1 : decide ((d0 : Int) ≤ (t10 : Int)) = false := by simp; omega
 have a2 : decide (d0 ≤ t10) = false := by simp; omega
 by_cases c : d0 < d1
 ·have c1 : decide ((d0 : Int) < (d1 : Int)) = true := by simp; omega
  have c2 : decide (d0 < d1) = true := by simp [c]
  go_wp2_with fail
  refine (h2 _ (hS.draw _)).mono ?_
  rintro e1 w3 ⟨rfl, ⟨n5, rfl⟩⟩
  go_wp2_with fail
  refine (k2 _).mono ?_
  rintro e1 w3 ⟨rfl, rfl⟩
  go_wp2_with fail
  go_ret2
  obtain ⟨r1, r2⟩ := (show _ ∧ _ ∧ _ from hres).2.1 a c
  exact ⟨by rw [r1, r2, ← E7']; rfl, pw_below_drewN hB _⟩
 ·have c1 : decide ((d0 : Int) < (d1 : Int)) = false := by simp; omega
  have c2 : decide (d0 < d1) = false := by simp [c]
  go_wp2_with fail
  go_ret2
  obtain ⟨r1, r2⟩ := (show _ ∧ _ ∧ _ from hres).2.2 a c
  exact ⟨by rw [r1, r2, ← E7']; rfl, pw_below_drewN hB _⟩
theorem short_sub0_64
  (c0 : Hid (((m : Int) == 9223372036854775808) = false)) (c1 : Hid (decide ((-1085) ≤ e) = false))
  (z z1 H mz : Nat) (dz : Int) (S1 : Hid (wrap64 ((-1085) - e) = dz)) (S2 : Hid (wrap64 (11 + dz) = (z : Int))) (S3 : Hid ((z : Int) - 1 = (z1 : Int))) (S4 : Hid (IntKind.u64.wrap (2 ^ z1) = (H : Int))) (S5 : Hid ((m : Int) / 2 ^ z = (mz : Int))) (S6 : Hid ((z : Int) ≤ 64)) (S7 : Hid ((z1 : Int) ≤ 64))
  (E1 : Hid (wrap64 (e + (z : Int)) = q)) (E2 : Hid (wrap64 (-(Nm.log10Pow2 q)) = p)) (E3 : Hid (IntKind.u64.wrap ((m : Int) - (H : Int)) = (x0 : Int))) (E4 : Hid (IntKind.u64.wrap ((m : Int) + (H : Int)) = (x1 : Int)))
  (E5 : Hid (bits BinOp.and IntKind.i64 (wrap64 (mz : Int)) 1 = (odd : Int)))
  (h190 : ∀ w, Calls Tryz.prog 190 #[.int .i64 q] w (Re w (.int .i64 (Nm.log10Pow2 q))))
  :
  Calls Tryz.prog 206 #[.int .u64 (m : Int), .int .i64 e] w (Rt w (.tuple #[.int .u64 (res : Int), .int .i64 rp])) := by
 go_enter Tryz.func206, Tryz.ntmps206
 have c0' := c0.out
 have c1' := c1.out
 have S1' := S1.out
 have S2' := S2.out
 have S3' := S3.out
 have E1' := E1.out
 go_wp2_with fail
 refine (h190 _).mono ?_
 rintro e1 w1 ⟨rfl, rfl⟩
 have E2' := E2.out
 have S4' := S4.out
 have S5' := S5.out
 have S6' := S6.out
 have S7' := S7.out
 have E3' := E3.out
 have E4' := E4.out
 have E5' := E5.out
 go_wp2_with fail
 refine (h235 _).mono ?_
 rintro e1 w2 ⟨rfl, rfl⟩
 go_wp2_with fail
 refine (h234 _ hP).mono ?_
 rintro e1 w2 ⟨rfl, hS, hB⟩
 go_wp2_with fail
 refine (h0 _ hS).mono ?_
 rintro e1 w3 ⟨rfl, ⟨n3, rfl⟩⟩
 go_wp2_with fail
 refine (g0 _).mono ?_
 rintro e1 w3 ⟨rfl, rfl⟩
 go_wp2_with fail
 refine (k0 _).mono ?_
 rintro e1 w3 ⟨rfl, rfl⟩
 have hS3 := hS.draw n3
 go_wp2_with fail
 refine (h1 _ hS3).mono ?_
 rintro e1 w3 ⟨rfl, ⟨n4, rfl⟩⟩
 have E6' := E6.out
 go_wp2_with fail
 refine (g1 _).mono ?_
 rintro e1 w3 ⟨rfl, rfl⟩
 go_wp2_with fail
 refine (k1 _).mono ?_
 rintro e1 w3 ⟨rfl, rfl⟩
 have hS4 := hS3.draw n4
 have F1' := F1.out
 have F2' := F2.out
 have E7' := E7.out
 by_cases a : d0 ≤ t10
 ·have E8' : wrap64 (p - 1) = p1 := E8
  have E9' := E9.out
  have a1 : decide ((d0 : Int) ≤ (t10 : Int)) = true := by simp; omega
  have a2 : decide (d0 ≤ t10) = true := by simp [a]
  go_wp2_with fail
  go_ret2
  obtain ⟨r1, r2⟩ := (show _ ∧ _ from hres).1 a
  exact ⟨by rw [r1, r2, ← E9', ← E8']; rfl, pw_below_drewN hB _⟩
 have a1 : decide ((d0 : Int) ≤ (t10 : Int)) = false := by simp; omega
 have a2 : decide (d0 ≤ t10) = false := by simp; omega
 by_cases c : d0 < d1
 ·have c1 : decide ((d0 : Int) < (d1 : Int)) = true := by simp; omega
  have c2 : decide (d0 < d1) = true := by simp [c]
  go_wp2_with fail
  refine (h2 _ (hS.draw _)).mono ?_
  rintro e1 w3 ⟨rfl, ⟨n5, rfl⟩⟩
  go_wp2_with fail
  refine (k2 _).mono ?_
  rintro e1 w3 ⟨rfl, rfl⟩
  go_wp2_with fail
  go_ret2
  obtain ⟨r1, r2⟩ := (show _ ∧ _ ∧ _ from hres).2.1 a c
  exact ⟨by rw [r1, r2, ← E7']; rfl, pw_below_drewN hB _⟩
 ·have c1 : decide ((d0 : Int) < (d1 : Int)) = false := by simp; omega
  have c2 : decide (d0 < d1) = false := by simp [c]
  go_wp2_with fail
  go_ret2
  obtain ⟨r1, r2⟩ := (show _ ∧ _ ∧ _ from hres).2.2 a c
  exact ⟨by rw [r1, r2, ← E7']; rfl, pw_below_drewN hB _⟩
theorem short_sub1_64
  (c0 : Hid (((m : Int) == 9223372036854775808) = true)) (cg : Hid (decide ((-1085) < e) = false)) (c1 : Hid (decide ((-1085) ≤ e) = false))
  (z z1 H mz : Nat) (dz : Int) (S1 : Hid (wrap64 ((-1085) - e) = dz)) (S2 : Hid (wrap64 (11 + dz) = (z : Int))) (S3 : Hid ((z : Int) - 1 = (z1 : Int))) (S4 : Hid (IntKind.u64.wrap (2 ^ z1) = (H : Int))) (S5 : Hid ((m : Int) / 2 ^ z = (mz : Int))) (S6 : Hid ((z : Int) ≤ 64)) (S7 : Hid ((z1 : Int) ≤ 64))
  (E1 : Hid (wrap64 (e + (z : Int)) = q)) (E2 : Hid (wrap64 (-(Nm.log10Pow2 q)) = p)) (E3 : Hid (IntKind.u64.wrap ((m : Int) - (H : Int)) = (x0 : Int))) (E4 : Hid (IntKind.u64.wrap ((m : Int) + (H : Int)) = (x1 : Int)))
  (E5 : Hid (bits BinOp.and IntKind.i64 (wrap64 (mz : Int)) 1 = (odd : Int)))
  (h190 : ∀ w, Calls Tryz.prog 190 #[.int .i64 q] w (Re w (.int .i64 (Nm.log10Pow2 q))))
  :
  Calls Tryz.prog 206 #[.int .u64 (m : Int), .int .i64 e] w (Rt w (.tuple #[.int .u64 (res : Int), .int .i64 rp])) := by
 go_enter Tryz.func206, Tryz.ntmps206
 have c0' := c0.out
 have cg' := cg.out
 have c1' := c1.out
 have S1' := S1.out
 have S2' := S2.out
 have S3' := S3.out
 have E1' := E1.out
 go_wp2_with fail
 refine (h190 _).mono ?_
 rintro e1 w1 ⟨rfl, rfl⟩
 have E2' := E2.out
 have S4' := S4.out
 have S5' := S5.out
 have S6' := S6.out
 have S7' := S7.out
 have E3' := E3.out
 have E4' := E4.out
 have E5' := E5.out
 go_wp2_with fail
 refine (h235 _).mono ?_
 rintro e1 w2 ⟨rfl, rfl⟩
 go_wp2_with fail
 refine (h234 _ hP).mono ?_
 rintro e1 w2 ⟨rfl, hS, hB⟩
 go_wp2_with fail
 refine (h0 _ hS).mono ?_
 rintro e1 w3 ⟨rfl, ⟨n3, rfl⟩⟩
 go_wp2_with fail
 refine (g0 _).mono ?_
 rintro e1 w3 ⟨rfl, rfl⟩
 go_wp2_with fail
 refine (k0 _).mono ?_
 rintro e1 w3 ⟨rfl, rfl⟩
 have hS3 := hS.draw n3
 go_wp2_with fail
 refine (h1 _ hS3).mono ?_
 rintro e1 w3 ⟨rfl, ⟨n4, rfl⟩⟩
 have E6' := E6.out
 go_wp2_with fail
 refine (g1 _).mono ?_
 rintro e1 w3 ⟨rfl, rfl⟩
 go_wp2_with fail
 refine (k1 _).mono ?_
 rintro e1 w3 ⟨rfl, rfl⟩
 have hS4 := hS3.draw n4
 have F1' := F1.out
 have F2' := F2.out
 have E7' := E7.out
 by_cases a : d0 ≤ t10
 ·have E8' : wrap64 (p - 1) = p1 := E8
  have E9' := E9.out
  have a1 : decide ((d0 : Int) ≤ (t10 : Int)) = true := by simp; omega
  have a2 : decide (d0 ≤ t10) = true := by simp [a]
  go_wp2_with fail
  go_ret2
  obtain ⟨r1, r2⟩ := (show _ ∧ _ from hres).1 a
  exact ⟨by rw [r1, r2, ← E9', ← E8']; rfl, pw_below_drewN hB _⟩
 have a1 : decide ((d0 : Int) ≤ (t10 : Int)) = false := by simp; omega
 have a2 : decide (d0 ≤ t10) = false := by simp; omega
 by_cases c : d0 < d1
 ·have c1 : decide ((d0 : Int) < (d1 : Int)) = true := by simp; omega
  have c2 : decide (d0 < d1) = true := by simp [c]
  go_wp2_with fail
  refine (h2 _ (hS.draw _)).mono ?_
  rintro e1 w3 ⟨rfl, ⟨n5, rfl⟩⟩
  go_wp2_with fail
  refine (k2 _).mono ?_
  rintro e1 w3 ⟨rfl, rfl⟩
  go_wp2_with fail
  go_ret2
  obtain ⟨r1, r2⟩ := (show _ ∧ _ ∧ _ from hres).2.1 a c
  exact ⟨by rw [r1, r2, ← E7']; rfl, pw_below_drewN hB _⟩
 ·have c1 : decide ((d0 : Int) < (d1 : Int)) = false := by simp; omega
  have c2 : decide (d0 < d1) = false := by simp [c]
  go_wp2_with fail
  go_ret2
  obtain ⟨r1, r2⟩ := (show _ ∧ _ ∧ _ from hres).2.2 a c
  exact ⟨by rw [r1, r2, ← E7']; rfl, pw_below_drewN hB _⟩
end Go.Proofs.YtepfodmbjojdbaaGreatDoor.Num
