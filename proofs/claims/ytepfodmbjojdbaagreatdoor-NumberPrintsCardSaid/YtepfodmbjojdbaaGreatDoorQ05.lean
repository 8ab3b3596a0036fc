/- NumberPrints: the walk of the reference's Shortest. No conditions beyond each theorem's own. -/
import Derived.Test.YtepfodmbjojdbaaGreatDoorQ04
import Derived.Deep.RegionHeld3
import Derived.Deep.RegionWith
import Derived.Lib.Hide
set_option linter.all false
namespace Go.Proofs.YtepfodmbjojdbaaGreatDoor.Num
open Go Go.RowKit YtepfodmbjojdbaaGreatDoorW.PrintWords YtepfodmbjojdbaaGreatDoorW.PrintLast YtepfodmbjojdbaaGreatDoorW.PrintMore PNumberPrints
set_option maxHeartbeats 6400000
set_option maxRecDepth 100000
attribute [local go_sem] max2_int min2_int max_two min_two
def mOf (W P1 : Nat) : Nat := if 0 < W / P1 then W % P1 + P1 else W % P1
def qOf (D : Nat) (least : Int) (W P1 : Nat) : Int := if 0 < W / P1 then least - D + 1 + ((W / P1 : Nat) : Int) - 1 else least - D + 1
def nearW (r : Option Nat) : Nat := r.getD 0
def nearB (r : Option Nat) : Bool := r.isSome
theorem nearRes_eq (r : Option Nat) : nearRes r = .tuple #[.int .u64 (nearW r : Int), .bool (nearB r)] := by cases r <;> rfl
def topN (a : Nat) (ee : Int) (n : Nat) : Nat := a * 10 ^ ((n : Int) - ee).toNat
def undN (b : Nat) (ee : Int) (n : Nat) : Nat := b * 10 ^ (-((n : Int) - ee)).toNat
def lowN (a b : Nat) (ee : Int) (n : Nat) : Nat := topN a ee n / undN b ee n
def lefN (a b : Nat) (ee : Int) (n : Nat) : Nat := topN a ee n % undN b ee n
def dnB (D : Nat) (least most : Int) (W a b : Nat) (ee : Int) (n : Nat) : Bool :=
 nearB (nearestN D least most (lowN a b ee n) (-((n : Int) - ee))) && (((nearW (nearestN D least most (lowN a b ee n) (-((n : Int) - ee))) : Nat) : Int) == (W : Int)) && decide ((0 : Int) < ((lowN a b ee n : Nat) : Int))
def upB (D : Nat) (least most : Int) (W a b : Nat) (ee : Int) (n : Nat) : Bool :=
 nearB (nearestN D least most (lowN a b ee n + 1) (-((n : Int) - ee))) && (((nearW (nearestN D least most (lowN a b ee n + 1) (-((n : Int) - ee))) : Nat) : Int) == (W : Int))
def pickN (D : Nat) (least most : Int) (W a b : Nat) (ee : Int) (n : Nat) : Nat :=
 if upB D least most W a b ee n = true ∧ (dnB D least most W a b ee n = false ∨ 0 < cmpN (lefN a b ee n * 2) (undN b ee n) ∨ (cmpN (lefN a b ee n * 2) (undN b ee n) = 0 ∧ lowN a b ee n % 2 = 1)) then lowN a b ee n + 1 else lowN a b ee n
theorem ten_step (i : Nat) (h : i ≤ 16) : IntKind.u64.wrap (((10 ^ i : Nat) : Int) * 10) = ((10 ^ (i + 1) : Nat) : Int) := by
 have h1 : 10 ^ (i + 1) ≤ 10 ^ 17 := Nat.pow_le_pow_right (by decide) (by omega)
 have e : (10 : Nat) ^ 17 = 100000000000000000 := by decide
 rw [e] at h1
 rw [show ((10 ^ i : Nat) : Int) * 10 = ((10 ^ (i + 1) : Nat) : Int) by rw [Nat.pow_succ]; simp]
 exact wu64_lt (by omega)
def T22 : Bool × List (List Nat × List Nat) := (true, [([], []), ([], []), ([1], [1]), ([], []), ([3], [3]), ([0, 2, 4, 2], [0, 2, 4]), ([5], [5]), ([6], [6]), ([6], [6]), ([7, 5, 0, 1, 2, 3, 4, 5, 6, 7], [7]), ([8, 9, 0, 1, 2, 3, 4, 5, 6, 7, 8, 9], [8])])
def B22 : List Nat := [0, 0, 2, 0, 8, 31, 63, 127, 127, 255, 1023]
theorem tab22 : rtab .any (opsOf Tryz.f65 22) = T22 := by kernel_rfl
theorem bits22 : waitsOk T22.2 B22 = true := by kernel_rfl
def T23 : Bool × List (List Nat × List Nat) := (true, [([], []), ([], []), ([1], [1]), ([2], [2]), ([], []), ([4], [4]), ([0, 3, 5, 3], [0, 3, 5]), ([6], [6]), ([7], [7]), ([7], [7]), ([8, 6, 0, 1, 2, 3, 4, 5, 6, 7, 8], [8]), ([9, 10, 0, 1, 2, 3, 4, 5, 6, 7, 8, 9, 10], [9])])
def B23 : List Nat := [0, 0, 2, 6, 0, 16, 63, 127, 255, 255, 511, 2047]
theorem tab23 : rtab .any (opsOf Tryz.f65 23) = T23 := by kernel_rfl
theorem bits23 : waitsOk T23.2 B23 = true := by kernel_rfl
theorem below_drew {B : Nat} {w w' : World} (h : Below B w w') : Below B w w'.drew := below_drew1 h
theorem BoxAt.drew {w : World} {b : Nat} {v0 v1 v2 v3 : Value} (h : BoxAt w b v0 v1 v2 v3) : BoxAt w.drew b v0 v1 v2 v3 := h.below (below_drew1 (Below.refl _ _))
theorem BN.drew {w : World} {v : Value} {x L : Nat} (h : BN w v x L) : BN w.drew v x L := h.below (below_drew1 (Below.refl _ _))
theorem Shortest_core (D Dm : Nat) (least most sg : Int) (W P1 field rem m a b na nb : Nat) (q q0 e0 : Int) (w : World) (R : ByteArray) (J : Nat) (k1 k2 k3 k4 : Nat)
  (hDm : wrap64 ((D : Int) - 1) = (Dm : Int))
  (h32 : ∀ w, Calls Tryz.prog 32 #[.int .i64 (Dm : Int)] w (Rdw w (.int .u64 (P1 : Int))))
  (hP : ((P1 : Int) == 0) = false) (hP' : (P1 : Int) ≠ 0) (hP0 : (0 : Int) < (P1 : Int))
  (hfield : wrap64 (IntKind.u64.wrap ((W : Int) / (P1 : Int))) = (field : Int)) (hrem : (W : Int) % (P1 : Int) = (rem : Int))
  (hq0 : wrap64 (wrap64 (least - (D : Int)) + 1) = q0)
  (hmq : Hid ((decide (0 < field) = true ∧ IntKind.u64.wrap ((rem : Int) + (P1 : Int)) = (m : Int) ∧ wrap64 (wrap64 (q0 + (field : Int)) - 1) = q) ∨ (decide (0 < field) = false ∧ rem = m ∧ q0 = q)))
  (hm : m < 18446744073709551616) (hk1 : k1 < 3000) (hk2 : k2 < 3000) (ht1 : (if q < 0 then 0 else q) = (k1 : Int)) (ht2 : (if wrap64 (-q) < 0 then 0 else wrap64 (-q)) = (k2 : Int))
  (ha : Hid (a = m * 2 ^ k1)) (hb : Hid (b = 2 ^ k2)) (hna : Hid (nbits a = na)) (hnb : Hid (nbits b = nb))
  (he0 : wrap64 (wrap64 (Int.tdiv (wrap64 (wrap64 ((na : Int) - nb) * 30103)) 100000) - 2) = e0) (he0b : -1200 ≤ e0 ∧ e0 ≤ 1200) (hJ : J ≤ 5) (ee : Int) (hee : Hid (ee = e0 + J))
  (hlo : ∀ z : Int, e0 ≤ z → z < ee → ¬ a * 10 ^ (-z).toNat < b * 10 ^ z.toNat) (hhi : a * 10 ^ (-ee).toNat < b * 10 ^ ee.toNat)
  (hD : 2 ≤ D ∧ D ≤ 60) (hle : -2000 ≤ least ∧ least ≤ 2000) (hmo : -2000 ≤ most ∧ most ≤ 2000) (hfit : ∀ e : Int, e ≤ most → (e - least).toNat * 2 ^ (D - 1) + 2 ^ D < 18446744073709551616)
  (heb : -1000 ≤ ee ∧ ee ≤ 1000) (N : Nat) (hN : 1 ≤ N ∧ N ≤ 17)
  (hbad : ∀ n, 1 ≤ n → n < N → dnB D least most W a b ee n = false ∧ upB D least most W a b ee n = false)
  (hgood : dnB D least most W a b ee N = true ∨ upB D least most W a b ee N = true)
  (hbp : 0 < b) (hdv : ∀ n, 1 ≤ n → n ≤ 17 → topN a ee n < undN b ee n * 2 ^ 58)
  (hR1 : pickN D least most W a b ee N = 10 ^ N → ∀ w, Calls Tryz.prog 111 #[.string ⟨#[49]⟩, .int .i64 (ee + 1)] w (Rt w (.string R)))
  (s : ByteArray) (hs : ∀ w, Calls Tryz.prog 30 #[.int .u64 ((pickN D least most W a b ee N : Nat) : Int)] w (Rt w (.string s)))
  (hR2 : pickN D least most W a b ee N ≠ 10 ^ N → ∀ w, Calls Tryz.prog 111 #[.string s, .int .i64 ee] w (Rt w (.string R))) :
  Calls Tryz.prog 65 #[.agg #[.int .i64 (D : Int), .int .i64 least, .int .i64 most, .int .i64 sg], .int .u64 (W : Int)] w (Rt w (.string R)) := by
 have Hbad := Lib.hid hbad
 have Hgood := Lib.hid hgood
 have Hdv := Lib.hid hdv
 have Hfit := Lib.hid hfit
 have HR1 := Lib.hid hR1
 have HR2 := Lib.hid hR2
 have Hs := Lib.hid hs
 have HD := Lib.hid hD
 have Hle := Lib.hid hle
 have Hmo := Lib.hid hmo
 have HN := Lib.hid hN
 have Heb := Lib.hid heb
 clear hbad hgood hdv hfit hR1 hR2 hs hD hle hmo hN heb
 have hlo' := Lib.hid hlo
 have hhi' := Lib.hid hhi
 clear hlo hhi
 go_enter Tryz.func65, Tryz.ntmps65
 have HX := BoxAt.made w (.int .i64 (D : Int)) (.int .i64 least) (.int .i64 most) (.int .i64 sg) 88
 have HB0 : Below w.heap.size w (w.alloc (.cells #[.int .i64 (D : Int), .int .i64 least, .int .i64 most, .int .i64 sg] 88)) := (Below.refl _ _).alloc (Nat.le_refl _) _
 go_wp2_with fail
 refine (h32 _).mono ?_
 rintro e w' ⟨rfl, ⟨n1, rfl⟩⟩
 go_wp2_with fail
 refine (h32 _).mono ?_
 rintro e w' ⟨rfl, ⟨n2, rfl⟩⟩
 go_upto_if 46 with (fail)
 have HX1 := HX.draw (n1 + n2)
 have HB1 := below_draws HB0 (n1 + n2)
 clear HX HB0
 generalize (w.alloc (.cells #[.int .i64 (D : Int), .int .i64 least, .int .i64 most, .int .i64 sg] 88)).drewN (n1 + n2) = w1 at *
 have ⟨x0, x1, x2, x3, x4⟩ := HX1
 go_cut [6, 7] (fun v6 v7 wc => v6 = .int .u64 (m : Int) ∧ v7 = .int .i64 q ∧ BoxAt wc w.heap.size (.int .i64 (D : Int)) (.int .i64 least) (.int .i64 most) (.int .i64 sg) ∧ Below w.heap.size w wc)
 case first =>
  rcases hmq with ⟨c1, c2, c3⟩ | ⟨c1, c2, c3⟩
  ·rw [c1]
   go_wp2_with fail
   refine (h32 _).mono ?_
   rintro e w' ⟨rfl, ⟨n3, rfl⟩⟩
   go_wp2_with fail
   go_meet
   exact ⟨by first | rfl | rw [c2], by first | rfl | rw [c3], HX1.draw _, below_draws HB1 _⟩
  ·subst c2 c3
   rw [c1]
   go_wp2_with fail
   go_meet
   exact ⟨by first | rfl | rw [hrem], by first | rfl | rw [hq0], HX1, HB1⟩
 case rest =>
  obtain ⟨rfl, rfl, HX2, HB2⟩ := hcut
  clear HX1 HB1 x0 x1 x2 x3 x4 hmq hrem hfield h32 hq0 hP hP' hP0 hDm
  have h45 := fun w => ofWord_b m w hm
  clear hm
  go_wp2_with fail
  refine (h45 _).mono ?_
  rintro e u1 ⟨v1, rfl, hv1, hb1⟩
  have HX3 := HX2.below hb1
  have HB3 := below_calls HB2 hb1
  clear h45 HX2 HB2 hb1
  go_wp2_with fail
  refine (shifted_b _ _ _ _ _ hv1 (by omega) (by omega)).mono ?_
  rintro e u2 ⟨va, rfl, hva, hb2⟩
  rw [← ha.out] at hva
  have HX4 := HX3.below hb2
  have HB4 := below_calls HB3 hb2
  clear hv1 HX3 HB3 hb2
  go_wp2_with fail
  refine (shifted_b _ _ _ _ _ (BN.lit (b := u2.heap.size) (by simp) (by simp)) (by omega) (by omega)).mono ?_
  rintro e u3 ⟨vb, rfl, hvb, hb3⟩
  rw [Nat.one_mul, ← hb.out] at hvb
  have HX5 := HX4.below (below_made0 hb3)
  have HB5 := below_made HB4 hb3
  have hva2 := hva.below (below_made0 hb3)
  clear HX4 HB4 hb3 hva
  go_wp2_with fail
  refine (bits_b _ _ _ _ hva2 (by omega)).mono ?_
  rintro e w' ⟨rfl, ⟨n4, rfl⟩⟩
  go_wp2_with fail
  refine (bits_b _ _ _ _ (hvb.draw _) (by omega)).mono ?_
  rintro e w' ⟨rfl, ⟨n5, rfl⟩⟩
  rw [hna.out, hnb.out]
  have HX6 := HX5.draw (n4 + n5)
  have HB6 := below_draws HB5 (n4 + n5)
  have hva3 := hva2.draw (n4 + n5)
  have hvb3 := hvb.draw (n4 + n5)
  clear HX5 HB5 hva2 hvb
  have hva4 := hva3.mono (L' := 200) (by omega)
  have hvb4 := hvb3.mono (L' := 200) (by omega)
  clear hva3 hvb3 ht1 ht2
  rw [show (u3.drewN n4).drewN n5 = u3.drewN (n4 + n5) from World.drewN_drewN _ _ _]
  generalize u3.drewN (n4 + n5) = u4 at *
  go_wp2_with fail
  have He0 := Lib.hid he0
  clear he0
  go_loopw [10] (fun v10 wr => ∃ z : Int, Hid (e0 ≤ z ∧ z ≤ ee) ∧ v10 = .int .i64 z ∧ BoxAt wr w.heap.size (.int .i64 (D : Int)) (.int .i64 least) (.int .i64 most) (.int .i64 sg) ∧ Below w.heap.size w wr ∧ BN wr va a 200 ∧ BN wr vb b 200) (fun v10 _ => (ee - intOf v10).toNat)
  case atStart => exact ⟨e0, ⟨by omega, by have := hee.out; omega⟩, by first | rfl | rw [He0.out], HX6, HB6, hva4, hvb4⟩
  case round =>
   obtain ⟨z, hz, rfl, HX, HB, hva, hvb⟩ := hrel
   clear HX6 HB6 hva4 hvb4
   have hzb : -1300 < z ∧ z < 1300 := by have := hz.out; have := hee.out; omega
   obtain ⟨z1, hz1⟩ : ∃ z1 : Nat, z1 = z.toNat := ⟨_, rfl⟩
   obtain ⟨z2, hz2⟩ : ∃ z2 : Nat, z2 = (-z).toNat := ⟨_, rfl⟩
   have ht1 : (if z < 0 then 0 else z) = (z1 : Int) := by rw [hz1]; exact max0 z
   have ht2 : (if wrap64 (-z) < 0 then 0 else wrap64 (-z)) = (z2 : Int) := by rw [hz2]; exact max0n z (by omega)
   have hzz : z1 < 1300 ∧ z2 < 1300 := by omega
   have Hz1 := Lib.hid hz1
   have Hz2 := Lib.hid hz2
   have Hzb := Lib.hid hzb
   clear hz1 hz2 hzb
   go_wp2_with fail
   refine (tens_b _ _ _ _ _ hva (by omega) (by omega)).mono ?_
   rintro e u5 ⟨v2, rfl, hv2, hb5⟩
   have HX7 := HX.below hb5
   have HB7 := below_calls HB hb5
   have hva5 := hva.below hb5
   have hvb5 := hvb.below hb5
   clear HX HB hva hvb hb5
   go_wp2_with fail
   refine (tens_b _ _ _ _ _ hvb5 (by omega) (by omega)).mono ?_
   rintro e u6 ⟨v3, rfl, hv3, hb6⟩
   have HX8 := HX7.below hb6
   have HB8 := below_calls HB7 hb6
   have hva6 := hva5.below hb6
   have hvb6 := hvb5.below hb6
   have hv26 := hv2.below hb6
   clear HX7 HB7 hva5 hvb5 hv2 hb6
   go_wp2_with fail
   refine (compare_b _ _ _ _ _ _ _ hv26 hv3 (by omega) (by omega)).mono ?_
   rintro e w' ⟨rfl, ⟨n6, rfl⟩⟩
   have HX9 := HX8.draw n6
   have HB9 := below_draws HB8 n6
   have hva7 := hva6.draw n6
   have hvb7 := hvb6.draw n6
   clear HX8 HB8 hva6 hvb6 hv26 hv3 hzz ht1 ht2
   generalize u6.drewN n6 = u7 at *
   by_cases hlt : z < ee
   ·have hc : cmpN (a * 10 ^ z2) (b * 10 ^ z1) = cmpN (a * 10 ^ z2) (b * 10 ^ z1) := rfl
    obtain ⟨cc, hcc, hcd⟩ : ∃ cc, cmpN (a * 10 ^ z2) (b * 10 ^ z1) = cc ∧ decide (cc < 0) = false := by
     refine ⟨_, rfl, ?_⟩
     have := hlo'.out z hz.out.1 hlt
     rw [Hz1.out, Hz2.out]
     unfold cmpN
     rw [if_neg this]
     split <;> rfl
    rw [hcc]
    clear hc hcc
    have hw : wrap64 (z + 1) = z + 1 := w64 (by have := Hzb.out; omega)
    go_wp2_with fail
    go_roundw
    case rel => exact ⟨z + 1, ⟨by have := hz.out; omega, by omega⟩, by first | rfl | rw [hw], HX9, HB9, hva7, hvb7⟩
    case measure => simp [intOf]; omega
   ·have hze : ee = z := by have := hz.out; omega
    subst hze
    obtain ⟨cc, hcc, hcd⟩ : ∃ cc, cmpN (a * 10 ^ z2) (b * 10 ^ z1) = cc ∧ decide (cc < 0) = true := by
     refine ⟨_, rfl, ?_⟩
     have := hhi'.out
     rw [Hz1.out, Hz2.out]
     unfold cmpN
     rw [if_pos this]
     rfl
    rw [hcc]
    clear hcc hlt hz hee hlo' hhi'
    go_wp2_with fail
    go_loopw [12, 13] (fun v12 v13 wr => ∃ (i : Nat) (lm : Nat) (nn : Int), Hid (i < N ∧ lm = 10 ^ i ∧ nn = (i : Int) + 1) ∧ v12 = .int .u64 (lm : Int) ∧ v13 = .int .i64 nn ∧ BoxAt wr w.heap.size (.int .i64 (D : Int)) (.int .i64 least) (.int .i64 most) (.int .i64 sg) ∧ Below w.heap.size w wr ∧ BN wr va a 200 ∧ BN wr vb b 200) (fun _ v13 _ => (20 - intOf v13).toNat)
    case atStart => exact ⟨0, 1, 1, ⟨by have := HN.out; omega, rfl, rfl⟩, rfl, rfl, HX9, HB9, hva7, hvb7⟩
    case round =>
     obtain ⟨i, lm, nn, hi, rfl, rfl, HX, HB, hva, hvb⟩ := hrel
     clear HX9 HB9 hva7 hvb7 He0
     have HE := Heb.out
     have HNN := HN.out
     have hio := hi.out
     obtain ⟨n, hn⟩ : ∃ n, n = i + 1 := ⟨_, rfl⟩
     have hnn : nn = (n : Int) := by omega
     have hnb : n ≤ 17 ∧ 1 ≤ n ∧ n ≤ N := by omega
     have c17 : decide (nn ≤ 17) = true := by simp; omega
     obtain ⟨uu, hu0⟩ : ∃ uu, uu = (n : Int) - ee := ⟨_, rfl⟩
     have huu : wrap64 (nn - ee) = uu := by rw [hnn, hu0]; exact w64 (by omega)
     obtain ⟨mu, hm0⟩ : ∃ mu, mu = -uu := ⟨_, rfl⟩
     have hmu : wrap64 (-uu) = mu := by rw [hm0]; exact w64 (by omega)
     obtain ⟨t1, ht⟩ : ∃ t1, t1 = uu.toNat := ⟨_, rfl⟩
     obtain ⟨t2, ht'⟩ : ∃ t2, t2 = mu.toNat := ⟨_, rfl⟩
     have ht1 : (if uu < 0 then 0 else uu) = (t1 : Int) := by rw [ht]; exact max0 uu
     have ht2 : (if mu < 0 then 0 else mu) = (t2 : Int) := by rw [ht']; exact max0 mu
     have htb : t1 < 2000 ∧ t2 < 2000 := by omega
     obtain ⟨lm2, hl2⟩ : ∃ lm2, lm2 = 10 ^ n := ⟨_, rfl⟩
     have hl10 : IntKind.u64.wrap ((lm : Int) * 10) = (lm2 : Int) := by
      rw [hio.2.1, hl2, hn]; exact ten_step i (by omega)
     have hmub : -1500 ≤ mu ∧ mu ≤ 1500 := by omega
     have Htop := Lib.hid (show topN a ee n = a * 10 ^ t1 by unfold topN; rw [ht, hu0])
     have Hund := Lib.hid (show undN b ee n = b * 10 ^ t2 by unfold undN; rw [ht', hm0, hu0])
     have Hmu := Lib.hid (show mu = -((n : Int) - ee) by rw [hm0, hu0])
     have Hdvn := Lib.hid (Hdv.out n hnb.2.1 hnb.1)
     have Hup := Lib.hid (show 0 < undN b ee n by unfold undN; exact Nat.mul_pos hbp (Nat.pow_pos (by decide)))
     have Hnn := Lib.hid hnn
     have Hn := Lib.hid hn
     have Hl2 := Lib.hid hl2
     have Hnb := Lib.hid hnb
     have Hmub := Lib.hid hmub
     clear HE HNN hio hn hnn hnb hu0 hm0 ht ht' hl2 hmub
     go_wp2_with fail
     refine (tens_b _ _ _ _ _ hva (by omega) (by omega)).mono ?_
     rintro e q1 ⟨vt, rfl, hvt, hb1⟩
     rw [← Htop.out] at hvt
     have HX1 := HX.below hb1
     have HB1 := below_calls HB hb1
     have hva1 := hva.below hb1
     have hvb1 := hvb.below hb1
     clear HX HB hva hvb hb1
     go_wp2_with fail
     refine (tens_b _ _ _ _ _ hvb1 (by omega) (by omega)).mono ?_
     rintro e q2 ⟨vu, rfl, hvu, hb2⟩
     rw [← Hund.out] at hvu
     have HX2 := HX1.below hb2
     have HB2 := below_calls HB1 hb2
     have hva2 := hva1.below hb2
     have hvb2 := hvb1.below hb2
     have hvt2 := (hvt.below hb2).mono (L' := 2000) (by omega)
     have hvu2 := hvu.mono (L' := 2000) (by omega)
     clear HX1 HB1 hva1 hvb1 hvt hvu hb2
     go_wp2_with fail
     refine (divided_b _ _ _ _ _ _ 58 _ hvt2 hvu2 (by omega) (by omega) (by omega) Hup.out Hdvn.out).mono ?_
     rintro e q3 ⟨vl, rfl, hvl, hb3⟩
     have HX3 := HX2.below hb3
     have HB3 := below_calls HB2 hb3
     have hva3 := hva2.below hb3
     have hvb3 := hvb2.below hb3
     have hvu3 := hvu2.below hb3
     clear HX2 HB2 hva2 hvb2 hvt2 hvu2 hb3 ht1 ht2 htb
     have Hlw : Hid (lowN a b ee n < 2 ^ 58) := Nat.div_lt_of_lt_mul Hdvn.out
     rw [show topN a ee n / undN b ee n = lowN a b ee n from rfl]
     rw [show topN a ee n % undN b ee n = lefN a b ee n from rfl] at hvl
     obtain ⟨lw, hlw⟩ : ∃ lw, lw = lowN a b ee n := ⟨_, rfl⟩
     rw [← hlw]
     have HLW := Lib.hid hlw
     clear hlw
     have ⟨x0, x1, x2, x3, x4⟩ := HX3
     go_upto_region 22 with (fail)
     obtain ⟨r1, hr1⟩ : ∃ r1, r1 = nearestN D least most lw mu := ⟨_, rfl⟩
     have HR1' := Lib.hid hr1
     clear hr1
     go_cut [19, 20] (fun v19 v20 wc => v19 = .int .u64 (nearW r1 : Int) ∧ v20 = .bool (nearB r1) ∧ BoxAt wc w.heap.size (.int .i64 (D : Int)) (.int .i64 least) (.int .i64 most) (.int .i64 sg) ∧ Below w.heap.size w wc ∧ BN wc va a 200 ∧ BN wc vb b 200 ∧ BN wc vu (undN b ee n) 2000 ∧ BN wc vl (lefN a b ee n) 2000)
     case first =>
      have hlw64 : lw < 18446744073709551616 := by rw [HLW.out]; exact Nat.lt_trans Hlw.out (by decide)
      have h45 := fun w => ofWord_b lw w hlw64
      clear hlw64
      have h110 := fun w v (hv : BN w v lw 4) => Nearest_b D least most sg v lw 4 mu w hv (by decide) Hmub.out HD.out Hle.out Hmo.out Hfit.out
      rw [← HR1'.out, nearRes_eq] at h110
      refine start_ (n := 11) (S := fun w' => w'.cell? ⟨w.heap.size, 0, none⟩ = some (.int .i64 (D : Int)) ∧ w'.cell? ⟨w.heap.size, 1, none⟩ = some (.int .i64 least) ∧ w'.cell? ⟨w.heap.size, 2, none⟩ = some (.int .i64 most) ∧ w'.cell? ⟨w.heap.size, 3, none⟩ = some (.int .i64 sg)) (ds := []) #[false, false, false, false, false, false, false, false, false, false, false] (by kernel_rfl) rfl rfl ⟨x0, x1, x2, x3⟩ (fun hHeld => ?_); refine with_tabW tab22 bits22 (fun HT_ HW_ => ?_)
      have HX3d := HX3.drew
      have HB3d := below_drew HB3
      have ga3 := hva3.drew
      have gb3 := hvb3.drew
      have gu3 := hvu3.drew
      have gl3 := hvl.drew
      clear HX3 HB3 hva3 hvb3 hvu3 hvl x0 x1 x2 x3 x4
      generalize q3.drew = q3d at *
      refine pure_ (i := 1) (N := some 115) (v := ?_) (a' := ?_) #[false, true, false, false, false, false, false, false, false, false, false] rfl rfl (any_of HT_.out (by kernel_rfl)) (fun _ _ _ h => h) (Or.inl ⟨by rfl, ?_⟩) ?_ ?_
      rotate_left
      ·intro w'
       go_simp
       with_reducible rfl
      rotate_left
      ·simp only [Act.put, List.setIfInBounds_toArray, List.set_cons_zero, List.set_cons_succ, i64_w, i32_w]
       rfl
      refine pure_ (i := 3) (N := some 117) (v := ?_) (a' := ?_) #[false, true, false, true, false, false, false, false, false, false, false] rfl rfl (any_of HT_.out (by kernel_rfl)) (fun _ _ _ h => h) (Or.inl ⟨by rfl, ?_⟩) ?_ ?_
      rotate_left
      ·intro w'
       go_simp
       with_reducible rfl
      rotate_left
      ·simp only [Act.put, List.setIfInBounds_toArray, List.set_cons_zero, List.set_cons_succ, i64_w, i32_w]
       rfl
      refine pure_ (i := 4) (N := some 118) (v := ?_) (a' := ?_) #[false, true, false, true, true, false, false, false, false, false, false] rfl rfl (any_of HT_.out (by kernel_rfl)) (fun _ _ _ h => h) (Or.inl ⟨by rfl, ?_⟩) ?_ ?_
      rotate_left
      ·intro w'
       go_simp
       with_reducible rfl
      rotate_left
      ·simp only [Act.put, List.setIfInBounds_toArray, List.set_cons_zero, List.set_cons_succ, i64_w, i32_w]
       rfl
      refine take_ (i := 0) (N := some 114) (v := ?_) (a' := ?_) #[true, true, false, true, true, false, false, false, false, false, false] rfl rfl (take_ofW HT_.out HW_.out (by kernel_rfl)) (fun _ _ _ h => h) (Or.inl ⟨by rfl, ?_⟩) hHeld ?_ ?_
      rotate_left
      ·rintro w' ⟨s0, s1, s2, s3⟩
       go_simp
       with_reducible rfl
      rotate_left
      ·simp only [Act.put, List.setIfInBounds_toArray, List.set_cons_zero, List.set_cons_succ, i64_w, i32_w]
       rfl
      refine one_ (i := 2) (N := some 116) #[true, true, true, true, true, false, false, false, false, false, false] rfl rfl (one_of HT_.out (by kernel_rfl)) (by decide) (fun K hK => ?_)
      refine goes_ Tryz.func45 (by kernel_rfl) rfl #[.int .u64 (lw : Int)] (by rfl) rfl rfl (by (try simp only [List.map_toArray, List.map_cons, List.map_nil]); first | done | rfl) ?_
      refine (h45 _).mono ?_
      rintro e q4 ⟨v4, rfl, hv4, hb4⟩
      refine ⟨_, rfl, ?_⟩
      have HX4 := HX3d.below hb4
      have HB4 := below_calls HB3d hb4
      have ga4 := ga3.below hb4
      have gb4 := gb3.below hb4
      have gu4 := gu3.below hb4
      have gl4 := gl3.below hb4
      clear HX3d HB3d ga3 gb3 gu3 gl3 hb4 hHeld
      refine hK.out _ _ ⟨HX4.1, HX4.2.1, HX4.2.2.1, HX4.2.2.2.1⟩ (fun hHeld => ?_)
      clear hK K
      refine norm_ (a' := ?_) ?_ ?_
      rotate_left
      ·show Act.put _ (some 116) _ = _
       simp only [Act.put, List.setIfInBounds_toArray, List.set_cons_zero, List.set_cons_succ, i64_w, i32_w]
       rfl
      refine one_ (i := 5) (N := some 119) #[true, true, true, true, true, true, false, false, false, false, false] rfl rfl (one_of HT_.out (by kernel_rfl)) (by decide) (fun K hK => ?_)
      refine goes_ Tryz.func110 (by kernel_rfl) rfl #[.agg #[.int .i64 (D : Int), .int .i64 least, .int .i64 most, .int .i64 sg], v4, .int .i64 (wrap64 (-uu))] (by rfl) rfl rfl (by (try simp only [List.map_toArray, List.map_cons, List.map_nil]); first | done | rfl) ?_
      rw [hmu]
      refine (h110 _ _ hv4).mono ?_
      rintro e q5 ⟨rfl, hb5⟩
      refine ⟨_, rfl, ?_⟩
      have HX5 := HX4.below hb5
      have HB5 := below_calls HB4 hb5
      have ga5 := ga4.below hb5
      have gb5 := gb4.below hb5
      have gu5 := gu4.below hb5
      have gl5 := gl4.below hb5
      clear HX4 HB4 ga4 gb4 gu4 gl4 hb5 hHeld
      refine hK.out _ _ ⟨HX5.1, HX5.2.1, HX5.2.2.1, HX5.2.2.2.1⟩ (fun hHeld => ?_)
      clear hK K
      refine norm_ (a' := ?_) ?_ ?_
      rotate_left
      ·show Act.put _ (some 119) _ = _
       simp only [Act.put, List.setIfInBounds_toArray, List.set_cons_zero, List.set_cons_succ, i64_w, i32_w]
       rfl
      refine pure_ (i := 6) (N := some 113) (v := ?_) (a' := ?_) #[true, true, true, true, true, true, true, false, false, false, false] rfl rfl (any_of HT_.out (by kernel_rfl)) (fun _ _ _ h => h) (Or.inl ⟨by rfl, ?_⟩) ?_ ?_
      rotate_left
      ·intro w'
       go_simp
       with_reducible rfl
      rotate_left
      ·simp only [Act.put, List.setIfInBounds_toArray, List.set_cons_zero, List.set_cons_succ, i64_w, i32_w]
       rfl
      refine pure_ (i := 7) (N := some 120) (v := ?_) (a' := ?_) #[true, true, true, true, true, true, true, true, false, false, false] rfl rfl (any_of HT_.out (by kernel_rfl)) (fun _ _ _ h => h) (Or.inl ⟨by rfl, ?_⟩) ?_ ?_
      rotate_left
      ·intro w'
       go_simp
       with_reducible rfl
      rotate_left
      ·simp only [Act.put, List.setIfInBounds_toArray, List.set_cons_zero, List.set_cons_succ, i64_w, i32_w]
       rfl
      refine pure_ (i := 8) (N := some 121) (v := ?_) (a' := ?_) #[true, true, true, true, true, true, true, true, true, false, false] rfl rfl (any_of HT_.out (by kernel_rfl)) (fun _ _ _ h => h) (Or.inl ⟨by rfl, ?_⟩) ?_ ?_
      rotate_left
      ·intro w'
       go_simp
       with_reducible rfl
      rotate_left
      ·simp only [Act.put, List.setIfInBounds_toArray, List.set_cons_zero, List.set_cons_succ, i64_w, i32_w]
       rfl
      refine pure_ (i := 9) (N := some 19) (v := ?_) (a' := ?_) #[true, true, true, true, true, true, true, true, true, true, false] rfl rfl (any_of HT_.out (by kernel_rfl)) (fun _ _ _ h => h) (Or.inl ⟨by rfl, ?_⟩) ?_ ?_
      rotate_left
      ·intro w'
       go_simp
       with_reducible rfl
      rotate_left
      ·simp only [Act.put, List.setIfInBounds_toArray, List.set_cons_zero, List.set_cons_succ, i64_w, i32_w]
       rfl
      refine pure_ (i := 10) (N := some 20) (v := ?_) (a' := ?_) #[true, true, true, true, true, true, true, true, true, true, true] rfl rfl (any_of HT_.out (by kernel_rfl)) (fun _ _ _ h => h) (Or.inl ⟨by rfl, ?_⟩) ?_ ?_
      rotate_left
      ·intro w'
       go_simp
       with_reducible rfl
      rotate_left
      ·simp only [Act.put, List.setIfInBounds_toArray, List.set_cons_zero, List.set_cons_succ, i64_w, i32_w]
       rfl
      refine done_ (done_of HT_.out (by kernel_rfl)) ?_
      go_wp2
      go_meet
      exact ⟨rfl, rfl, HX5, HB5, ga5, gb5, gu5, gl5⟩
     case rest =>
      clear HX3 HB3 hva3 hvb3 hvu3 hvl x0 x1 x2 x3 x4
      obtain ⟨rfl, rfl, HX3, HB3, hva3, hvb3, hvu3, hvl⟩ := hcut
      have ⟨x0, x1, x2, x3, x4⟩ := HX3
      obtain ⟨r2, hr2⟩ : ∃ r2, r2 = nearestN D least most (lw + 1) mu := ⟨_, rfl⟩
      have HR2' := Lib.hid hr2
      clear hr2
      have hl1 : IntKind.u64.wrap ((lw : Int) + 1) = ((lw + 1 : Nat) : Int) := wu64_lt (n := lw + 1) (by rw [HLW.out]; have := Hlw.out; have e : (2 : Nat) ^ 58 = 288230376151711744 := (by decide); rw [e] at this; omega)
      have Hl1 := Lib.hid hl1
      clear hl1
      obtain ⟨b1, hb1⟩ : ∃ b1, b1 = nearB r1 := ⟨_, rfl⟩
      rw [← hb1]
      have HBB1 := Lib.hid hb1
      clear hb1
      go_upto_region 23 with (fail)
      go_cut [21, 22] (fun v21 v22 wc => v21 = .int .u64 (nearW r2 : Int) ∧ v22 = .bool (nearB r2) ∧ BoxAt wc w.heap.size (.int .i64 (D : Int)) (.int .i64 least) (.int .i64 most) (.int .i64 sg) ∧ Below w.heap.size w wc ∧ BN wc va a 200 ∧ BN wc vb b 200 ∧ BN wc vu (undN b ee n) 2000 ∧ BN wc vl (lefN a b ee n) 2000)
      case first =>
       have hlw64 : lw + 1 < 18446744073709551616 := by rw [HLW.out]; have := Hlw.out; have e : (2 : Nat) ^ 58 = 288230376151711744 := (by decide); rw [e] at this; omega
       have h45 := fun w => ofWord_b (lw + 1) w hlw64
       clear hlw64
       have h110 := fun w v (hv : BN w v (lw + 1) 4) => Nearest_b D least most sg v (lw + 1) 4 mu w hv (by decide) Hmub.out HD.out Hle.out Hmo.out Hfit.out
       rw [← HR2'.out, nearRes_eq] at h110
       refine start_ (n := 12) (S := fun w' => w'.cell? ⟨w.heap.size, 0, none⟩ = some (.int .i64 (D : Int)) ∧ w'.cell? ⟨w.heap.size, 1, none⟩ = some (.int .i64 least) ∧ w'.cell? ⟨w.heap.size, 2, none⟩ = some (.int .i64 most) ∧ w'.cell? ⟨w.heap.size, 3, none⟩ = some (.int .i64 sg)) (ds := []) #[false, false, false, false, false, false, false, false, false, false, false, false] (by kernel_rfl) rfl rfl ⟨x0, x1, x2, x3⟩ (fun hHeld => ?_); refine with_tabW tab23 bits23 (fun HT_ HW_ => ?_)
       have HX3d := HX3.drew
       have HB3d := below_drew HB3
       have ga3 := hva3.drew
       have gb3 := hvb3.drew
       have gu3 := hvu3.drew
       have gl3 := hvl.drew
       clear HX3 HB3 hva3 hvb3 hvu3 hvl x0 x1 x2 x3 x4
       generalize wc.drew = q3d at *
       refine pure_ (i := 1) (N := some 124) (v := ?_) (a' := ?_) #[false, true, false, false, false, false, false, false, false, false, false, false] rfl rfl (any_of HT_.out (by kernel_rfl)) (fun _ _ _ h => h) (Or.inl ⟨by rfl, ?_⟩) ?_ ?_
       rotate_left
       ·intro w'
        go_simp
        with_reducible rfl
       rotate_left
       ·simp only [Act.put, List.setIfInBounds_toArray, List.set_cons_zero, List.set_cons_succ, i64_w, i32_w]
        rfl
       refine pure_ (i := 2) (N := some 125) (v := ?_) (a' := ?_) #[false, true, true, false, false, false, false, false, false, false, false, false] rfl rfl (any_of HT_.out (by kernel_rfl)) (fun _ _ _ h => h) (Or.inl ⟨by rfl, ?_⟩) ?_ ?_
       rotate_left
       ·intro w'
        go_simp
        with_reducible rfl
       rotate_left
       ·simp only [Act.put, List.setIfInBounds_toArray, List.set_cons_zero, List.set_cons_succ, i64_w, i32_w]
        rfl
       refine pure_ (i := 4) (N := some 127) (v := ?_) (a' := ?_) #[false, true, true, false, true, false, false, false, false, false, false, false] rfl rfl (any_of HT_.out (by kernel_rfl)) (fun _ _ _ h => h) (Or.inl ⟨by rfl, ?_⟩) ?_ ?_
       rotate_left
       ·intro w'
        go_simp
        with_reducible rfl
       rotate_left
       ·simp only [Act.put, List.setIfInBounds_toArray, List.set_cons_zero, List.set_cons_succ, i64_w, i32_w]
        rfl
       refine pure_ (i := 5) (N := some 128) (v := ?_) (a' := ?_) #[false, true, true, false, true, true, false, false, false, false, false, false] rfl rfl (any_of HT_.out (by kernel_rfl)) (fun _ _ _ h => h) (Or.inl ⟨by rfl, ?_⟩) ?_ ?_
       rotate_left
       ·intro w'
        go_simp
        with_reducible rfl
       rotate_left
       ·simp only [Act.put, List.setIfInBounds_toArray, List.set_cons_zero, List.set_cons_succ, i64_w, i32_w]
        rfl
       refine take_ (i := 0) (N := some 123) (v := ?_) (a' := ?_) #[true, true, true, false, true, true, false, false, false, false, false, false] rfl rfl (take_ofW HT_.out HW_.out (by kernel_rfl)) (fun _ _ _ h => h) (Or.inl ⟨by rfl, ?_⟩) hHeld ?_ ?_
       rotate_left
       ·rintro w' ⟨s0, s1, s2, s3⟩
        go_simp
        with_reducible rfl
       rotate_left
       ·simp only [Act.put, List.setIfInBounds_toArray, List.set_cons_zero, List.set_cons_succ, i64_w, i32_w]
        rfl
       refine one_ (i := 3) (N := some 126) #[true, true, true, true, true, true, false, false, false, false, false, false] rfl rfl (one_of HT_.out (by kernel_rfl)) (by decide) (fun K hK => ?_)
       refine goes_ Tryz.func45 (by kernel_rfl) rfl #[.int .u64 (IntKind.u64.wrap ((lw : Int) + 1))] (by rfl) rfl rfl (by (try simp only [List.map_toArray, List.map_cons, List.map_nil]); first | done | rfl) ?_
       rw [Hl1.out]
       refine (h45 _).mono ?_
       rintro e q4 ⟨v4, rfl, hv4, hb4⟩
       refine ⟨_, rfl, ?_⟩
       have HX4 := HX3d.below hb4
       have HB4 := below_calls HB3d hb4
       have ga4 := ga3.below hb4
       have gb4 := gb3.below hb4
       have gu4 := gu3.below hb4
       have gl4 := gl3.below hb4
       clear HX3d HB3d ga3 gb3 gu3 gl3 hb4 hHeld
       refine hK.out _ _ ⟨HX4.1, HX4.2.1, HX4.2.2.1, HX4.2.2.2.1⟩ (fun hHeld => ?_)
       clear hK K
       refine norm_ (a' := ?_) ?_ ?_
       rotate_left
       ·show Act.put _ (some 126) _ = _
        simp only [Act.put, List.setIfInBounds_toArray, List.set_cons_zero, List.set_cons_succ, i64_w, i32_w]
        rfl
       refine one_ (i := 6) (N := some 129) #[true, true, true, true, true, true, true, false, false, false, false, false] rfl rfl (one_of HT_.out (by kernel_rfl)) (by decide) (fun K hK => ?_)
       refine goes_ Tryz.func110 (by kernel_rfl) rfl #[.agg #[.int .i64 (D : Int), .int .i64 least, .int .i64 most, .int .i64 sg], v4, .int .i64 (wrap64 (-uu))] (by rfl) rfl rfl (by (try simp only [List.map_toArray, List.map_cons, List.map_nil]); first | done | rfl) ?_
       rw [hmu]
       refine (h110 _ _ hv4).mono ?_
       rintro e q5 ⟨rfl, hb5⟩
       refine ⟨_, rfl, ?_⟩
       have HX5 := HX4.below hb5
       have HB5 := below_calls HB4 hb5
       have ga5 := ga4.below hb5
       have gb5 := gb4.below hb5
       have gu5 := gu4.below hb5
       have gl5 := gl4.below hb5
       clear HX4 HB4 ga4 gb4 gu4 gl4 hb5 hHeld
       refine hK.out _ _ ⟨HX5.1, HX5.2.1, HX5.2.2.1, HX5.2.2.2.1⟩ (fun hHeld => ?_)
       clear hK K
       refine norm_ (a' := ?_) ?_ ?_
       rotate_left
       ·show Act.put _ (some 129) _ = _
        simp only [Act.put, List.setIfInBounds_toArray, List.set_cons_zero, List.set_cons_succ, i64_w, i32_w]
        rfl
       refine pure_ (i := 7) (N := some 122) (v := ?_) (a' := ?_) #[true, true, true, true, true, true, true, true, false, false, false, false] rfl rfl (any_of HT_.out (by kernel_rfl)) (fun _ _ _ h => h) (Or.inl ⟨by rfl, ?_⟩) ?_ ?_
       rotate_left
       ·intro w'
        go_simp
        with_reducible rfl
       rotate_left
       ·simp only [Act.put, List.setIfInBounds_toArray, List.set_cons_zero, List.set_cons_succ, i64_w, i32_w]
        rfl
       refine pure_ (i := 8) (N := some 130) (v := ?_) (a' := ?_) #[true, true, true, true, true, true, true, true, true, false, false, false] rfl rfl (any_of HT_.out (by kernel_rfl)) (fun _ _ _ h => h) (Or.inl ⟨by rfl, ?_⟩) ?_ ?_
       rotate_left
       ·intro w'
        go_simp
        with_reducible rfl
       rotate_left
       ·simp only [Act.put, List.setIfInBounds_toArray, List.set_cons_zero, List.set_cons_succ, i64_w, i32_w]
        rfl
       refine pure_ (i := 9) (N := some 131) (v := ?_) (a' := ?_) #[true, true, true, true, true, true, true, true, true, true, false, false] rfl rfl (any_of HT_.out (by kernel_rfl)) (fun _ _ _ h => h) (Or.inl ⟨by rfl, ?_⟩) ?_ ?_
       rotate_left
       ·intro w'
        go_simp
        with_reducible rfl
       rotate_left
       ·simp only [Act.put, List.setIfInBounds_toArray, List.set_cons_zero, List.set_cons_succ, i64_w, i32_w]
        rfl
       refine pure_ (i := 10) (N := some 21) (v := ?_) (a' := ?_) #[true, true, true, true, true, true, true, true, true, true, true, false] rfl rfl (any_of HT_.out (by kernel_rfl)) (fun _ _ _ h => h) (Or.inl ⟨by rfl, ?_⟩) ?_ ?_
       rotate_left
       ·intro w'
        go_simp
        with_reducible rfl
       rotate_left
       ·simp only [Act.put, List.setIfInBounds_toArray, List.set_cons_zero, List.set_cons_succ, i64_w, i32_w]
        rfl
       refine pure_ (i := 11) (N := some 22) (v := ?_) (a' := ?_) #[true, true, true, true, true, true, true, true, true, true, true, true] rfl rfl (any_of HT_.out (by kernel_rfl)) (fun _ _ _ h => h) (Or.inl ⟨by rfl, ?_⟩) ?_ ?_
       rotate_left
       ·intro w'
        go_simp
        with_reducible rfl
       rotate_left
       ·simp only [Act.put, List.setIfInBounds_toArray, List.set_cons_zero, List.set_cons_succ, i64_w, i32_w]
        rfl
       refine done_ (done_of HT_.out (by kernel_rfl)) ?_
       go_wp2
       go_meet
       exact ⟨rfl, rfl, HX5, HB5, ga5, gb5, gu5, gl5⟩
      case rest =>
       obtain ⟨rfl, rfl, HX6, HB6, ga6, gb6, gu6, gl6⟩ := hcut
       obtain ⟨b2, hb2⟩ : ∃ b2, b2 = nearB r2 := ⟨_, rfl⟩
       rw [← hb2]
       have HBB2 := Lib.hid hb2
       clear hb2
       obtain ⟨dn, hdn⟩ : ∃ dn, dn = (b1 && ((nearW r1 : Int) == (W : Int)) && decide ((0 : Int) < (lw : Int))) := ⟨_, rfl⟩
       obtain ⟨up, hup⟩ : ∃ up, up = (b2 && ((nearW r2 : Int) == (W : Int))) := ⟨_, rfl⟩
       have Hdn := Lib.hid hdn
       have Hupb := Lib.hid hup
       clear hdn hup
       go_upto_region 24 with (fail)
       go_cut [23] (fun v23 wc => v23 = .bool dn ∧ BoxAt wc w.heap.size (.int .i64 (D : Int)) (.int .i64 least) (.int .i64 most) (.int .i64 sg) ∧ Below w.heap.size w wc ∧ BN wc va a 200 ∧ BN wc vb b 200 ∧ BN wc vu (undN b ee n) 2000 ∧ BN wc vl (lefN a b ee n) 2000)
       case first =>
        cases b1 with
        | false =>
         go_wp2_with fail
         go_meet
         exact ⟨by rw [Hdn.out]; rfl, HX6, HB6, ga6, gb6, gu6, gl6⟩
        | true =>
         cases h2 : ((nearW r1 : Int) == (W : Int)) with
         | false =>
          go_wp2_with fail
          go_meet
          exact ⟨by rw [Hdn.out, h2]; rfl, HX6, HB6, ga6, gb6, gu6, gl6⟩
         | true =>
          go_wp2_with fail
          go_meet
          exact ⟨by rw [Hdn.out, h2]; simp, HX6, HB6, ga6, gb6, gu6, gl6⟩
       case rest =>
        clear HX6 HB6 ga6 gb6 gu6 gl6
        obtain ⟨rfl, HX6, HB6, ga6, gb6, gu6, gl6⟩ := hcut
        go_upto_region 25 with (fail)
        go_cut [24] (fun v24 wc => v24 = .bool up ∧ BoxAt wc w.heap.size (.int .i64 (D : Int)) (.int .i64 least) (.int .i64 most) (.int .i64 sg) ∧ Below w.heap.size w wc ∧ BN wc va a 200 ∧ BN wc vb b 200 ∧ BN wc vu (undN b ee n) 2000 ∧ BN wc vl (lefN a b ee n) 2000)
        case first =>
         cases b2 with
         | false =>
          go_wp2_with fail
          go_meet
          exact ⟨by rw [Hupb.out]; rfl, HX6, HB6, ga6, gb6, gu6, gl6⟩
         | true =>
          go_wp2_with fail
          go_meet
          exact ⟨by rw [Hupb.out]; rfl, HX6, HB6, ga6, gb6, gu6, gl6⟩
        case rest =>
         clear HX6 HB6 ga6 gb6 gu6 gl6
         obtain ⟨rfl, HX6, HB6, ga6, gb6, gu6, gl6⟩ := hcut
         have Hdn2 : Hid (dn = dnB D least most W a b ee n) := by
          have h := Hdn.out
          rw [HBB1.out, HR1'.out, HLW.out, Hmu.out] at h
          exact h
         have Hup2 : Hid (up = upB D least most W a b ee n) := by
          have h := Hupb.out
          rw [HBB2.out, HR2'.out, HLW.out, Hmu.out] at h
          exact h
         clear Hdn Hupb HR1' HR2' HBB1 HBB2
         by_cases hlast : n < N
         ·have hdn0 : dn = false := by rw [Hdn2.out]; exact (Hbad.out n Hnb.out.2.1 hlast).1
          have hup0 : up = false := by rw [Hup2.out]; exact (Hbad.out n Hnb.out.2.1 hlast).2
          subst hdn0 hup0
          have hw : wrap64 (nn + 1) = nn + 1 := w64 (by rw [Hnn.out]; have := Hnb.out; omega)
          go_wp2_with fail
          go_roundw
          case rel => exact ⟨n, lm2, nn + 1, ⟨hlast, Hl2.out, by rw [Hnn.out]⟩, rfl, by first | rfl | rw [hw], HX6, HB6, ga6, gb6⟩
          case measure => have := Hnb.out; have := Hnn.out; simp [intOf]; omega
         ·have hnN : n = N := by have := Hnb.out; omega
          subst hnN
          clear Hbad hlast hi Hup Hdvn Htop Hund
          have hg : dn = true ∨ up = true := by rw [Hdn2.out, Hup2.out]; exact Hgood.out
          obtain ⟨pk, hpk⟩ : ∃ pk, pk = (up && (!dn || decide (0 < cmpN (lefN a b ee n * 2 ^ 1) (undN b ee n)) || (cmpN (lefN a b ee n * 2 ^ 1) (undN b ee n) == 0 && ((lw : Int) % 2 == 1)))) := ⟨_, rfl⟩
          have Hpk := Lib.hid hpk
          clear hpk
          have hor : (dn = true ∧ up = false) ∨ (dn = false ∧ up = true) ∨ (dn = true ∧ up = true) := by
           rcases hg with h | h <;> (cases dn <;> cases up <;> simp_all)
          have Hor := Lib.hid hor
          clear hg hor
          have hnot : (!dn && !up) = false := by
           rcases Hor.out with ⟨h1, h2⟩ | ⟨h1, h2⟩ | ⟨h1, h2⟩ <;> rw [h1, h2] <;> rfl
          go_upto_region 26 with (fail)
          go_cut [153] (fun v153 wc => v153 = .bool false ∧ BoxAt wc w.heap.size (.int .i64 (D : Int)) (.int .i64 least) (.int .i64 most) (.int .i64 sg) ∧ Below w.heap.size w wc ∧ BN wc vu (undN b ee n) 2000 ∧ BN wc vl (lefN a b ee n) 2000)
          case first =>
           clear hnot
           rcases Hor.out with ⟨rfl, rfl⟩ | ⟨rfl, rfl⟩ | ⟨rfl, rfl⟩
           all_goals
            go_wp2_with fail
            go_meet
            exact ⟨rfl, HX6, HB6, gu6, gl6⟩
          case rest =>
           clear HX6 HB6 ga6 gb6 gu6 gl6 hnot
           obtain ⟨rfl, HX6, HB6, gu6, gl6⟩ := hcut
           go_wp2_with fail
           refine (shifted_b _ _ _ 1 _ gl6 (by decide) (by decide)).mono ?_
           rintro e q6 ⟨v6, rfl, hv6, hb6⟩
           have HB7 := below_calls HB6 hb6
           have gu7 := gu6.below hb6
           clear HX6 HB6 gu6 gl6 hb6
           go_wp2_with fail
           refine (compare_b _ _ _ _ _ _ _ hv6 gu7 (by decide) (by decide)).mono ?_
           rintro e w' ⟨rfl, ⟨n7, rfl⟩⟩
           have HB8 := below_draws HB7 n7
           clear HB7 gu7 hv6
           generalize q6.drewN n7 = q7 at *
           obtain ⟨hf, hhf⟩ : ∃ hf, hf = cmpN (lefN a b ee n * 2 ^ 1) (undN b ee n) := ⟨_, rfl⟩
           rw [← hhf]
           have Hhf := Lib.hid hhf
           clear hhf
           obtain ⟨lw2, hlw2⟩ : ∃ lw2, lw2 = pickN D least most W a b ee n := ⟨_, rfl⟩
           have HLW2 := Lib.hid hlw2
           clear hlw2
           have hpk2 : Hid ((pk = true ∧ IntKind.u64.wrap ((lw : Int) + 1) = (lw2 : Int)) ∨ (pk = false ∧ lw = lw2)) := by
            have e1 := Hpk.out
            have e2 := HLW2.out
            unfold pickN at e2
            rw [← Hup2.out, ← Hdn2.out, ← HLW.out] at e2
            rw [Nat.pow_one] at e1
            generalize cmpN (lefN a b ee n * 2) (undN b ee n) = hc at *
            by_cases hcd : up = true ∧ (dn = false ∨ 0 < hc ∨ (hc = 0 ∧ lw % 2 = 1))
            ·rw [if_pos hcd] at e2
             refine .inl ⟨?_, by rw [e2]; exact Hl1.out⟩
             rw [e1, hcd.1]
             rcases hcd.2 with h | h | ⟨h, h'⟩
             ·rw [h]; rfl
             ·rw [decide_eq_true h]; simp
             ·have h2 : ((lw : Int) % 2 == 1) = true := by rw [beq_iff_eq]; omega
              rw [h, h2]; simp
            ·rw [if_neg hcd] at e2
             refine .inr ⟨?_, e2.symm⟩
             rw [e1]
             cases hup : up with
             | false => rfl
             | true =>
              have hn : ¬ (dn = false ∨ 0 < hc ∨ (hc = 0 ∧ lw % 2 = 1)) := fun h => hcd ⟨hup, h⟩
              have n1 : dn = true := by cases hdn : dn with
               | true => rfl
               | false => exact absurd (.inl hdn) hn
              have n2 : ¬ 0 < hc := fun h => hn (.inr (.inl h))
              have n3 : ¬ (hc = 0 ∧ lw % 2 = 1) := fun h => hn (.inr (.inr h))
              rw [n1, decide_eq_false n2]
              by_cases h0 : hc = 0
              ·have h2 : ((lw : Int) % 2 == 1) = false := beq_eq_false_iff_ne.2 (by omega)
               rw [h0, h2]; rfl
              ·rw [beq_eq_false_iff_ne.2 h0]; rfl
           rw [← Hhf.out] at Hpk
           go_upto_region 28 with (fail)
           go_cut [175] (fun v175 wc => v175 = .bool pk ∧ Below w.heap.size w wc)
           case first =>
            rcases Hor.out with ⟨rfl, rfl⟩ | ⟨rfl, rfl⟩ | ⟨rfl, rfl⟩
            ·go_wp2_with fail
             go_meet
             exact ⟨by rw [Hpk.out]; rfl, HB8⟩
            ·go_wp2_with fail
             go_meet
             exact ⟨by rw [Hpk.out]; rfl, HB8⟩
            ·by_cases h1 : 0 < hf
             ·have d1 : decide (0 < hf) = true := decide_eq_true h1
              clear h1
              go_wp2_with fail
              go_meet
              exact ⟨by rw [Hpk.out, d1]; rfl, HB8⟩
             ·have d1 : decide (0 < hf) = false := decide_eq_false h1
              clear h1
              cases h2 : (hf == 0) with
              | false =>
               go_wp2_with fail
               go_meet
               exact ⟨by rw [Hpk.out, d1, h2]; rfl, HB8⟩
              | true =>
               go_wp2_with fail
               go_meet
               exact ⟨by rw [Hpk.out, d1, h2]; rfl, HB8⟩
           case rest =>
            clear HB8
            obtain ⟨rfl, HB8⟩ := hcut
            clear Hpk Hor
            go_upto_if 175 with (fail)
            go_cut [17] (fun v17 wc => v17 = .int .u64 (lw2 : Int) ∧ Below w.heap.size w wc)
            case first =>
             rcases hpk2 with ⟨rfl, c2⟩ | ⟨rfl, c2⟩
             ·go_wp2_with fail
              go_meet
              exact ⟨by first | rfl | rw [c2], HB8⟩
             ·subst c2
              go_wp2_with fail
              go_meet
              exact ⟨rfl, HB8⟩
            case rest =>
             clear HB8 hpk2
             obtain ⟨rfl, HB8⟩ := hcut
             have hpn := HLW2.out
             by_cases hlim : lw2 = lm2
             ·have c1 : ((lw2 : Int) == (lm2 : Int)) = true := by rw [hlim]; simp
              have hw1 : wrap64 (ee + 1) = ee + 1 := w64 (by have := Heb.out; omega)
              have h111 := HR1.out (by rw [← hpn, hlim]; exact Hl2.out)
              clear hpn hlim
              go_wp2_with fail
              refine (h111 _).mono ?_
              rintro e q8 ⟨rfl, hb8⟩
              clear h111
              go_wp2_with fail
              go_ret
              exact ⟨rfl, below_calls HB8 hb8⟩
             ·have c1 : ((lw2 : Int) == (lm2 : Int)) = false := beq_eq_false_iff_ne.2 (by omega)
              have h111 := HR2.out (by rw [← hpn, ← Hl2.out]; exact hlim)
              have h30 := Hs.out
              rw [← hpn] at h30
              clear hpn hlim
              go_wp2_with fail
              refine (h30 _).mono ?_
              rintro e q8 ⟨rfl, hb8⟩
              clear h30
              go_wp2_with fail
              refine (h111 _).mono ?_
              rintro e q9 ⟨rfl, hb9⟩
              clear h111
              go_wp2_with fail
              go_ret
              exact ⟨rfl, below_calls (below_calls HB8 hb8) hb9⟩
end Go.Proofs.YtepfodmbjojdbaaGreatDoor.Num
