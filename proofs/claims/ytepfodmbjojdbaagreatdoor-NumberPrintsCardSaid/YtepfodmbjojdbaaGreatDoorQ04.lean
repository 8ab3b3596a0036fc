/- NumberPrints: the reference's Nearest. No conditions beyond each theorem's own. -/
import Derived.Test.YtepfodmbjojdbaaGreatDoorQ02
import Derived.Test.YtepfodmbjojdbaaGreatDoorQ03
import Derived.Deep.DeepMust
import Derived.Lib.Hide
set_option linter.all false
namespace Go.Proofs.YtepfodmbjojdbaaGreatDoor.Num
open Go Go.RowKit YtepfodmbjojdbaaGreatDoorW.PrintWords YtepfodmbjojdbaaGreatDoorW.PrintMore PNumberPrints
def flog (a b : Nat) : Int := if a * 2 ^ (-((nbits a : Int) - nbits b)).toNat < b * 2 ^ ((nbits a : Int) - nbits b).toNat then (nbits a : Int) - nbits b - 1 else (nbits a : Int) - nbits b
def le2 (e : Int) (a b : Nat) : Prop := b * 2 ^ e.toNat ≤ a * 2 ^ (-e).toNat
theorem le2_iff (e : Int) (a b K : Nat) (h : 0 ≤ K + e) : le2 e a b ↔ b * 2 ^ (K + e).toNat ≤ a * 2 ^ K := by
 unfold le2
 rcases Int.le_total 0 e with he | he
 ·rw [show (-e).toNat = 0 by omega, show ((K : Int) + e).toNat = e.toNat + K by omega, Nat.pow_add, ← Nat.mul_assoc]
  simp only [Nat.pow_zero, Nat.mul_one]
  exact (Nat.mul_le_mul_right_iff (Nat.two_pow_pos K)).symm
 ·rw [show e.toNat = 0 by omega]
  have : K = (-e).toNat + ((K : Int) + e).toNat := by omega
  conv => rhs; rhs; rw [this]
  rw [Nat.pow_add, ← Nat.mul_assoc]
  simp only [Nat.pow_zero, Nat.mul_one]
  exact (Nat.mul_le_mul_right_iff (Nat.two_pow_pos _)).symm
theorem nbits_bounds (a : Nat) (h : 0 < a) : 1 ≤ nbits a ∧ 2 ^ (nbits a - 1) ≤ a ∧ a < 2 ^ nbits a := by
 unfold nbits
 rw [if_neg (by omega)]
 exact ⟨by omega, Nat.log2_self_le (by omega), Nat.lt_log2_self⟩
theorem flog_spec (a b : Nat) (ha : 0 < a) (hb : 0 < b) : le2 (flog a b) a b ∧ ¬ le2 (flog a b + 1) a b := by
 obtain ⟨a0, a1, a2⟩ := nbits_bounds a ha
 obtain ⟨b0, b1, b2⟩ := nbits_bounds b hb
 have h1 : le2 ((nbits a : Int) - nbits b - 1) a b := by
  rw [le2_iff _ a b (nbits b) (by omega), show ((nbits b : Int) + ((nbits a : Int) - nbits b - 1)).toNat = nbits a - 1 by omega]
  calc b * 2 ^ (nbits a - 1) ≤ b * a := Nat.mul_le_mul_left _ a1
   _ = a * b := Nat.mul_comm _ _
   _ ≤ a * 2 ^ nbits b := Nat.mul_le_mul_left _ (by omega)
 have h2 : ¬ le2 ((nbits a : Int) - nbits b + 1) a b := by
  rw [le2_iff _ a b (nbits b - 1) (by omega), show (((nbits b - 1 : Nat) : Int) + ((nbits a : Int) - nbits b + 1)).toNat = nbits a by omega]
  have c1 : a * 2 ^ (nbits b - 1) ≤ a * b := Nat.mul_le_mul_left _ b1
  have c2 : a * b < 2 ^ nbits a * b := Nat.mul_lt_mul_of_pos_right a2 hb
  rw [Nat.mul_comm b]; omega
 unfold flog
 split
 ·rename_i h
  refine ⟨h1, ?_⟩
  rw [show (nbits a : Int) - nbits b - 1 + 1 = (nbits a : Int) - nbits b by omega]
  unfold le2; omega
 ·rename_i h
  exact ⟨by unfold le2; omega, h2⟩
def nearestN (D : Nat) (least most : Int) (d : Nat) (x : Int) : Option Nat :=
 if d = 0 then some 0 else
  let a := d * 10 ^ x.toNat
  let b := 10 ^ (-x).toNat
  let e := max (flog a b) least
  let q := e - D + 1
  let m := Nm.rnd (a * 2 ^ (-q).toNat) (b * 2 ^ q.toNat)
  if m = 2 ^ D then (if e + 1 > most then none else some ((e + 1 - least).toNat * 2 ^ (D - 1) + 2 ^ (D - 1)))
  else if e > most then none
  else if m < 2 ^ (D - 1) then some m
  else some ((e - least).toNat * 2 ^ (D - 1) + m)
theorem nbits_le_length (a : List Int) (v : Nat) (ha : Limbs a v) : nbits v ≤ 24 * a.length := by
 by_cases h : v = 0
 ·subst h; simp [nbits]
 ·have hb := lval_bounds ha.lim
  rw [ha.val, two24] at hb
  have hlt : v < 2 ^ (24 * a.length) := by omega
  unfold nbits
  rw [if_neg h]
  have := (Nat.log2_lt h).2 hlt
  omega
theorem bits_small (x : Int) (h : -100000 < x ∧ x < 100000) : wrap64 x = x := w64 (by omega)
theorem flog_bounds (a b : Nat) : (nbits a : Int) - nbits b - 1 ≤ flog a b ∧ flog a b ≤ (nbits a : Int) - nbits b := by unfold flog; split <;> omega
theorem quot_lt (D : Nat) (a b : Nat) (e : Int) (ha : 0 < a) (hb : 0 < b) (he : flog a b ≤ e) :
  a * 2 ^ (-(e - D + 1)).toNat < b * 2 ^ (e - D + 1).toNat * 2 ^ D := by
 have h := (flog_spec a b ha hb).2
 have h2 : ¬ le2 (e + 1) a b := by
  intro h3
  apply h
  have K : ∃ K : Nat, 0 ≤ (K : Int) + (flog a b + 1) ∧ 0 ≤ (K : Int) + (e + 1) := ⟨(flog a b).natAbs + e.natAbs, by omega, by omega⟩
  obtain ⟨K, k1, k2⟩ := K
  rw [le2_iff _ a b K k2] at h3
  rw [le2_iff _ a b K k1]
  refine Nat.le_trans (Nat.mul_le_mul_left _ ?_) h3
  exact Nat.pow_le_pow_right (by decide) (by omega)
 obtain ⟨K, k1⟩ : ∃ K : Nat, 0 ≤ (K : Int) + (e + 1) ∧ 0 ≤ (K : Int) + (e - D + 1) := ⟨e.natAbs + D, by omega, by omega⟩
 rw [le2_iff _ a b K k1.1] at h2
 rcases Int.le_total 0 (e - D + 1) with hq | hq
 ·rw [show (-(e - D + 1)).toNat = 0 by omega, Nat.pow_zero, Nat.mul_one, Nat.mul_assoc, ← Nat.pow_add]
  have : ((K : Int) + (e + 1)).toNat = ((e - D + 1).toNat + D) + K := by omega
  rw [this, Nat.pow_add _ _ K, ← Nat.mul_assoc] at h2
  exact Nat.lt_of_mul_lt_mul_right (Nat.lt_of_not_le h2)
 ·rw [show (e - D + 1).toNat = 0 by omega, Nat.pow_zero, Nat.mul_one]
  have hle := Nat.lt_of_not_le h2
  have e1 : K = (-(e - D + 1)).toNat + ((K : Int) + (e - D + 1)).toNat := by omega
  have e2 : ((K : Int) + (e + 1)).toNat = D + ((K : Int) + (e - D + 1)).toNat := by omega
  rw [e2] at hle
  conv at hle => lhs; rw [e1]
  rw [Nat.pow_add, Nat.pow_add, ← Nat.mul_assoc, ← Nat.mul_assoc] at hle
  exact Nat.lt_of_mul_lt_mul_right hle
section
open YtepfodmbjojdbaaGreatDoorW.PrintLast
set_option maxHeartbeats 3200000
set_option maxRecDepth 100000
attribute [local go_sem] max2_int min2_int max_two min_two
theorem BN.draw {w : World} {v : Value} {x L : Nat} (h : BN w v x L) (n : Nat) : BN (w.drewN n) v x L := h.below (pw_below_drewN (Below.refl _ _) n)
theorem BN.alloc {w : World} {v : Value} {x L : Nat} (h : BN w v x L) (o : Obj) : BN (w.alloc o) v x L := h.below ((Below.refl _ _).alloc (Nat.le_refl _) _)
theorem below_draws {B : Nat} {w w' : World} (h : Below B w w') (n : Nat) : Below B w (w'.drewN n) := pw_below_drewN h n
theorem below_calls {w w1 w2 : World} (h : Below w.heap.size w w1) (h2 : Below w1.heap.size w1 w2) : Below w.heap.size w w2 := h.trans (h2.mono h.size)
theorem below_made {w w1 w2 : World} {o : Obj} (h : Below w.heap.size w w1) (h2 : Below (w1.alloc o).heap.size (w1.alloc o) w2) : Below w.heap.size w w2 :=
 below_calls h (((Below.refl _ _).alloc (Nat.le_refl _) _).trans (h2.mono (by simp)))
theorem below_made0 {w1 w2 : World} {o : Obj} (h2 : Below (w1.alloc o).heap.size (w1.alloc o) w2) : Below w1.heap.size w1 w2 :=
 ((Below.refl _ _).alloc (Nat.le_refl _) _).trans (h2.mono (by simp))
def BoxAt (w : World) (b : Nat) (v0 v1 v2 v3 : Value) : Prop := w.cell? ⟨b, 0, none⟩ = some v0 ∧ w.cell? ⟨b, 1, none⟩ = some v1 ∧ w.cell? ⟨b, 2, none⟩ = some v2 ∧ w.cell? ⟨b, 3, none⟩ = some v3 ∧ b < w.heap.size
theorem BoxAt.below {w w' : World} {b : Nat} {v0 v1 v2 v3 : Value} (h : BoxAt w b v0 v1 v2 v3) (hb : Below w.heap.size w w') : BoxAt w' b v0 v1 v2 v3 := by
 obtain ⟨h0, h1, h2, h3, h4⟩ := h
 obtain ⟨hc, _⟩ := bcell hb
 exact ⟨by rw [hc _ _ h4, h0], by rw [hc _ _ h4, h1], by rw [hc _ _ h4, h2], by rw [hc _ _ h4, h3], Nat.lt_of_lt_of_le h4 hb.size⟩
theorem BoxAt.draw {w : World} {b : Nat} {v0 v1 v2 v3 : Value} (h : BoxAt w b v0 v1 v2 v3) (n : Nat) : BoxAt (w.drewN n) b v0 v1 v2 v3 := h.below (below_draws (Below.refl _ _) n)
theorem BoxAt.made (w : World) (v0 v1 v2 v3 : Value) (t : TypeId) : BoxAt (w.alloc (.cells #[v0, v1, v2, v3] t)) w.heap.size v0 v1 v2 v3 := by
 unfold BoxAt; simp [World.cell?_alloc_new]
def nearV (D : Nat) (least most : Int) (e : Int) (m : Nat) : Value :=
 if e > most then .tuple #[.int .u64 0, .bool false]
 else if m < 2 ^ (D - 1) then .tuple #[.int .u64 (m : Int), .bool true]
 else .tuple #[.int .u64 (((e - least).toNat * 2 ^ (D - 1) + m : Nat) : Int), .bool true]
theorem Nearest_core (D : Nat) (least most sg : Int) (A : Option Addr) (n c : Nat) (d L : Nat) (x : Int) (w : World) (hv : BN w (.slice A n c) d L)
  (hn : (((n : Nat) : Int) == 0) = false) (a b na nb k0 k0' k1 k2 k3 k4 D1 LA LB L1 L2 L3 L4 L5 LF a1 b1 a2 b2 m0 left left2 m m3 : Nat) (e0 e1 e2 e3 q cm hf : Int) (bb : Bool)
  (ht1 : (if x < 0 then 0 else x) = (k0 : Int)) (ht2 : (if wrap64 (-x) < 0 then 0 else wrap64 (-x)) = (k0' : Int))
  (h108 : ∀ w v, BN w v d L → Calls Tryz.prog 108 #[v, .int .i64 (k0 : Int)] w fun e w' => ∃ v', e = .returned v' ∧ BN w' v' a LA ∧ Below w.heap.size w w')
  (h108' : ∀ w v, BN w v 1 1 → Calls Tryz.prog 108 #[v, .int .i64 (k0' : Int)] w fun e w' => ∃ v', e = .returned v' ∧ BN w' v' b LB ∧ Below w.heap.size w w')
  (h74 : ∀ w v, BN w v a LA → Calls Tryz.prog 74 #[v] w (Rdw w (.int .i64 (na : Int))))
  (h74' : ∀ w v, BN w v b LB → Calls Tryz.prog 74 #[v] w (Rdw w (.int .i64 (nb : Int))))
  (he0 : wrap64 ((na : Int) - nb) = e0) (ht3 : (if wrap64 (-e0) < 0 then 0 else wrap64 (-e0)) = (k1 : Int)) (ht4 : (if e0 < 0 then 0 else e0) = (k2 : Int))
  (hs1 : ∀ w v, BN w v a LA → Calls Tryz.prog 107 #[v, .int .i64 (k1 : Int)] w fun e w' => ∃ v', e = .returned v' ∧ BN w' v' a1 L1 ∧ Below w.heap.size w w')
  (hs2 : ∀ w v, BN w v b LB → Calls Tryz.prog 107 #[v, .int .i64 (k2 : Int)] w fun e w' => ∃ v', e = .returned v' ∧ BN w' v' b1 L2 ∧ Below w.heap.size w w')
  (hcm : ∀ w v u, BN w v a1 L1 → BN w u b1 L2 → Calls Tryz.prog 46 #[v, u] w (Rdw w (.int .i64 cm)))
  (hlow : Hid ((decide (cm < 0) = true ∧ wrap64 (e0 - 1) = e1) ∨ (decide (cm < 0) = false ∧ e0 = e1)))
  (he2 : (if e1 < least then least else e1) = e2) (hq : wrap64 (wrap64 (e2 - (D : Int)) + 1) = q)
  (ht5 : (if wrap64 (-q) < 0 then 0 else wrap64 (-q)) = (k3 : Int)) (ht6 : (if q < 0 then 0 else q) = (k4 : Int))
  (hs3 : ∀ w v, BN w v a LA → Calls Tryz.prog 107 #[v, .int .i64 (k3 : Int)] w fun e w' => ∃ v', e = .returned v' ∧ BN w' v' a2 L3 ∧ Below w.heap.size w w')
  (hs4 : ∀ w v, BN w v b LB → Calls Tryz.prog 107 #[v, .int .i64 (k4 : Int)] w fun e w' => ∃ v', e = .returned v' ∧ BN w' v' b2 L4 ∧ Below w.heap.size w w')
  (hD1 : wrap64 ((D : Int) + 1) = (D1 : Int))
  (hdv : ∀ w v u, BN w v a2 L3 → BN w u b2 L4 → Calls Tryz.prog 109 #[v, u, .int .i64 (D1 : Int)] w fun e w' => ∃ v', e = .returned (.tuple #[.int .u64 (m0 : Int), v']) ∧ BN w' v' left L5 ∧ Below w.heap.size w w')
  (hs5 : ∀ w v, BN w v left L5 → Calls Tryz.prog 107 #[v, .int .i64 1] w fun e w' => ∃ v', e = .returned v' ∧ BN w' v' left2 LF ∧ Below w.heap.size w w')
  (hhf : ∀ w v u, BN w v left2 LF → BN w u b2 L4 → Calls Tryz.prog 46 #[v, u] w (Rdw w (.int .i64 hf)))
  (hup : Hid ((decide (0 < hf) = true ∧ bb = true) ∨ (decide (0 < hf) = false ∧ (hf == 0) = true ∧ ((m0 : Int) % 2 == 1) = bb) ∨ (decide (0 < hf) = false ∧ (hf == 0) = false ∧ bb = false)))
  (hmm : Hid ((bb = true ∧ IntKind.u64.wrap ((m0 : Int) + 1) = (m : Int)) ∨ (bb = false ∧ m0 = m)))
  (hpD : ∀ w, Calls Tryz.prog 32 #[.int .i64 (D : Int)] w (Rdw w (.int .u64 ((2 ^ D : Nat) : Int))))
  (hD0 : wrap64 ((D : Int) - 1) = ((D - 1 : Nat) : Int))
  (hpD1 : ∀ w, Calls Tryz.prog 32 #[.int .i64 ((D - 1 : Nat) : Int)] w (Rdw w (.int .u64 ((2 ^ (D - 1) : Nat) : Int))))
  (hof : Hid ((((m : Int) == ((2 ^ D : Nat) : Int)) = true ∧ IntKind.u64.wrap ((m : Int) / 2) = (m3 : Int) ∧ wrap64 (e2 + 1) = e3) ∨ (((m : Int) == ((2 ^ D : Nat) : Int)) = false ∧ m = m3 ∧ e2 = e3)))
  (hend : Hid (¬ e3 > most → IntKind.u64.wrap (IntKind.u64.wrap (IntKind.u64.wrap (wrap64 (e3 - least)) * ((2 ^ (D - 1) : Nat) : Int)) + (m3 : Int)) = (((e3 - least).toNat * 2 ^ (D - 1) + m3 : Nat) : Int))) :
  Calls Tryz.prog 110 #[.agg #[.int .i64 (D : Int), .int .i64 least, .int .i64 most, .int .i64 sg], .slice A n c, .int .i64 x] w (Rt w (nearV D least most e3 m3)) := by
 have n1 : e3 > most → Value.tuple #[.int .u64 0, .bool false] = nearV D least most e3 m3 := fun h => by unfold nearV; rw [if_pos h]
 have n2 : ¬ e3 > most → m3 < 2 ^ (D - 1) → Value.tuple #[.int .u64 (m3 : Int), .bool true] = nearV D least most e3 m3 := fun h h' => by unfold nearV; rw [if_neg h, if_pos h']
 have n3 : ¬ e3 > most → ¬ m3 < 2 ^ (D - 1) → Value.tuple #[.int .u64 (((e3 - least).toNat * 2 ^ (D - 1) + m3 : Nat) : Int), .bool true] = nearV D least most e3 m3 := fun h h' => by unfold nearV; rw [if_neg h, if_neg h']
 generalize ((2 ^ D : Nat) : Int) = P at *
 generalize 2 ^ (D - 1) = P1 at *
 generalize D - 1 = Dm at *
 have N1 := Lib.hid n1
 have N2 := Lib.hid n2
 have N3 := Lib.hid n3
 clear n1 n2 n3
 go_enter Tryz.func110, Tryz.ntmps110
 have HX := BoxAt.made w (.int .i64 (D : Int)) (.int .i64 least) (.int .i64 most) (.int .i64 sg) 88
 have HB0 : Below w.heap.size w (w.alloc (.cells #[.int .i64 (D : Int), .int .i64 least, .int .i64 most, .int .i64 sg] 88)) := (Below.refl _ _).alloc (Nat.le_refl _) _
 go_wp2_with fail
 refine (h108 _ _ (hv.below HB0)).mono ?_
 rintro e w1 ⟨va, rfl, hva, hb1⟩
 have HX1 := HX.below hb1
 have HB1 := below_calls HB0 hb1
 clear h108 HX HB0 hb1 hv
 go_wp2_with fail
 refine (h108' _ _ (BN.lit (b := w1.heap.size) (by simp) (by simp))).mono ?_
 rintro e w2 ⟨vb, rfl, hvb, hb2⟩
 have HX2 := HX1.below (below_made0 hb2)
 have HB2 := below_made HB1 hb2
 have hva2 := hva.below (below_made0 hb2)
 clear h108' HX1 HB1 hb2 hva
 go_wp2_with fail
 refine (h74 _ _ hva2).mono ?_
 rintro e w3 ⟨rfl, ⟨n3, rfl⟩⟩
 go_wp2_with fail
 refine (h74' _ _ (hvb.draw _)).mono ?_
 rintro e w3 ⟨rfl, ⟨n4, rfl⟩⟩
 clear h74 h74'
 obtain ⟨w3, hw3⟩ : ∃ w3, w3 = (w2.drewN n3).drewN n4 := ⟨_, rfl⟩
 have HX3 := (HX2.draw n3).draw n4
 rw [← hw3] at HX3
 have HB3 : Below w.heap.size w w3 := by rw [hw3]; exact below_draws (below_draws HB2 n3) n4
 have hva3 : BN w3 va a LA := by rw [hw3]; exact (hva2.draw n3).draw n4
 have hvb3 : BN w3 vb b LB := by rw [hw3]; exact (hvb.draw n3).draw n4
 rw [← hw3]
 clear hw3 HX2 HB2 hva2 hvb
 go_wp2_with fail
 refine (hs1 _ _ hva3).mono ?_
 rintro e w4 ⟨v1, rfl, hv1, hb4⟩
 have HX4 := HX3.below hb4
 have HB4 := below_calls HB3 hb4
 have hva4 := hva3.below hb4
 have hvb4 := hvb3.below hb4
 clear hs1 HX3 HB3 hva3 hvb3 hb4
 go_wp2_with fail
 refine (hs2 _ _ hvb4).mono ?_
 rintro e w5 ⟨v2, rfl, hv2, hb5⟩
 have HX5 := HX4.below hb5
 have HB5 := below_calls HB4 hb5
 have hva5 := hva4.below hb5
 have hvb5 := hvb4.below hb5
 have hv15 := hv1.below hb5
 clear hs2 HX4 HB4 hva4 hvb4 hb5 hv1
 go_wp2_with fail
 refine (hcm _ _ _ hv15 hv2).mono ?_
 rintro e w6 ⟨rfl, ⟨n6, rfl⟩⟩
 have HX6 := HX5.draw n6
 have HB6 := below_draws HB5 n6
 have hva6 := hva5.draw n6
 have hvb6 := hvb5.draw n6
 clear hcm HX5 HB5 hva5 hvb5 hv15 hv2
 go_upto_if 44 with (fail)
 go_cut [10] (fun v10 wc => v10 = .int .i64 e1 ∧ BoxAt wc w.heap.size (.int .i64 (D : Int)) (.int .i64 least) (.int .i64 most) (.int .i64 sg) ∧ Below w.heap.size w wc ∧ BN wc va a LA ∧ BN wc vb b LB)
 case first =>
  rcases hlow with ⟨c1, c2⟩ | ⟨c1, c2⟩
  ·rw [c1]
   go_wp2
   go_meet
   exact ⟨by rw [c2], HX6, HB6, hva6, hvb6⟩
  ·subst c2
   rw [c1]
   go_wp2
   go_meet
   exact ⟨rfl, HX6, HB6, hva6, hvb6⟩
 case rest =>
  obtain ⟨rfl, HX, HB, hva, hvb⟩ := hcut
  clear HX6 HB6 hva6 hvb6 hlow he0 ht3 ht4
  have ⟨x0, x1, x2, x3, x4⟩ := HX
  go_wp2_with fail
  refine (hs3 _ _ hva).mono ?_
  rintro e u1 ⟨v3, rfl, hv3, hb1⟩
  have HX1 := HX.below hb1
  have HB1 := below_calls HB hb1
  have hvb1 := hvb.below hb1
  clear hs3 HX HB hva hvb hb1 x0 x1 x2 x3 x4
  have ⟨x0, x1, x2, x3, x4⟩ := HX1
  go_wp2_with fail
  refine (hs4 _ _ hvb1).mono ?_
  rintro e u2 ⟨v4, rfl, hv4, hb2⟩
  have HX2 := HX1.below hb2
  have HB2 := below_calls HB1 hb2
  have hv32 := hv3.below hb2
  clear hs4 HX1 HB1 hv3 hvb1 hb2 x0 x1 x2 x3 x4
  have ⟨x0, x1, x2, x3, x4⟩ := HX2
  go_wp2_with fail
  refine (hdv _ _ _ hv32 hv4).mono ?_
  rintro e u3 ⟨v5, rfl, hv5, hb3⟩
  have HX3 := HX2.below hb3
  have HB3 := below_calls HB2 hb3
  have hv43 := hv4.below hb3
  clear hdv HX2 HB2 hv32 hv4 hb3 x0 x1 x2 x3 x4
  go_wp2_with fail
  refine (hs5 _ _ hv5).mono ?_
  rintro e u4 ⟨v6, rfl, hv6, hb4⟩
  have HX4 := HX3.below hb4
  have HB4 := below_calls HB3 hb4
  have hv44 := hv43.below hb4
  clear hs5 HX3 HB3 hv43 hv5 hb4
  go_wp2_with fail
  refine (hhf _ _ _ hv6 hv44).mono ?_
  rintro e u5 ⟨rfl, ⟨n5, rfl⟩⟩
  have HX5 := HX4.draw n5
  have HB5 := below_draws HB4 n5
  clear hhf HX4 HB4 hv44 hv6
  go_upto_region 15 with (fail)
  go_cut [88] (fun v88 wc => v88 = .bool bb ∧ BoxAt wc w.heap.size (.int .i64 (D : Int)) (.int .i64 least) (.int .i64 most) (.int .i64 sg) ∧ Below w.heap.size w wc)
  case first =>
   rcases hup with ⟨c1, rfl⟩ | ⟨c1, c2, rfl⟩ | ⟨c1, c2, rfl⟩
   all_goals
    go_wp2_with fail
    go_meet
    exact ⟨rfl, HX5, HB5⟩
  case rest =>
   obtain ⟨rfl, HX, HB⟩ := hcut
   clear HX5 HB5 hup
   go_upto_if 88 with (fail)
   go_cut [13] (fun v13 wc => v13 = .int .u64 (m : Int) ∧ BoxAt wc w.heap.size (.int .i64 (D : Int)) (.int .i64 least) (.int .i64 most) (.int .i64 sg) ∧ Below w.heap.size w wc)
   case first =>
    rcases hmm with ⟨rfl, c2⟩ | ⟨rfl, c2⟩
    ·go_wp2_with fail
     go_meet
     exact ⟨rfl, HX, HB⟩
    ·subst c2
     go_wp2_with fail
     go_meet
     exact ⟨rfl, HX, HB⟩
   case rest =>
    obtain ⟨rfl, HX', HB'⟩ := hcut
    clear HX HB hmm
    have ⟨x0, x1, x2, x3, x4⟩ := HX'
    go_wp2_with fail
    refine (hpD _).mono ?_
    rintro e u6 ⟨rfl, ⟨n6, rfl⟩⟩
    have HX6 := HX'.draw n6
    have HB6 := below_draws HB' n6
    clear hpD HX' HB'
    go_upto_if 95 with (fail)
    go_cut [10, 13] (fun v10 v13 wc => v10 = .int .i64 e3 ∧ v13 = .int .u64 (m3 : Int) ∧ BoxAt wc w.heap.size (.int .i64 (D : Int)) (.int .i64 least) (.int .i64 most) (.int .i64 sg) ∧ Below w.heap.size w wc)
    case first =>
     rcases hof with ⟨c1, c2, c3⟩ | ⟨c1, c2, c3⟩
     ·rw [c1]
      go_wp2_with fail
      go_meet
      exact ⟨by rw [c3], rfl, HX6, HB6⟩
     ·rw [c1]
      subst c2 c3
      go_wp2_with fail
      go_meet
      exact ⟨rfl, rfl, HX6, HB6⟩
    case rest =>
     obtain ⟨rfl, rfl, HX7, HB7⟩ := hcut
     clear HX6 HB6 hof
     have ⟨x0, x1, x2, x3, x4⟩ := HX7
     by_cases hem : e3 > most
     ·have c1 : decide (most < e3) = true := decide_eq_true hem
      go_wp2_with fail
      go_ret2
      exact ⟨by rw [← N1.out hem]; rfl, HB7⟩
     ·have c1 : decide (most < e3) = false := decide_eq_false hem
      go_wp2_with fail
      refine (hpD1 _).mono ?_
      rintro e u7 ⟨rfl, ⟨n7, rfl⟩⟩
      have HX8 := HX7.draw n7
      have HB8 := below_draws HB7 n7
      clear x0 x1 x2 x3 x4 HX7 HB7
      generalize wc.drewN n7 = wz at *
      have ⟨x0, x1, x2, x3, x4⟩ := HX8
      by_cases hlt : m3 < P1
      ·have c2 : decide (m3 < P1) = true := decide_eq_true hlt
       go_wp2_with fail
       go_ret2
       exact ⟨by rw [← N2.out hem hlt]; rfl, HB8⟩
      ·have c2 : decide (m3 < P1) = false := decide_eq_false hlt
       go_wp2_with fail
       go_quiet ((go_at_call 32; refine (hpD1 _).mono ?_; rintro e w' ⟨rfl, ⟨nd, rfl⟩⟩; exact ⟨rfl, _, World.drewN_drewN _ _ _⟩))
       go_wp2_with fail
       go_ret2
       exact ⟨by rw [← N3.out hem hlt, ← hend.out hem]; rfl, below_draws HB8 _⟩
end
section
open YtepfodmbjojdbaaGreatDoorW.PrintLast
set_option maxHeartbeats 800000
set_option maxRecDepth 100000
def nearRes (r : Option Nat) : Value := match r with | none => .tuple #[.int .u64 0, .bool false] | some x => .tuple #[.int .u64 (x : Int), .bool true]
theorem Nearest_zero (D least most sg : Int) (A : Option Addr) (c : Nat) (x : Int) (w : World) :
  Calls Tryz.prog 110 #[.agg #[.int .i64 D, .int .i64 least, .int .i64 most, .int .i64 sg], .slice A 0 c, .int .i64 x] w (Rt w (.tuple #[.int .u64 0, .bool true])) := by
 go_enter Tryz.func110, Tryz.ntmps110
 go_wp2_with fail
 go_ret2
 exact ⟨rfl, (Below.refl _ _).alloc (Nat.le_refl _) _⟩
theorem max0 (x : Int) : (if x < 0 then 0 else x) = ((x.toNat : Nat) : Int) := by split <;> omega
theorem max0n (x : Int) (h : -100000 < x ∧ x < 100000) : (if wrap64 (-x) < 0 then 0 else wrap64 (-x)) = (((-x).toNat : Nat) : Int) := by
 rw [w64 (by omega)]; split <;> omega
theorem cmp_low (a b : Nat) (e : Int) (he : e = flog a b) : Hid ((decide (cmpN (a * 2 ^ (-((nbits a : Int) - nbits b)).toNat) (b * 2 ^ ((nbits a : Int) - nbits b).toNat) < 0) = true ∧ (nbits a : Int) - nbits b - 1 = e) ∨ (decide (cmpN (a * 2 ^ (-((nbits a : Int) - nbits b)).toNat) (b * 2 ^ ((nbits a : Int) - nbits b).toNat) < 0) = false ∧ (nbits a : Int) - nbits b = e)) := by
 subst he
 unfold flog
 by_cases h : a * 2 ^ (-((nbits a : Int) - nbits b)).toNat < b * 2 ^ ((nbits a : Int) - nbits b).toNat
 ·left
  rw [if_pos h]
  exact ⟨by unfold cmpN; rw [if_pos h]; rfl, rfl⟩
 ·right
  rw [if_neg h]
  refine ⟨?_, rfl⟩
  unfold cmpN; rw [if_neg h]; split <;> rfl
theorem cmpN_lt {x y : Nat} (h : x < y) : cmpN x y = -1 := by unfold cmpN; rw [if_pos h]
theorem cmpN_eq {x y : Nat} (h : x = y) : cmpN x y = 0 := by unfold cmpN; rw [if_neg (by omega), if_pos h]
theorem cmpN_gt {x y : Nat} (h : y < x) : cmpN x y = 1 := by unfold cmpN; rw [if_neg (by omega), if_neg (by omega)]
theorem rnd_up (a b : Nat) : Nm.rnd a b = a / b + (if (0 < cmpN (a % b * 2) b) ∨ (cmpN (a % b * 2) b = 0 ∧ a / b % 2 = 1) then 1 else 0) := by
 unfold Nm.rnd
 generalize a / b = n
 generalize a % b = r
 rcases Nat.lt_trichotomy (r * 2) b with h | h | h
 ·rw [cmpN_lt h, if_neg (by omega), if_neg (by omega)]; rfl
 ·rw [cmpN_eq h]
  by_cases h2 : n % 2 = 1
  ·rw [if_pos (by omega), if_pos (by omega)]
  ·rw [if_neg (by omega), if_neg (by omega)]; rfl
 ·rw [cmpN_gt h, if_pos (by omega), if_pos (by omega)]
theorem hend_num (z : Int) (T U m3 : Nat) (h0 : 0 ≤ z) (h1 : z < 100000) (hTp : 0 < T) (hf : z.toNat * T + U < 18446744073709551616) (hm3 : m3 ≤ U) :
  IntKind.u64.wrap (IntKind.u64.wrap (IntKind.u64.wrap (wrap64 z) * (T : Int)) + (m3 : Int)) = ((z.toNat * T + m3 : Nat) : Int) := by
 obtain ⟨n, rfl⟩ : ∃ n : Nat, z = n := ⟨z.toNat, by omega⟩
 rw [Int.toNat_natCast] at hf ⊢
 have hn1 : n ≤ n * T := Nat.le_mul_of_pos_right n hTp
 have c1 : wrap64 (n : Int) = (n : Int) := w64 (by omega)
 have c2 : IntKind.u64.wrap (n : Int) = (n : Int) := wu64 (by omega)
 have c3 : IntKind.u64.wrap (((n * T : Nat) : Int)) = ((n * T : Nat) : Int) := wu64 (by omega)
 have c4 : IntKind.u64.wrap (((n * T + m3 : Nat) : Int)) = ((n * T + m3 : Nat) : Int) := wu64 (by omega)
 rw [c1, c2, ← Int.natCast_mul, c3, ← Int.natCast_add, c4]
theorem wu64_lt {n : Nat} (h : n < 18446744073709551616) : IntKind.u64.wrap (n : Int) = (n : Int) := wu64 (by omega)
theorem Nearest_b (D : Nat) (least most sg : Int) (v : Value) (d L : Nat) (x : Int) (w : World) (hv : BN w v d L) (hL : L ≤ 500) (hx : -1500 ≤ x ∧ x ≤ 1500)
  (hD : 2 ≤ D ∧ D ≤ 60) (hle : -2000 ≤ least ∧ least ≤ 2000) (hmo : -2000 ≤ most ∧ most ≤ 2000) (hfit : ∀ e : Int, e ≤ most → (e - least).toNat * 2 ^ (D - 1) + 2 ^ D < 18446744073709551616) :
  Calls Tryz.prog 110 #[.agg #[.int .i64 (D : Int), .int .i64 least, .int .i64 most, .int .i64 sg], v, .int .i64 x] w (Rt w (nearRes (nearestN D least most d x))) := by
 obtain ⟨l, h1, h2, h3⟩ := hv
 obtain ⟨A, c, rfl⟩ := Kd.V_slice h1
 by_cases h0 : d = 0
 ·have : l = [] := by
   rcases l.eq_nil_or_concat with h | ⟨b, z, h⟩
   ·exact h
   ·exfalso
    have := Limbs.nil.lt_of_length h2 (by rw [h]; simp)
    omega
  subst this
  have e : nearestN D least most d x = some 0 := by unfold nearestN; rw [if_pos h0]
  rw [e]
  exact Nearest_zero D least most sg A c x w
 ·have hlne : l ≠ [] := by
   intro h; subst h; have := h2.val; simp [lval] at this; omega
  have hlp : 0 < l.length := List.length_pos_iff.2 hlne
  have hn : (((l.length : Nat) : Int) == 0) = false := beq_eq_false_iff_ne.2 (by omega)
  obtain ⟨a, ha⟩ : ∃ a, a = d * 10 ^ x.toNat := ⟨_, rfl⟩
  obtain ⟨b, hb⟩ : ∃ b, b = 10 ^ (-x).toNat := ⟨_, rfl⟩
  have hap : 0 < a := by rw [ha]; exact Nat.mul_pos (by omega) (Nat.pow_pos (by decide))
  have hbp : 0 < b := by rw [hb]; exact Nat.pow_pos (by decide)
  have hna : nbits a ≤ 24 * (L + 2 * (x.toNat / 6) + 12) := by
   obtain ⟨r, g1, g2, g3⟩ := tens_ev _ x.toNat l d rfl h2 (by omega) (by omega)
   have := nbits_le_length r _ g2
   rw [← ha] at this; omega
  have hnb : nbits b ≤ 24 * (1 + 2 * ((-x).toNat / 6) + 12) := by
   obtain ⟨r, g1, g2, g3⟩ := tens_ev _ (-x).toNat [1] 1 rfl Limbs.one (by omega) (by simp; omega)
   have := nbits_le_length r _ g2
   rw [Nat.one_mul, ← hb] at this
   simp at g3; omega
  have hfb := flog_bounds a b
  obtain ⟨e1, he1⟩ : ∃ e1, e1 = flog a b := ⟨_, rfl⟩
  obtain ⟨e2, he2⟩ : ∃ e2, e2 = max e1 least := ⟨_, rfl⟩
  obtain ⟨q, hq⟩ : ∃ q, q = e2 - (D : Int) + 1 := ⟨_, rfl⟩
  obtain ⟨a2, ha2⟩ : ∃ a2, a2 = a * 2 ^ (-q).toNat := ⟨_, rfl⟩
  obtain ⟨b2, hb2⟩ : ∃ b2, b2 = b * 2 ^ q.toNat := ⟨_, rfl⟩
  have hb2p : 0 < b2 := by rw [hb2]; exact Nat.mul_pos hbp (Nat.two_pow_pos _)
  have hqlt : a2 < b2 * 2 ^ D := by
   rw [ha2, hb2, hq]; exact quot_lt D a b e2 hap hbp (by omega)
  obtain ⟨m, hm⟩ : ∃ m, m = Nm.rnd a2 b2 := ⟨_, rfl⟩
  have hnear : nearestN D least most d x = (if m = 2 ^ D then (if e2 + 1 > most then none else some ((e2 + 1 - least).toNat * 2 ^ (D - 1) + 2 ^ (D - 1))) else if e2 > most then none else if m < 2 ^ (D - 1) then some m else some ((e2 - least).toNat * 2 ^ (D - 1) + m)) := by
   unfold nearestN
   rw [if_neg h0]
   simp only [← ha, ← hb, ← he1, ← he2, ← hq, ← ha2, ← hb2, ← hm]
  have hm0lt : a2 / b2 < 2 ^ D := Nat.div_lt_of_lt_mul hqlt
  have h2D : 2 ^ D = 2 * 2 ^ (D - 1) := by rw [← Nat.pow_succ']; congr 1; omega
  have h60 : 2 ^ D ≤ 2 ^ 60 := Nat.pow_le_pow_right (by decide) (by omega)
  have h60v : (2 : Nat) ^ 60 = 1152921504606846976 := by decide
  have hru := rnd_up a2 b2
  rw [← hm] at hru
  have hmle : m ≤ 2 ^ D := by rw [hru]; split <;> omega
  obtain ⟨e3, m3, h33⟩ : ∃ (e3 : Int) (m3 : Nat), (m = 2 ^ D ∧ e3 = e2 + 1 ∧ m3 = 2 ^ (D - 1)) ∨ (m ≠ 2 ^ D ∧ e3 = e2 ∧ m3 = m) := by
   by_cases h : m = 2 ^ D
   ·exact ⟨e2 + 1, 2 ^ (D - 1), .inl ⟨h, rfl, rfl⟩⟩
   ·exact ⟨e2, m, .inr ⟨h, rfl, rfl⟩⟩
  have hres : nearRes (nearestN D least most d x) = nearV D least most e3 m3 := by
   rw [hnear]
   unfold nearV
   rcases h33 with ⟨g1, rfl, rfl⟩ | ⟨g1, rfl, rfl⟩
   ·rw [if_pos g1, if_neg (Nat.lt_irrefl _)]
    by_cases h : e2 + 1 > most
    ·rw [if_pos h, if_pos h]; rfl
    ·rw [if_neg h, if_neg h]; rfl
   ·rw [if_neg g1]
    by_cases h : e3 > most
    ·rw [if_pos h, if_pos h]; rfl
    ·rw [if_neg h, if_neg h]
     by_cases h2 : m3 < 2 ^ (D - 1)
     ·rw [if_pos h2, if_pos h2]; rfl
     ·rw [if_neg h2, if_neg h2]; rfl
  rw [hres]
  clear hres hnear
  have hm3 : m3 ≤ 2 ^ D := by rcases h33 with ⟨g1, g2, g3⟩ | ⟨g1, g2, g3⟩ <;> omega
  have he3 : least ≤ e3 ∧ e2 ≤ e3 ∧ e3 ≤ e2 + 1 := by rcases h33 with ⟨g1, g2, g3⟩ | ⟨g1, g2, g3⟩ <;> omega
  have hend : Hid (¬ e3 > most → IntKind.u64.wrap (IntKind.u64.wrap (IntKind.u64.wrap (wrap64 (e3 - least)) * ((2 ^ (D - 1) : Nat) : Int)) + (m3 : Int)) = (((e3 - least).toNat * 2 ^ (D - 1) + m3 : Nat) : Int)) := by
   intro h
   exact hend_num (e3 - least) (2 ^ (D - 1)) (2 ^ D) m3 (by omega) (by omega) (Nat.two_pow_pos _) (hfit e3 (by omega)) hm3
  have hfl := hfit
  clear hfit
  have hcap : ∀ k : Nat, k < 100000 → k / 24 ≤ 5000 := by intro k hk; omega
  refine Nearest_core D least most sg A l.length c d L x w ⟨l, h1, h2, h3⟩ hn a b (nbits a) (nbits b) x.toNat (-x).toNat (-((nbits a : Int) - nbits b)).toNat ((nbits a : Int) - nbits b).toNat (-q).toNat q.toNat (D + 1)
   (L + 2 * (x.toNat / 6) + 12) (1 + 2 * ((-x).toNat / 6) + 12) (L + 2 * (x.toNat / 6) + 12 + (-((nbits a : Int) - nbits b)).toNat / 24 + 2) (1 + 2 * ((-x).toNat / 6) + 12 + ((nbits a : Int) - nbits b).toNat / 24 + 2)
   (L + 2 * (x.toNat / 6) + 12 + (-q).toNat / 24 + 2) (1 + 2 * ((-x).toNat / 6) + 12 + q.toNat / 24 + 2) (L + 2 * (x.toNat / 6) + 12 + (-q).toNat / 24 + 2) (L + 2 * (x.toNat / 6) + 12 + (-q).toNat / 24 + 2 + 1 / 24 + 2)
   (a * 2 ^ (-((nbits a : Int) - nbits b)).toNat) (b * 2 ^ ((nbits a : Int) - nbits b).toNat) a2 b2 (a2 / b2) (a2 % b2) (a2 % b2 * 2 ^ 1) m m3 ((nbits a : Int) - nbits b) e1 e2 e3 q (cmpN (a * 2 ^ (-((nbits a : Int) - nbits b)).toNat) (b * 2 ^ ((nbits a : Int) - nbits b).toNat)) (cmpN (a2 % b2 * 2 ^ 1) b2) (decide ((0 < cmpN (a2 % b2 * 2 ^ 1) b2) ∨ (cmpN (a2 % b2 * 2 ^ 1) b2 = 0 ∧ a2 / b2 % 2 = 1)))
   (max0 x) (max0n x (by omega)) ?_ ?_ ?_ ?_ (bits_small _ (by omega)) (max0n _ (by omega)) (max0 _) ?_ ?_ ?_ ?_ ?_ ?_ (max0n _ (by omega)) (max0 _) ?_ ?_ ?_ ?_ ?_ ?_ ?_ ?_ ?_ ?_ ?_ ?_ hend
  ·intro w v hv; rw [ha]; exact tens_b v d L x.toNat w hv (by omega) (by omega)
  ·intro w v hv; have := tens_b v 1 1 (-x).toNat w hv (by omega) (by omega); rw [Nat.one_mul, ← hb] at this; exact this
  ·intro w v hv; exact bits_b v a _ w hv (by omega)
  ·intro w v hv; exact bits_b v b _ w hv (by omega)
  ·intro w v hv; exact shifted_b v a _ _ w hv (by omega) (by omega)
  ·intro w v hv; exact shifted_b v b _ _ w hv (by omega) (by omega)
  ·intro w v u hv hu; exact compare_b v u _ _ _ _ w hv hu (by omega) (by omega)
  ·have := cmp_low a b e1 he1
   rw [bits_small _ (by omega)]
   exact this
  ·rw [he2]; split <;> omega
  ·rw [bits_small (e2 - (D : Int)) (by omega), bits_small _ (by omega), hq]
  ·intro w v hv; rw [ha2]; exact shifted_b v a _ _ w hv (by omega) (by omega)
  ·intro w v hv; rw [hb2]; exact shifted_b v b _ _ w hv (by omega) (by omega)
  ·rw [bits_small _ (by omega)]; rfl
  ·intro w v u hv hu; exact divided_b v u a2 b2 _ _ (D + 1) w hv hu (by omega) (by omega) (by omega) hb2p (by rw [Nat.pow_succ, ← Nat.mul_assoc]; omega)
  ·intro w v hv; exact shifted_b v _ _ 1 w hv (by omega) (by omega)
  ·intro w v u hv hu; exact compare_b v u _ _ _ _ w hv hu (by omega) (by omega)
  ·rw [Nat.pow_one]
   generalize a2 % b2 * 2 = r
   rcases Nat.lt_trichotomy r b2 with h | h | h
   ·rw [cmpN_lt h]; exact .inr (.inr ⟨rfl, rfl, by simp⟩)
   ·rw [cmpN_eq h]
    refine .inr (.inl ⟨rfl, rfl, ?_⟩)
    rw [Bool.eq_iff_iff, beq_iff_eq, decide_eq_true_eq]
    generalize a2 / b2 = k
    omega
   ·rw [cmpN_gt h]; exact .inl ⟨rfl, by simp⟩
  ·rw [Nat.pow_one]
   by_cases h : (0 < cmpN (a2 % b2 * 2) b2) ∨ (cmpN (a2 % b2 * 2) b2 = 0 ∧ a2 / b2 % 2 = 1)
   ·rw [if_pos h] at hru
    refine .inl ⟨decide_eq_true h, ?_⟩
    rw [hru]
    exact wu64_lt (n := a2 / b2 + 1) (by omega)
   ·rw [if_neg h] at hru
    exact .inr ⟨decide_eq_false h, hru.symm⟩
  ·intro w; exact power_b D w (by omega)
  ·rw [bits_small _ (by omega)]; omega
  ·intro w; exact power_b (D - 1) w (by omega)
  ·rcases h33 with ⟨g1, rfl, rfl⟩ | ⟨g1, rfl, rfl⟩
   ·refine .inl ⟨by rw [g1]; simp, ?_, bits_small _ (by omega)⟩
    rw [g1]
    have e : ((2 ^ D : Nat) : Int) / 2 = ((2 ^ (D - 1) : Nat) : Int) := by rw [h2D]; omega
    rw [e]
    exact wu64_lt (by omega)
   ·exact .inr ⟨beq_eq_false_iff_ne.2 (by omega), rfl, rfl⟩
end
end Go.Proofs.YtepfodmbjojdbaaGreatDoor.Num
