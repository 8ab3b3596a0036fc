-- PRINTED BY print.sh 35421559b90ae4d0a3588c463048766b98c2df88dd9212a6774a882060cdf62d: not written by this session
import Derived.Test.YtepfodmbjojdbaaGreatDoorPNumberPrintsx0
import Derived.Test.YtepfodmbjojdbaaGreatDoorPNumberPrintsx1
namespace Go.Proofs.YtepfodmbjojdbaaGreatDoor.PNumberPrints
open Go.RowKit Go.Proofs.YtepfodmbjojdbaaGreatDoorW.PrintWords Go.Proofs.YtepfodmbjojdbaaGreatDoorW.PrintLast Go.Proofs.YtepfodmbjojdbaaGreatDoorW.PrintMore
attribute [local go_sem] max2_int min2_int max_two min_two max_three min_three max_four min_four   -- for this text's walks alone
set_option linter.unusedVariables false
set_option linter.unusedSimpArgs false

/-! ### number_parseChar: function 52 -/
mutual
def number_parseChar.j0 : Nat → ByteArray → Bool → Option (Int × Int × Int)
  | 0, _, _ => none
  | k + 1, x1, x21 => if x21 = true then (if 0 < (x1.size : Int) then (some (IntKind.u64.wrap (bt x1 0), 0, 0)) else (none)) else (if (x1.size : Int) < 2 then (number_parseChar.j1 k x1 true) else (if 0 < (x1.size : Int) then (if (bt x1 0) = 35 then ((number_digitsFrom.f k x1 1 false).bind fun t109 => (number_parseChar.j1 k x1 (decide (t109 < (x1.size : Int))))) else (number_parseChar.j1 k x1 true)) else (none)))
def number_parseChar.j1 : Nat → ByteArray → Bool → Option (Int × Int × Int)
  | 0, _, _ => none
  | k + 1, x1, x39 => if x39 = true then (some (0, 32, 0)) else (if 1 ≤ (x1.size : Int) then ((number_magnitude.f k (x1.extract 1 x1.size) 10).bind fun bt110 => (if bt110.2 = true then (if bt110.1 > 255 then (some (0, 31, 0)) else (some (bt110.1, 0, 0))) else (some (0, 31, 0)))) else (none))
end
def number_parseChar.f (k : Nat) (a0 : Int) (a1 : ByteArray) : Option (Int × Int × Int) := if (a1.size : Int) = 1 then (if 0 < (a1.size : Int) then (if (bt a1 0) ≥ 32 then (number_parseChar.j0 k a1 (decide ((bt a1 0) ≤ 126))) else (number_parseChar.j0 k a1 false)) else (none)) else (number_parseChar.j0 k a1 false)
theorem number_parseChar.mono_l : ∀ k, (∀ y0 y1, LeO (number_parseChar.j0 k y0 y1) (number_parseChar.j0 (k + 1) y0 y1)) ∧ (∀ y0 y1, LeO (number_parseChar.j1 k y0 y1) (number_parseChar.j1 (k + 1) y0 y1))
  | 0 => ⟨fun _ _ r h => by simp [number_parseChar.j0] at h, fun _ _ r h => by simp [number_parseChar.j1] at h⟩
  | k + 1 => by
    obtain ⟨ih0, ih1⟩ := number_parseChar.mono_l k
    refine ⟨?_, ?_⟩
    · intro y0 y1
      unfold number_parseChar.j0
      repeat' first
      | (with_reducible exact ih0 _ _)
      | (with_reducible exact ih1 _ _)
      | (with_reducible exact number_digitsFrom.mono _ _ _ _)
      | (with_reducible exact number_magnitude.mono _ _ _)
      | (with_reducible exact LeO.refl _)
      | (with_reducible exact LeO.none _)
      | (with_reducible refine LeO.ite ?_ ?_)
      | (with_reducible refine LeO.bind ?_ (fun _ => ?_))
      | exact ih0 _ _
      | exact ih1 _ _
      | exact number_digitsFrom.mono _ _ _ _
      | exact number_magnitude.mono _ _ _
      | exact LeO.none _
      | refine LeO.ite ?_ ?_
      | refine LeO.bind ?_ (fun _ => ?_)
    · intro y0 y1
      unfold number_parseChar.j1
      repeat' first
      | (with_reducible exact ih0 _ _)
      | (with_reducible exact ih1 _ _)
      | (with_reducible exact number_digitsFrom.mono _ _ _ _)
      | (with_reducible exact number_magnitude.mono _ _ _)
      | (with_reducible exact LeO.refl _)
      | (with_reducible exact LeO.none _)
      | (with_reducible refine LeO.ite ?_ ?_)
      | (with_reducible refine LeO.bind ?_ (fun _ => ?_))
      | exact ih0 _ _
      | exact ih1 _ _
      | exact number_digitsFrom.mono _ _ _ _
      | exact number_magnitude.mono _ _ _
      | exact LeO.none _
      | refine LeO.ite ?_ ?_
      | refine LeO.bind ?_ (fun _ => ?_)
theorem number_parseChar.mono : ∀ a0 a1 k, LeO (number_parseChar.f k a0 a1) (number_parseChar.f (k + 1) a0 a1) := by
  intro a0 a1 k
  obtain ⟨ih0, ih1⟩ := number_parseChar.mono_l k
  unfold number_parseChar.f
  repeat' first
      | (with_reducible exact ih0 _ _)
      | (with_reducible exact ih1 _ _)
      | (with_reducible exact number_digitsFrom.mono _ _ _ _)
      | (with_reducible exact number_magnitude.mono _ _ _)
      | (with_reducible exact LeO.refl _)
      | (with_reducible exact LeO.none _)
      | (with_reducible refine LeO.ite ?_ ?_)
      | (with_reducible refine LeO.bind ?_ (fun _ => ?_))
      | exact ih0 _ _
      | exact ih1 _ _
      | exact number_digitsFrom.mono _ _ _ _
      | exact number_magnitude.mono _ _ _
      | exact LeO.none _
      | refine LeO.ite ?_ ?_
      | refine LeO.bind ?_ (fun _ => ?_)
set_option maxHeartbeats 8000000 in
set_option maxRecDepth 100000 in
theorem number_parseChar.calls (k : Nat) (a0 : Int) (a1 : ByteArray) (r1 : Int) (r2 : Int) (r3 : Int) (w : World) (h : number_parseChar.f k a0 a1 = some (r1, r2, r3)) :
    Calls Tryz.prog 52 #[.int .i64 a0, .string a1] w fun e w' => e = .returned (.tuple #[.int .u64 r1, .int .i64 r2, .int .i64 r3]) ∧ Drawn0 w w' := by
  have H : (if (a1.size : Int) = 1 then (if 0 < (a1.size : Int) then (if (bt a1 0) ≥ 32 then (number_parseChar.j0 k a1 (decide ((bt a1 0) ≤ 126))) else (number_parseChar.j0 k a1 false)) else (none)) else (number_parseChar.j0 k a1 false)) = some (r1, r2, r3) := h
  clear h
  have HC3 := Aside0.mk H
  clear H
  go_enter Tryz.func52, Tryz.ntmps52
  go_upto_region 1 with (fail)
  go_cut [21] (fun v21 wc => ∃ (kq : Nat) (x21_2 : Bool), v21 = .bool x21_2 ∧ Aside0 (number_parseChar.j0 kq a1 x21_2 = some (r1, r2, r3)) ∧ Aside0 (kq ≤ k) ∧ Drawn0 w wc)
  case first =>
    have H := HC3.out
    clear HC3
    by_cases c4 : (a1.size : Int) = 1
    · rw [if_pos c4] at H
      have c4b0 : ((a1.size : Int) == 1) = true := beq_iff_eq.mpr c4
      have c4b1 : ((a1.size : Int) != 1) = false := bne_eq_false_iff_eq.mpr c4
      clear c4
      (first | rw [c4b0] | (simp only [i64_w, i32_w]; rw [c4b0]) | skip)
      by_cases c5 : 0 < (a1.size : Int)
      · rw [if_pos c5] at H
        have c5b0 : decide (0 < (a1.size : Int)) = true := decide_eq_true c5
        have c5b1 : decide (0 < a1.size) = true := decide_eq_true (by omega)
        clear c5
        by_cases c7 : (bt a1 0) ≥ 32
        · rw [if_pos c7] at H
          have c7b0 : decide (32 ≤ (bt a1 0)) = true := decide_eq_true c7
          clear c7
          have H' := Aside0.mk H
          clear H
          have p6 : 0 ≤ (0 : Int) := (by omega)
          have q6 : 0 < a1.size := (by have : (0 : Int) < (a1.size : Int) := of_decide_eq_true (by first | (with_reducible assumption) | assumption); omega)
          have hx6 : ∀ h : 0 < a1.size, ((a1[0]'h).toNat : Int) = bt a1 0 := bt_at a1 0
          clear p6
          have qi6 : (0 < (a1.size : Int)) = True := eq_true (of_decide_eq_true (by first | (with_reducible assumption) | assumption))
          replace q6 := eq_true q6
          have p8 : 0 ≤ (0 : Int) := (by omega)
          have q8 : 0 < a1.size := (by have : (0 : Int) < (a1.size : Int) := of_decide_eq_true (by first | (with_reducible assumption) | assumption); omega)
          have hx8 : ∀ h : 0 < a1.size, ((a1[0]'h).toNat : Int) = bt a1 0 := bt_at a1 0
          clear p8
          have qi8 : (0 < (a1.size : Int)) = True := eq_true (of_decide_eq_true (by first | (with_reducible assumption) | assumption))
          replace q8 := eq_true q8
          go_wp2
          go_meet
          case rel => exact ⟨_, (decide ((bt a1 0) ≤ 126)), (by first | rfl | (simp; done) | (simp [*]; done)), H', ⟨by first | omega | exact Nat.le_refl _⟩, by repeat (first | exact Drawn0.refl _ | apply Drawn0.step)⟩
        · rw [if_neg c7] at H
          have c7b0 : decide (32 ≤ (bt a1 0)) = false := decide_eq_false c7
          clear c7
          have H' := Aside0.mk H
          clear H
          have p6 : 0 ≤ (0 : Int) := (by omega)
          have q6 : 0 < a1.size := (by have : (0 : Int) < (a1.size : Int) := of_decide_eq_true (by first | (with_reducible assumption) | assumption); omega)
          have hx6 : ∀ h : 0 < a1.size, ((a1[0]'h).toNat : Int) = bt a1 0 := bt_at a1 0
          clear p6
          have qi6 : (0 < (a1.size : Int)) = True := eq_true (of_decide_eq_true (by first | (with_reducible assumption) | assumption))
          replace q6 := eq_true q6
          go_wp2
          go_meet
          case rel => exact ⟨_, (false), (by first | rfl | (simp; done) | (simp [*]; done)), H', ⟨by first | omega | exact Nat.le_refl _⟩, by repeat (first | exact Drawn0.refl _ | apply Drawn0.step)⟩
      · rw [if_neg c5] at H
        exact absurd H (by simp)
    · rw [if_neg c4] at H
      have c4b0 : ((a1.size : Int) == 1) = false := beq_eq_false_iff_ne.mpr c4
      have c4b1 : ((a1.size : Int) != 1) = true := bne_iff_ne.mpr c4
      (first | rw [c4b0] | (simp only [i64_w, i32_w]; rw [c4b0]) | skip)
      have H' := Aside0.mk H
      clear H
      go_wp2
      go_meet
      case rel => exact ⟨_, (false), (by first | rfl | (simp; done) | (simp [*]; done)), H', ⟨by first | omega | exact Nat.le_refl _⟩, by repeat (first | exact Drawn0.refl _ | apply Drawn0.step)⟩
  case rest =>
    clear HC3
    try clear p2
    try clear c4
    try clear c4b0
    try clear c4b1
    try clear c5
    try clear c5b0
    try clear c5b1
    try clear p6
    try clear q6
    try clear hx6
    try clear qi6
    try clear c7
    try clear c7b0
    try clear p8
    try clear q8
    try clear hx8
    try clear qi8
    try clear p6
    try clear p8
    try clear q6
    try clear q8
    obtain ⟨kq, x21_2, rfl, HA, HJ2, ⟨mc2, rfl⟩⟩ := hcut
    cases kq with
    | zero => exact absurd HA.out (by simp [number_parseChar.j0])
    | succ kj2 =>
      have H := HA.out
      clear HA
      simp only [number_parseChar.j0] at H
      by_cases c9 : x21_2 = true
      · subst c9
        have H1 : (if 0 < (a1.size : Int) then (some (IntKind.u64.wrap (bt a1 0), 0, 0)) else (none)) = some (r1, r2, r3) := by rw [if_pos rfl] at H; exact H
        clear H
        have H := H1
        clear H1
        by_cases c10 : 0 < (a1.size : Int)
        · rw [if_pos c10] at H
          have c10b0 : decide (0 < (a1.size : Int)) = true := decide_eq_true c10
          have c10b1 : decide (0 < a1.size) = true := decide_eq_true (by omega)
          clear c10
          simp only [Option.some.injEq, Prod.mk.injEq] at H
          obtain ⟨rfl, rfl, rfl⟩ := H
          have p11 : 0 ≤ (0 : Int) := (by omega)
          have q11 : 0 < a1.size := (by have : (0 : Int) < (a1.size : Int) := of_decide_eq_true (by first | (with_reducible assumption) | assumption); omega)
          have hx11 : ∀ h : 0 < a1.size, ((a1[0]'h).toNat : Int) = bt a1 0 := bt_at a1 0
          clear p11
          have qi11 : (0 < (a1.size : Int)) = True := eq_true (of_decide_eq_true (by first | (with_reducible assumption) | assumption))
          replace q11 := eq_true q11
          go_wp2
          go_ret3
          exact ⟨by first | rfl | (simp; done) | (simp [*]; done), by repeat (first | exact Drawn0.refl _ | apply Drawn0.step)⟩
        · rw [if_neg c10] at H
          exact absurd H (by simp)
      · replace c9 := Bool.eq_false_iff.mpr c9
        subst c9
        have H1 : (if (a1.size : Int) < 2 then (number_parseChar.j1 kj2 a1 true) else (if 0 < (a1.size : Int) then (if (bt a1 0) = 35 then ((number_digitsFrom.f kj2 a1 1 false).bind fun t109 => (number_parseChar.j1 kj2 a1 (decide (t109 < (a1.size : Int))))) else (number_parseChar.j1 kj2 a1 true)) else (none))) = some (r1, r2, r3) := by rw [if_neg (show ¬ (false = true) by decide)] at H; exact H
        clear H
        have H := H1
        clear H1
        have HC12 := Aside0.mk H
        clear H
        go_upto_region 3 with (fail)
        go_cut [39] (fun v39 wc => ∃ (kq : Nat) (x39_11 : Bool), v39 = .bool x39_11 ∧ Aside0 (number_parseChar.j1 kq a1 x39_11 = some (r1, r2, r3)) ∧ Aside0 (kq ≤ kj2) ∧ Drawn0 w wc)
        case first =>
          have H := HC12.out
          clear HC12
          by_cases c13 : (a1.size : Int) < 2
          · rw [if_pos c13] at H
            have c13b0 : decide ((a1.size : Int) < 2) = true := decide_eq_true c13
            have c13b1 : decide (a1.size < 2) = true := decide_eq_true (by omega)
            clear c13
            (first | rw [c13b0] | (simp only [i64_w, i32_w]; rw [c13b0]) | skip)
            have H' := Aside0.mk H
            clear H
            go_wp2
            go_meet
            case rel => exact ⟨_, (true), (by first | rfl | (simp; done) | (simp [*]; done)), H', ⟨by have := HJ2.out; first | omega | exact Nat.le_refl _⟩, by repeat (first | exact Drawn0.refl _ | apply Drawn0.step)⟩
          · rw [if_neg c13] at H
            have c13b0 : decide ((a1.size : Int) < 2) = false := decide_eq_false c13
            have c13b1 : decide (a1.size < 2) = false := decide_eq_false (by omega)
            clear c13
            (first | rw [c13b0] | (simp only [i64_w, i32_w]; rw [c13b0]) | skip)
            by_cases c14 : 0 < (a1.size : Int)
            · rw [if_pos c14] at H
              have c14b0 : decide (0 < (a1.size : Int)) = true := decide_eq_true c14
              have c14b1 : decide (0 < a1.size) = true := decide_eq_true (by omega)
              clear c14
              by_cases c16 : (bt a1 0) = 35
              · rw [if_pos c16] at H
                have c16b0 : ((bt a1 0) == 35) = true := beq_iff_eq.mpr c16
                have c16b1 : ((bt a1 0) != 35) = false := bne_eq_false_iff_eq.mpr c16
                clear c16
                replace H := Option.bind_eq_some_iff.mp H
                obtain ⟨t109, A170, H⟩ := H
                replace H : (number_parseChar.j1 kj2 a1 (decide (t109 < (a1.size : Int)))) = some (r1, r2, r3) := H
                have A17 := Aside0.mk A170
                clear A170
                have H' := Aside0.mk H
                clear H
                have p15 : 0 ≤ (0 : Int) := (by omega)
                have q15 : 0 < a1.size := (by have : (0 : Int) < (a1.size : Int) := of_decide_eq_true (by first | (with_reducible assumption) | assumption); omega)
                have hx15 : ∀ h : 0 < a1.size, ((a1[0]'h).toNat : Int) = bt a1 0 := bt_at a1 0
                clear p15
                have qi15 : (0 < (a1.size : Int)) = True := eq_true (of_decide_eq_true (by first | (with_reducible assumption) | assumption))
                replace q15 := eq_true q15
                go_wp2_with (first | (go_at_call 41; (with_reducible refine (number_digitsFrom.calls kj2 a1 1 false t109 _ A17.out).mono ?_); rintro e w' ⟨rfl, ⟨nd, rfl⟩⟩))
                go_meet
                case rel => exact ⟨_, (decide (t109 < (a1.size : Int))), (by first | rfl | (simp; done) | (simp [*]; done)), H', ⟨by have := HJ2.out; first | omega | exact Nat.le_refl _⟩, by repeat (first | exact Drawn0.refl _ | apply Drawn0.step)⟩
              · rw [if_neg c16] at H
                have c16b0 : ((bt a1 0) == 35) = false := beq_eq_false_iff_ne.mpr c16
                have c16b1 : ((bt a1 0) != 35) = true := bne_iff_ne.mpr c16
                have H' := Aside0.mk H
                clear H
                have p15 : 0 ≤ (0 : Int) := (by omega)
                have q15 : 0 < a1.size := (by have : (0 : Int) < (a1.size : Int) := of_decide_eq_true (by first | (with_reducible assumption) | assumption); omega)
                have hx15 : ∀ h : 0 < a1.size, ((a1[0]'h).toNat : Int) = bt a1 0 := bt_at a1 0
                clear p15
                have qi15 : (0 < (a1.size : Int)) = True := eq_true (of_decide_eq_true (by first | (with_reducible assumption) | assumption))
                replace q15 := eq_true q15
                go_wp2
                go_meet
                case rel => exact ⟨_, (true), (by first | rfl | (simp; done) | (simp [*]; done)), H', ⟨by have := HJ2.out; first | omega | exact Nat.le_refl _⟩, by repeat (first | exact Drawn0.refl _ | apply Drawn0.step)⟩
            · rw [if_neg c14] at H
              exact absurd H (by simp)
        case rest =>
          clear HC12
          try clear c1
          try clear p1
          try clear q1
          try clear hx1
          try clear qi1
          try clear c2
          try clear p2
          try clear c4
          try clear c4b0
          try clear c4b1
          try clear c5
          try clear c5b0
          try clear c5b1
          try clear p6
          try clear q6
          try clear hx6
          try clear qi6
          try clear c7
          try clear c7b0
          try clear p8
          try clear q8
          try clear hx8
          try clear qi8
          try clear c9
          try clear c10
          try clear c10b0
          try clear c10b1
          try clear p11
          try clear q11
          try clear hx11
          try clear qi11
          try clear c13
          try clear c13b0
          try clear c13b1
          try clear c14
          try clear c14b0
          try clear c14b1
          try clear p15
          try clear q15
          try clear hx15
          try clear qi15
          try clear c16
          try clear c16b0
          try clear c16b1
          try clear p11
          try clear p15
          try clear p2
          try clear p6
          try clear p8
          try clear q11
          try clear q15
          try clear q6
          try clear q8
          obtain ⟨kq, x39_11, rfl, HA, HJ11, ⟨mc11, rfl⟩⟩ := hcut
          cases kq with
          | zero => exact absurd HA.out (by simp [number_parseChar.j1])
          | succ kj11 =>
            have H := HA.out
            clear HA
            simp only [number_parseChar.j1] at H
            by_cases c18 : x39_11 = true
            · subst c18
              have H1 : (some (0, 32, 0)) = some (r1, r2, r3) := by rw [if_pos rfl] at H; exact H
              clear H
              have H := H1
              clear H1
              simp only [Option.some.injEq, Prod.mk.injEq] at H
              obtain ⟨rfl, rfl, rfl⟩ := H
              go_wp2
              go_ret3
              exact ⟨by first | rfl | (simp; done) | (simp [*]; done), by repeat (first | exact Drawn0.refl _ | apply Drawn0.step)⟩
            · replace c18 := Bool.eq_false_iff.mpr c18
              subst c18
              have H1 : (if 1 ≤ (a1.size : Int) then ((number_magnitude.f kj11 (a1.extract 1 a1.size) 10).bind fun bt110 => (if bt110.2 = true then (if bt110.1 > 255 then (some (0, 31, 0)) else (some (bt110.1, 0, 0))) else (some (0, 31, 0)))) else (none)) = some (r1, r2, r3) := by rw [if_neg (show ¬ (false = true) by decide)] at H; exact H
              clear H
              have H := H1
              clear H1
              by_cases c19 : 1 ≤ (a1.size : Int)
              · rw [if_pos c19] at H
                have c19b0 := eq_true c19
                have c19b1 : decide (1 ≤ (a1.size : Int)) = true := decide_eq_true c19
                clear c19
                replace H := Option.bind_eq_some_iff.mp H
                obtain ⟨⟨t110, t111⟩, A200, H⟩ := H
                replace H : (if t111 = true then (if t110 > 255 then (some (0, 31, 0)) else (some (t110, 0, 0))) else (some (0, 31, 0))) = some (r1, r2, r3) := H
                have A20 := Aside0.mk A200
                clear A200
                by_cases c21 : t111 = true
                · subst c21
                  have H1 : (if t110 > 255 then (some (0, 31, 0)) else (some (t110, 0, 0))) = some (r1, r2, r3) := by rw [if_pos rfl] at H; exact H
                  clear H
                  have H := H1
                  clear H1
                  by_cases c22 : t110 > 255
                  · rw [if_pos c22] at H
                    have c22b0 : decide (255 < t110) = true := decide_eq_true c22
                    clear c22
                    simp only [Option.some.injEq, Prod.mk.injEq] at H
                    obtain ⟨rfl, rfl, rfl⟩ := H
                    go_wp2_with (first | ((with_reducible refine gate_callee (f := 42) rfl ?_); refine goesL_ (some 43) rfl rfl Tryz.func42 (by kernel_rfl) rfl #[.string (a1.extract 1 a1.size), .int .u64 10] rfl (by (try simp only [List.map_toArray, List.map_cons, List.map_nil]); first | done | rfl | (simp only [List.length_drop, List.length_take]; rfl)) ?_; (with_reducible refine (number_magnitude.calls kj11 (a1.extract 1 a1.size) 10 t110 true _ A20.out).mono ?_); rintro e w' ⟨rfl, ⟨nd, rfl⟩⟩; refine ⟨_, rfl, ?_⟩))
                    go_ret3
                    exact ⟨by first | rfl | (simp; done) | (simp [*]; done), by repeat (first | exact Drawn0.refl _ | apply Drawn0.step)⟩
                  · rw [if_neg c22] at H
                    have c22b0 : decide (255 < t110) = false := decide_eq_false c22
                    clear c22
                    simp only [Option.some.injEq, Prod.mk.injEq] at H
                    obtain ⟨rfl, rfl, rfl⟩ := H
                    go_wp2_with (first | ((with_reducible refine gate_callee (f := 42) rfl ?_); refine goesL_ (some 43) rfl rfl Tryz.func42 (by kernel_rfl) rfl #[.string (a1.extract 1 a1.size), .int .u64 10] rfl (by (try simp only [List.map_toArray, List.map_cons, List.map_nil]); first | done | rfl | (simp only [List.length_drop, List.length_take]; rfl)) ?_; (with_reducible refine (number_magnitude.calls kj11 (a1.extract 1 a1.size) 10 t110 true _ A20.out).mono ?_); rintro e w' ⟨rfl, ⟨nd, rfl⟩⟩; refine ⟨_, rfl, ?_⟩))
                    go_ret3
                    exact ⟨by first | rfl | (simp; done) | (simp [*]; done), by repeat (first | exact Drawn0.refl _ | apply Drawn0.step)⟩
                · replace c21 := Bool.eq_false_iff.mpr c21
                  subst c21
                  have H1 : (some (0, 31, 0)) = some (r1, r2, r3) := by rw [if_neg (show ¬ (false = true) by decide)] at H; exact H
                  clear H
                  have H := H1
                  clear H1
                  simp only [Option.some.injEq, Prod.mk.injEq] at H
                  obtain ⟨rfl, rfl, rfl⟩ := H
                  go_wp2_with (first | ((with_reducible refine gate_callee (f := 42) rfl ?_); refine goesL_ (some 43) rfl rfl Tryz.func42 (by kernel_rfl) rfl #[.string (a1.extract 1 a1.size), .int .u64 10] rfl (by (try simp only [List.map_toArray, List.map_cons, List.map_nil]); first | done | rfl | (simp only [List.length_drop, List.length_take]; rfl)) ?_; (with_reducible refine (number_magnitude.calls kj11 (a1.extract 1 a1.size) 10 t110 false _ A20.out).mono ?_); rintro e w' ⟨rfl, ⟨nd, rfl⟩⟩; refine ⟨_, rfl, ?_⟩))
                  go_ret3
                  exact ⟨by first | rfl | (simp; done) | (simp [*]; done), by repeat (first | exact Drawn0.refl _ | apply Drawn0.step)⟩
              · rw [if_neg c19] at H
                exact absurd H (by simp)

-- NOT PRINTED: function 85 (number_decimal)

-- NOT PRINTED: function 53 (number_printChar)

/-! ### number_isHex: function 87 -/
def number_isHex.f (a0 : ByteArray) : Option (Bool) := if (a0.size : Int) ≥ 2 then (if 0 < (a0.size : Int) then (if (bt a0 0) = 48 then (if 1 < (a0.size : Int) then (if (bt a0 1) = 120 then (some true) else (some ((bt a0 1) == 88))) else (none)) else (some false)) else (none)) else (some false)
set_option maxHeartbeats 8000000 in
set_option maxRecDepth 100000 in
theorem number_isHex.calls (a0 : ByteArray) (r : Bool) (w : World) (h : number_isHex.f a0 = some r) :
    Calls Tryz.prog 87 #[.string a0] w fun e w' => e = .returned (.bool r) ∧ Drawn0 w w' := by
  have H : (if (a0.size : Int) ≥ 2 then (if 0 < (a0.size : Int) then (if (bt a0 0) = 48 then (if 1 < (a0.size : Int) then (if (bt a0 1) = 120 then (some true) else (some ((bt a0 1) == 88))) else (none)) else (some false)) else (none)) else (some false)) = some r := h
  clear h
  by_cases c2 : (a0.size : Int) ≥ 2
  · rw [if_pos c2] at H
    have c2b0 : decide (2 ≤ (a0.size : Int)) = true := decide_eq_true c2
    have c2b1 : decide (2 ≤ a0.size) = true := decide_eq_true (by omega)
    clear c2
    by_cases c3 : 0 < (a0.size : Int)
    · rw [if_pos c3] at H
      have c3b0 : decide (0 < (a0.size : Int)) = true := decide_eq_true c3
      have c3b1 : decide (0 < a0.size) = true := decide_eq_true (by omega)
      clear c3
      by_cases c5 : (bt a0 0) = 48
      · rw [if_pos c5] at H
        have c5b0 : ((bt a0 0) == 48) = true := beq_iff_eq.mpr c5
        have c5b1 : ((bt a0 0) != 48) = false := bne_eq_false_iff_eq.mpr c5
        clear c5
        by_cases c6 : 1 < (a0.size : Int)
        · rw [if_pos c6] at H
          have c6b0 : decide (1 < (a0.size : Int)) = true := decide_eq_true c6
          have c6b1 : decide (1 < a0.size) = true := decide_eq_true (by omega)
          clear c6
          by_cases c8 : (bt a0 1) = 120
          · rw [if_pos c8] at H
            have c8b0 : ((bt a0 1) == 120) = true := beq_iff_eq.mpr c8
            have c8b1 : ((bt a0 1) != 120) = false := bne_eq_false_iff_eq.mpr c8
            clear c8
            obtain rfl := Option.some.inj H
            have p4 : 0 ≤ (0 : Int) := (by omega)
            have q4 : 0 < a0.size := (by have : (0 : Int) < (a0.size : Int) := of_decide_eq_true (by first | (with_reducible assumption) | assumption); omega)
            have hx4 : ∀ h : 0 < a0.size, ((a0[0]'h).toNat : Int) = bt a0 0 := bt_at a0 0
            clear p4
            have qi4 : (0 < (a0.size : Int)) = True := eq_true (of_decide_eq_true (by first | (with_reducible assumption) | assumption))
            replace q4 := eq_true q4
            have p7 : 0 ≤ (1 : Int) := (by omega)
            have q7 : 1 < a0.size := (by have : (1 : Int) < (a0.size : Int) := of_decide_eq_true (by first | (with_reducible assumption) | assumption); omega)
            have hx7 : ∀ h : 1 < a0.size, ((a0[1]'h).toNat : Int) = bt a0 1 := bt_at a0 1
            clear p7
            have qi7 : (1 < (a0.size : Int)) = True := eq_true (of_decide_eq_true (by first | (with_reducible assumption) | assumption))
            replace q7 := eq_true q7
            go_enter Tryz.func87, Tryz.ntmps87
            go_wp2
            go_ret
            exact ⟨by first | rfl | (simp; done) | (simp [*]; done), by repeat (first | exact Drawn0.refl _ | apply Drawn0.step)⟩
          · rw [if_neg c8] at H
            have c8b0 : ((bt a0 1) == 120) = false := beq_eq_false_iff_ne.mpr c8
            have c8b1 : ((bt a0 1) != 120) = true := bne_iff_ne.mpr c8
            obtain rfl := Option.some.inj H
            have p4 : 0 ≤ (0 : Int) := (by omega)
            have q4 : 0 < a0.size := (by have : (0 : Int) < (a0.size : Int) := of_decide_eq_true (by first | (with_reducible assumption) | assumption); omega)
            have hx4 : ∀ h : 0 < a0.size, ((a0[0]'h).toNat : Int) = bt a0 0 := bt_at a0 0
            clear p4
            have qi4 : (0 < (a0.size : Int)) = True := eq_true (of_decide_eq_true (by first | (with_reducible assumption) | assumption))
            replace q4 := eq_true q4
            have p7 : 0 ≤ (1 : Int) := (by omega)
            have q7 : 1 < a0.size := (by have : (1 : Int) < (a0.size : Int) := of_decide_eq_true (by first | (with_reducible assumption) | assumption); omega)
            have hx7 : ∀ h : 1 < a0.size, ((a0[1]'h).toNat : Int) = bt a0 1 := bt_at a0 1
            clear p7
            have qi7 : (1 < (a0.size : Int)) = True := eq_true (of_decide_eq_true (by first | (with_reducible assumption) | assumption))
            replace q7 := eq_true q7
            have p9 : 0 ≤ (1 : Int) := (by omega)
            have q9 : 1 < a0.size := (by have : (1 : Int) < (a0.size : Int) := of_decide_eq_true (by first | (with_reducible assumption) | assumption); omega)
            have hx9 : ∀ h : 1 < a0.size, ((a0[1]'h).toNat : Int) = bt a0 1 := bt_at a0 1
            clear p9
            have qi9 : (1 < (a0.size : Int)) = True := eq_true (of_decide_eq_true (by first | (with_reducible assumption) | assumption))
            replace q9 := eq_true q9
            go_enter Tryz.func87, Tryz.ntmps87
            go_wp2
            go_ret
            exact ⟨by first | rfl | (simp; done) | (simp [*]; done), by repeat (first | exact Drawn0.refl _ | apply Drawn0.step)⟩
        · rw [if_neg c6] at H
          exact absurd H (by simp)
      · rw [if_neg c5] at H
        have c5b0 : ((bt a0 0) == 48) = false := beq_eq_false_iff_ne.mpr c5
        have c5b1 : ((bt a0 0) != 48) = true := bne_iff_ne.mpr c5
        obtain rfl := Option.some.inj H
        have p4 : 0 ≤ (0 : Int) := (by omega)
        have q4 : 0 < a0.size := (by have : (0 : Int) < (a0.size : Int) := of_decide_eq_true (by first | (with_reducible assumption) | assumption); omega)
        have hx4 : ∀ h : 0 < a0.size, ((a0[0]'h).toNat : Int) = bt a0 0 := bt_at a0 0
        clear p4
        have qi4 : (0 < (a0.size : Int)) = True := eq_true (of_decide_eq_true (by first | (with_reducible assumption) | assumption))
        replace q4 := eq_true q4
        go_enter Tryz.func87, Tryz.ntmps87
        go_wp2
        go_ret
        exact ⟨by first | rfl | (simp; done) | (simp [*]; done), by repeat (first | exact Drawn0.refl _ | apply Drawn0.step)⟩
    · rw [if_neg c3] at H
      exact absurd H (by simp)
  · rw [if_neg c2] at H
    have c2b0 : decide (2 ≤ (a0.size : Int)) = false := decide_eq_false c2
    have c2b1 : decide (2 ≤ a0.size) = false := decide_eq_false (by omega)
    clear c2
    obtain rfl := Option.some.inj H
    go_enter Tryz.func87, Tryz.ntmps87
    go_wp2
    go_ret
    exact ⟨by first | rfl | (simp; done) | (simp [*]; done), by repeat (first | exact Drawn0.refl _ | apply Drawn0.step)⟩

-- NOT PRINTED: function 106 (prim_Signed)

-- NOT PRINTED: function 56 (number_parseWhole)

-- NOT PRINTED: function 57 (number_printWhole)

-- NOT PRINTED: function 27 (number_kindOf)

-- NOT PRINTED: function 8 (number_Print)

/-! ### stencilref01_Signed: function 31 -/
def stencilref01_Signed.f (a0 : Int) : Option (Bool) := if a0 ≥ 1 then (some (decide (a0 ≤ 4))) else (some false)
set_option maxHeartbeats 8000000 in
set_option maxRecDepth 100000 in
theorem stencilref01_Signed.calls (a0 : Int) (r : Bool) (w : World) (h : stencilref01_Signed.f a0 = some r) :
    Calls Tryz.prog 31 #[.int .i64 a0] w fun e w' => e = .returned (.bool r) ∧ Drawn0 w w' := by
  have H : (if a0 ≥ 1 then (some (decide (a0 ≤ 4))) else (some false)) = some r := h
  clear h
  by_cases c2 : a0 ≥ 1
  · rw [if_pos c2] at H
    have c2b0 : decide (1 ≤ a0) = true := decide_eq_true c2
    clear c2
    obtain rfl := Option.some.inj H
    go_enter Tryz.func31, Tryz.ntmps31
    go_wp2
    go_ret
    exact ⟨by first | rfl | (simp; done) | (simp [*]; done), by repeat (first | exact Drawn0.refl _ | apply Drawn0.step)⟩
  · rw [if_neg c2] at H
    have c2b0 : decide (1 ≤ a0) = false := decide_eq_false c2
    clear c2
    obtain rfl := Option.some.inj H
    go_enter Tryz.func31, Tryz.ntmps31
    go_wp2
    go_ret
    exact ⟨by first | rfl | (simp; done) | (simp [*]; done), by repeat (first | exact Drawn0.refl _ | apply Drawn0.step)⟩

/-! ### stencilref01_Size: function 58 -/
mutual
def stencilref01_Size.j0 : Nat → Int → Bool → Option (Int)
  | 0, _, _ => none
  | k + 1, x3, x4 => if x4 = true then (some 1) else (if x3 = 2 then (stencilref01_Size.j1 k x3 (x3 == 2)) else (stencilref01_Size.j1 k x3 (x3 == 6)))
def stencilref01_Size.j1 : Nat → Int → Bool → Option (Int)
  | 0, _, _ => none
  | k + 1, x3, x8 => if x8 = true then (some 2) else (if x3 = 3 then (stencilref01_Size.j2 k x3 (x3 == 3)) else (if x3 = 7 then (stencilref01_Size.j2 k x3 (x3 == 7)) else (stencilref01_Size.j2 k x3 (x3 == 9))))
def stencilref01_Size.j2 : Nat → Int → Bool → Option (Int)
  | 0, _, _ => none
  | k + 1, x3, x11 => if x11 = true then (some 4) else (if x3 = 4 then (some 8) else (if x3 = 8 then (some 8) else (if x3 = 10 then (some 8) else (some 0))))
end
def stencilref01_Size.f (k : Nat) (a0 : Int) : Option (Int) := if a0 = 0 then (stencilref01_Size.j0 k a0 (a0 == 0)) else (if a0 = 1 then (stencilref01_Size.j0 k a0 (a0 == 1)) else (stencilref01_Size.j0 k a0 (a0 == 5)))
theorem stencilref01_Size.mono_l : ∀ k, (∀ y0 y1, LeO (stencilref01_Size.j0 k y0 y1) (stencilref01_Size.j0 (k + 1) y0 y1)) ∧ (∀ y0 y1, LeO (stencilref01_Size.j1 k y0 y1) (stencilref01_Size.j1 (k + 1) y0 y1)) ∧ (∀ y0 y1, LeO (stencilref01_Size.j2 k y0 y1) (stencilref01_Size.j2 (k + 1) y0 y1))
  | 0 => ⟨fun _ _ r h => by simp [stencilref01_Size.j0] at h, fun _ _ r h => by simp [stencilref01_Size.j1] at h, fun _ _ r h => by simp [stencilref01_Size.j2] at h⟩
  | k + 1 => by
    obtain ⟨ih0, ih1, ih2⟩ := stencilref01_Size.mono_l k
    refine ⟨?_, ?_, ?_⟩
    · intro y0 y1
      unfold stencilref01_Size.j0
      repeat' first
      | (with_reducible exact ih0 _ _)
      | (with_reducible exact ih1 _ _)
      | (with_reducible exact ih2 _ _)
      | (with_reducible exact LeO.refl _)
      | (with_reducible exact LeO.none _)
      | (with_reducible refine LeO.ite ?_ ?_)
      | (with_reducible refine LeO.bind ?_ (fun _ => ?_))
      | exact ih0 _ _
      | exact ih1 _ _
      | exact ih2 _ _
      | exact LeO.none _
      | refine LeO.ite ?_ ?_
      | refine LeO.bind ?_ (fun _ => ?_)
    · intro y0 y1
      unfold stencilref01_Size.j1
      repeat' first
      | (with_reducible exact ih0 _ _)
      | (with_reducible exact ih1 _ _)
      | (with_reducible exact ih2 _ _)
      | (with_reducible exact LeO.refl _)
      | (with_reducible exact LeO.none _)
      | (with_reducible refine LeO.ite ?_ ?_)
      | (with_reducible refine LeO.bind ?_ (fun _ => ?_))
      | exact ih0 _ _
      | exact ih1 _ _
      | exact ih2 _ _
      | exact LeO.none _
      | refine LeO.ite ?_ ?_
      | refine LeO.bind ?_ (fun _ => ?_)
    · intro y0 y1
      unfold stencilref01_Size.j2
      repeat' first
      | (with_reducible exact ih0 _ _)
      | (with_reducible exact ih1 _ _)
      | (with_reducible exact ih2 _ _)
      | (with_reducible exact LeO.refl _)
      | (with_reducible exact LeO.none _)
      | (with_reducible refine LeO.ite ?_ ?_)
      | (with_reducible refine LeO.bind ?_ (fun _ => ?_))
      | exact ih0 _ _
      | exact ih1 _ _
      | exact ih2 _ _
      | exact LeO.none _
      | refine LeO.ite ?_ ?_
      | refine LeO.bind ?_ (fun _ => ?_)
theorem stencilref01_Size.mono : ∀ a0 k, LeO (stencilref01_Size.f k a0) (stencilref01_Size.f (k + 1) a0) := by
  intro a0 k
  obtain ⟨ih0, ih1, ih2⟩ := stencilref01_Size.mono_l k
  unfold stencilref01_Size.f
  repeat' first
      | (with_reducible exact ih0 _ _)
      | (with_reducible exact ih1 _ _)
      | (with_reducible exact ih2 _ _)
      | (with_reducible exact LeO.refl _)
      | (with_reducible exact LeO.none _)
      | (with_reducible refine LeO.ite ?_ ?_)
      | (with_reducible refine LeO.bind ?_ (fun _ => ?_))
      | exact ih0 _ _
      | exact ih1 _ _
      | exact ih2 _ _
      | exact LeO.none _
      | refine LeO.ite ?_ ?_
      | refine LeO.bind ?_ (fun _ => ?_)
set_option maxHeartbeats 8000000 in
set_option maxRecDepth 100000 in
theorem stencilref01_Size.calls (k : Nat) (a0 : Int) (r : Int) (w : World) (h : stencilref01_Size.f k a0 = some r) :
    Calls Tryz.prog 58 #[.int .i64 a0] w fun e w' => e = .returned (.int .i64 r) ∧ Drawn0 w w' := by
  have H : (if a0 = 0 then (stencilref01_Size.j0 k a0 (a0 == 0)) else (if a0 = 1 then (stencilref01_Size.j0 k a0 (a0 == 1)) else (stencilref01_Size.j0 k a0 (a0 == 5)))) = some r := h
  clear h
  have HC2 := Aside0.mk H
  clear H
  go_enter Tryz.func58, Tryz.ntmps58
  go_upto_if 4 with (fail)
  go_cut [4] (fun v4 wc => ∃ (kq : Nat) (x4_1 : Bool), v4 = .bool x4_1 ∧ Aside0 (stencilref01_Size.j0 kq a0 x4_1 = some r) ∧ Aside0 (kq ≤ k) ∧ Drawn0 w wc)
  case first =>
    have H := HC2.out
    clear HC2
    by_cases c3 : a0 = 0
    · rw [if_pos c3] at H
      have c3b0 : (a0 == 0) = true := beq_iff_eq.mpr c3
      have c3b1 : (a0 != 0) = false := bne_eq_false_iff_eq.mpr c3
      clear c3
      (first | rw [c3b0] | (simp only [i64_w, i32_w]; rw [c3b0]) | skip)
      have H' := Aside0.mk H
      clear H
      go_wp2
      go_meet
      case rel => exact ⟨_, ((a0 == 0)), (by first | rfl | (simp; done) | (simp [*]; done)), H', ⟨by first | omega | exact Nat.le_refl _⟩, by repeat (first | exact Drawn0.refl _ | apply Drawn0.step)⟩
    · rw [if_neg c3] at H
      have c3b0 : (a0 == 0) = false := beq_eq_false_iff_ne.mpr c3
      have c3b1 : (a0 != 0) = true := bne_iff_ne.mpr c3
      (first | rw [c3b0] | (simp only [i64_w, i32_w]; rw [c3b0]) | skip)
      by_cases c4 : a0 = 1
      · rw [if_pos c4] at H
        have c4b0 : (a0 == 1) = true := beq_iff_eq.mpr c4
        have c4b1 : (a0 != 1) = false := bne_eq_false_iff_eq.mpr c4
        clear c4
        have H' := Aside0.mk H
        clear H
        go_wp2
        go_meet
        case rel => exact ⟨_, ((a0 == 1)), (by first | rfl | (simp; done) | (simp [*]; done)), H', ⟨by first | omega | exact Nat.le_refl _⟩, by repeat (first | exact Drawn0.refl _ | apply Drawn0.step)⟩
      · rw [if_neg c4] at H
        have c4b0 : (a0 == 1) = false := beq_eq_false_iff_ne.mpr c4
        have c4b1 : (a0 != 1) = true := bne_iff_ne.mpr c4
        have H' := Aside0.mk H
        clear H
        go_wp2
        go_meet
        case rel => exact ⟨_, ((a0 == 5)), (by first | rfl | (simp; done) | (simp [*]; done)), H', ⟨by first | omega | exact Nat.le_refl _⟩, by repeat (first | exact Drawn0.refl _ | apply Drawn0.step)⟩
  case rest =>
    clear HC2
    try clear p2
    try clear c3
    try clear c3b0
    try clear c3b1
    try clear c4
    try clear c4b0
    try clear c4b1
    obtain ⟨kq, x4_1, rfl, HA, HJ1, ⟨mc1, rfl⟩⟩ := hcut
    cases kq with
    | zero => exact absurd HA.out (by simp [stencilref01_Size.j0])
    | succ kj1 =>
      have H := HA.out
      clear HA
      simp only [stencilref01_Size.j0] at H
      by_cases c5 : x4_1 = true
      · subst c5
        have H1 : (some 1) = some r := by rw [if_pos rfl] at H; exact H
        clear H
        have H := H1
        clear H1
        obtain rfl := Option.some.inj H
        go_wp2
        go_ret
        exact ⟨by first | rfl | (simp; done) | (simp [*]; done), by repeat (first | exact Drawn0.refl _ | apply Drawn0.step)⟩
      · replace c5 := Bool.eq_false_iff.mpr c5
        subst c5
        have H1 : (if a0 = 2 then (stencilref01_Size.j1 kj1 a0 (a0 == 2)) else (stencilref01_Size.j1 kj1 a0 (a0 == 6))) = some r := by rw [if_neg (show ¬ (false = true) by decide)] at H; exact H
        clear H
        have H := H1
        clear H1
        have HC6 := Aside0.mk H
        clear H
        go_upto_if 8 with (fail)
        go_cut [8] (fun v8 wc => ∃ (kq : Nat) (x8_5 : Bool), v8 = .bool x8_5 ∧ Aside0 (stencilref01_Size.j1 kq a0 x8_5 = some r) ∧ Aside0 (kq ≤ kj1) ∧ Drawn0 w wc)
        case first =>
          have H := HC6.out
          clear HC6
          by_cases c7 : a0 = 2
          · rw [if_pos c7] at H
            have c7b0 : (a0 == 2) = true := beq_iff_eq.mpr c7
            have c7b1 : (a0 != 2) = false := bne_eq_false_iff_eq.mpr c7
            clear c7
            (first | rw [c7b0] | (simp only [i64_w, i32_w]; rw [c7b0]) | skip)
            have H' := Aside0.mk H
            clear H
            go_wp2
            go_meet
            case rel => exact ⟨_, ((a0 == 2)), (by first | rfl | (simp; done) | (simp [*]; done)), H', ⟨by have := HJ1.out; first | omega | exact Nat.le_refl _⟩, by repeat (first | exact Drawn0.refl _ | apply Drawn0.step)⟩
          · rw [if_neg c7] at H
            have c7b0 : (a0 == 2) = false := beq_eq_false_iff_ne.mpr c7
            have c7b1 : (a0 != 2) = true := bne_iff_ne.mpr c7
            (first | rw [c7b0] | (simp only [i64_w, i32_w]; rw [c7b0]) | skip)
            have H' := Aside0.mk H
            clear H
            go_wp2
            go_meet
            case rel => exact ⟨_, ((a0 == 6)), (by first | rfl | (simp; done) | (simp [*]; done)), H', ⟨by have := HJ1.out; first | omega | exact Nat.le_refl _⟩, by repeat (first | exact Drawn0.refl _ | apply Drawn0.step)⟩
        case rest =>
          clear HC6
          try clear c1
          try clear p2
          try clear c3
          try clear c3b0
          try clear c3b1
          try clear c4
          try clear c4b0
          try clear c4b1
          try clear c5
          try clear c7
          try clear c7b0
          try clear c7b1
          try clear p2
          obtain ⟨kq, x8_5, rfl, HA, HJ5, ⟨mc5, rfl⟩⟩ := hcut
          cases kq with
          | zero => exact absurd HA.out (by simp [stencilref01_Size.j1])
          | succ kj5 =>
            have H := HA.out
            clear HA
            simp only [stencilref01_Size.j1] at H
            by_cases c8 : x8_5 = true
            · subst c8
              have H1 : (some 2) = some r := by rw [if_pos rfl] at H; exact H
              clear H
              have H := H1
              clear H1
              obtain rfl := Option.some.inj H
              go_wp2
              go_ret
              exact ⟨by first | rfl | (simp; done) | (simp [*]; done), by repeat (first | exact Drawn0.refl _ | apply Drawn0.step)⟩
            · replace c8 := Bool.eq_false_iff.mpr c8
              subst c8
              have H1 : (if a0 = 3 then (stencilref01_Size.j2 kj5 a0 (a0 == 3)) else (if a0 = 7 then (stencilref01_Size.j2 kj5 a0 (a0 == 7)) else (stencilref01_Size.j2 kj5 a0 (a0 == 9)))) = some r := by rw [if_neg (show ¬ (false = true) by decide)] at H; exact H
              clear H
              have H := H1
              clear H1
              have HC9 := Aside0.mk H
              clear H
              go_upto_if 11 with (fail)
              go_cut [11] (fun v11 wc => ∃ (kq : Nat) (x11_8 : Bool), v11 = .bool x11_8 ∧ Aside0 (stencilref01_Size.j2 kq a0 x11_8 = some r) ∧ Aside0 (kq ≤ kj5) ∧ Drawn0 w wc)
              case first =>
                have H := HC9.out
                clear HC9
                by_cases c10 : a0 = 3
                · rw [if_pos c10] at H
                  have c10b0 : (a0 == 3) = true := beq_iff_eq.mpr c10
                  have c10b1 : (a0 != 3) = false := bne_eq_false_iff_eq.mpr c10
                  clear c10
                  (first | rw [c10b0] | (simp only [i64_w, i32_w]; rw [c10b0]) | skip)
                  have H' := Aside0.mk H
                  clear H
                  go_wp2
                  go_meet
                  case rel => exact ⟨_, ((a0 == 3)), (by first | rfl | (simp; done) | (simp [*]; done)), H', ⟨by have := HJ1.out; have := HJ5.out; first | omega | exact Nat.le_refl _⟩, by repeat (first | exact Drawn0.refl _ | apply Drawn0.step)⟩
                · rw [if_neg c10] at H
                  have c10b0 : (a0 == 3) = false := beq_eq_false_iff_ne.mpr c10
                  have c10b1 : (a0 != 3) = true := bne_iff_ne.mpr c10
                  (first | rw [c10b0] | (simp only [i64_w, i32_w]; rw [c10b0]) | skip)
                  by_cases c11 : a0 = 7
                  · rw [if_pos c11] at H
                    have c11b0 : (a0 == 7) = true := beq_iff_eq.mpr c11
                    have c11b1 : (a0 != 7) = false := bne_eq_false_iff_eq.mpr c11
                    clear c11
                    have H' := Aside0.mk H
                    clear H
                    go_wp2
                    go_meet
                    case rel => exact ⟨_, ((a0 == 7)), (by first | rfl | (simp; done) | (simp [*]; done)), H', ⟨by have := HJ1.out; have := HJ5.out; first | omega | exact Nat.le_refl _⟩, by repeat (first | exact Drawn0.refl _ | apply Drawn0.step)⟩
                  · rw [if_neg c11] at H
                    have c11b0 : (a0 == 7) = false := beq_eq_false_iff_ne.mpr c11
                    have c11b1 : (a0 != 7) = true := bne_iff_ne.mpr c11
                    have H' := Aside0.mk H
                    clear H
                    go_wp2
                    go_meet
                    case rel => exact ⟨_, ((a0 == 9)), (by first | rfl | (simp; done) | (simp [*]; done)), H', ⟨by have := HJ1.out; have := HJ5.out; first | omega | exact Nat.le_refl _⟩, by repeat (first | exact Drawn0.refl _ | apply Drawn0.step)⟩
              case rest =>
                clear HC9
                try clear c1
                try clear p2
                try clear c3
                try clear c3b0
                try clear c3b1
                try clear c4
                try clear c4b0
                try clear c4b1
                try clear c5
                try clear c7
                try clear c7b0
                try clear c7b1
                try clear c8
                try clear c10
                try clear c10b0
                try clear c10b1
                try clear c11
                try clear c11b0
                try clear c11b1
                try clear p2
                obtain ⟨kq, x11_8, rfl, HA, HJ8, ⟨mc8, rfl⟩⟩ := hcut
                cases kq with
                | zero => exact absurd HA.out (by simp [stencilref01_Size.j2])
                | succ kj8 =>
                  have H := HA.out
                  clear HA
                  simp only [stencilref01_Size.j2] at H
                  by_cases c12 : x11_8 = true
                  · subst c12
                    have H1 : (some 4) = some r := by rw [if_pos rfl] at H; exact H
                    clear H
                    have H := H1
                    clear H1
                    obtain rfl := Option.some.inj H
                    go_wp2
                    go_ret
                    exact ⟨by first | rfl | (simp; done) | (simp [*]; done), by repeat (first | exact Drawn0.refl _ | apply Drawn0.step)⟩
                  · replace c12 := Bool.eq_false_iff.mpr c12
                    subst c12
                    have H1 : (if a0 = 4 then (some 8) else (if a0 = 8 then (some 8) else (if a0 = 10 then (some 8) else (some 0)))) = some r := by rw [if_neg (show ¬ (false = true) by decide)] at H; exact H
                    clear H
                    have H := H1
                    clear H1
                    by_cases c13 : a0 = 4
                    · rw [if_pos c13] at H
                      have c13b0 : (a0 == 4) = true := beq_iff_eq.mpr c13
                      have c13b1 : (a0 != 4) = false := bne_eq_false_iff_eq.mpr c13
                      clear c13
                      obtain rfl := Option.some.inj H
                      go_wp2
                      go_ret
                      exact ⟨by first | rfl | (simp; done) | (simp [*]; done), by repeat (first | exact Drawn0.refl _ | apply Drawn0.step)⟩
                    · rw [if_neg c13] at H
                      have c13b0 : (a0 == 4) = false := beq_eq_false_iff_ne.mpr c13
                      have c13b1 : (a0 != 4) = true := bne_iff_ne.mpr c13
                      by_cases c14 : a0 = 8
                      · rw [if_pos c14] at H
                        have c14b0 : (a0 == 8) = true := beq_iff_eq.mpr c14
                        have c14b1 : (a0 != 8) = false := bne_eq_false_iff_eq.mpr c14
                        clear c14
                        obtain rfl := Option.some.inj H
                        go_wp2
                        go_ret
                        exact ⟨by first | rfl | (simp; done) | (simp [*]; done), by repeat (first | exact Drawn0.refl _ | apply Drawn0.step)⟩
                      · rw [if_neg c14] at H
                        have c14b0 : (a0 == 8) = false := beq_eq_false_iff_ne.mpr c14
                        have c14b1 : (a0 != 8) = true := bne_iff_ne.mpr c14
                        by_cases c15 : a0 = 10
                        · rw [if_pos c15] at H
                          have c15b0 : (a0 == 10) = true := beq_iff_eq.mpr c15
                          have c15b1 : (a0 != 10) = false := bne_eq_false_iff_eq.mpr c15
                          clear c15
                          obtain rfl := Option.some.inj H
                          go_wp2
                          go_ret
                          exact ⟨by first | rfl | (simp; done) | (simp [*]; done), by repeat (first | exact Drawn0.refl _ | apply Drawn0.step)⟩
                        · rw [if_neg c15] at H
                          have c15b0 : (a0 == 10) = false := beq_eq_false_iff_ne.mpr c15
                          have c15b1 : (a0 != 10) = true := bne_iff_ne.mpr c15
                          obtain rfl := Option.some.inj H
                          go_wp2
                          go_ret
                          exact ⟨by first | rfl | (simp; done) | (simp [*]; done), by repeat (first | exact Drawn0.refl _ | apply Drawn0.step)⟩

end Go.Proofs.YtepfodmbjojdbaaGreatDoor.PNumberPrints
