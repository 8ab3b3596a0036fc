/- NumberPrints: contracts of the program's and the reference's small functions on words, and of decimal's printing. No conditions beyond each theorem's own. -/
import Derived.Test.YtepfodmbjojdbaaGreatDoorPNumberPrintsx1
import Derived.Test.YtepfodmbjojdbaaGreatDoorPNumberPrintsx2
import Derived.Test.YtepfodmbjojdbaaGreatDoorPNumberPrintsx3
import Derived.Test.YtepfodmbjojdbaaGreatDoorPNumberPrintsx5
set_option linter.all false
namespace Go.Proofs.YtepfodmbjojdbaaGreatDoor.Num
open Go Go.RowKit YtepfodmbjojdbaaGreatDoorW.PrintWords YtepfodmbjojdbaaGreatDoorW.PrintMore PNumberPrints
abbrev Rt (w : World) (v : Value) : Ending → World → Prop := fun e w' => e = .returned v ∧ Below w.heap.size w w'
abbrev Re (w : World) (v : Value) : Ending → World → Prop := fun e w' => e = .returned v ∧ w' = w
abbrev Rdw (w : World) (v : Value) : Ending → World → Prop := fun e w' => e = .returned v ∧ Drawn0 w w'
theorem w64 {x : Int} (h : -9223372036854775808 ≤ x ∧ x < 9223372036854775808) : wrap64 x = x := by unfold wrap64; omega
theorem wu64_eq (x : Int) : IntKind.u64.wrap x = x % 18446744073709551616 := by simp [IntKind.wrap, IntKind.signed, IntKind.bits]
theorem wu64 {x : Int} (h : 0 ≤ x ∧ x < 18446744073709551616) : IntKind.u64.wrap x = x := by rw [wu64_eq]; omega
theorem rd_nat (xs : List Int) (n : Nat) : rd xs (n : Int) = xs.getD n 0 := by simp [rd]
theorem evIf {α : Type} {c : Prop} [Decidable c] {f g : Nat → Option α} {r : α} (h : c) (k : Ev f r) : Ev (fun n => if c then f n else g n) r := by
 refine Ev.congr (fun _ => if_pos h) k
theorem evElse {α : Type} {c : Prop} [Decidable c] {f g : Nat → Option α} {r : α} (h : ¬ c) (k : Ev g r) : Ev (fun n => if c then f n else g n) r := by
 refine Ev.congr (fun _ => if_neg h) k
theorem bcell {W w1 : World} (hb : Below W.heap.size W w1) : (∀ b o, b < W.heap.size → w1.cell? ⟨b, o, none⟩ = W.cell? ⟨b, o, none⟩) ∧ (∀ b o, b < W.heap.size → w1.frozen? ⟨b, o, none⟩ = W.frozen? ⟨b, o, none⟩) :=
 ⟨fun b o h => hb.cell (p := ⟨b, o, none⟩) h, fun b o h => hb.frozen (p := ⟨b, o, none⟩) h⟩
section
set_option maxHeartbeats 400000
def rowV (r : Int × Bool × Bool × Int × Int × Int) : Value := .agg #[.int .i64 r.1, .bool r.2.1, .bool r.2.2.1, .int .u64 r.2.2.2.1, .int .u64 r.2.2.2.2.1, .int .u64 r.2.2.2.2.2]
def rowOf (p : Int) : Int × Bool × Bool × Int × Int × Int :=
 if p = 0 then (1, false, false, 0, 32, 126) else
 if p = 1 then (1, true, false, 18446744073709551488, 18446744073709551489, 127) else
 if p = 2 then (2, true, false, 18446744073709518848, 18446744073709518849, 32767) else
 if p = 3 then (4, true, false, 18446744071562067968, 18446744071562067969, 2147483647) else
 if p = 4 then (8, true, false, 9223372036854775808, 9223372036854775809, 9223372036854775807) else
 if p = 5 then (1, false, false, 255, 0, 254) else
 if p = 6 then (2, false, false, 65535, 0, 65534) else
 if p = 7 then (4, false, false, 4294967295, 0, 4294967294) else
 if p = 8 then (8, false, false, 18446744073709551615, 0, 18446744073709551614) else
 if p = 9 then (4, false, true, 2143289344, 0, 4294967295) else
 if p = 10 then (8, false, true, 9221120237041090560, 0, 18446744073709551615) else
 (0, false, false, 0, 0, 0)
def sizeAt : Nat → Int
 | 0 => 1 | 1 => 1 | 2 => 2 | 3 => 4 | 4 => 8 | 5 => 1 | 6 => 2 | 7 => 4 | 8 => 8 | 9 => 4 | 10 => 8 | _ => 0
structure SizesAt (w : World) : Prop where
 pos : 0 < w.heap.size
 cell : ∀ i, i < 11 → w.cell? ⟨0, i, none⟩ = some (.int .i64 (sizeAt i))
theorem SizesAt.below {w w' : World} (h : SizesAt w) (hb : Below w.heap.size w w') : SizesAt w' :=
 ⟨Nat.lt_of_lt_of_le h.pos hb.size, fun i hi => by rw [hb.cell (p := ⟨0, i, none⟩) h.pos]; exact h.cell i hi⟩
theorem of_0 (w : World) (h0 : 0 < w.heap.size) (h1 : w.cell? ⟨0, 0, none⟩ = some (.int .i64 1)) : Calls Tryz.prog 47 #[.int .i64 0] w (Rt w (rowV (1, false, false, 0, 32, 126))) := by
 go_enter Tryz.func47, Tryz.ntmps47
 go_wp2_with fail
 exact bodyPost_ret (v := rowV (1, false, false, 0, 32, 126)) (by simp [results, Tryz.results47, go_sem]; rfl) rfl ⟨rfl, by exact (Below.refl _ _).alloc (Nat.le_refl _) _⟩
theorem sg1 : prim_signed.f 1 = some (1, true, false, 18446744073709551488, 18446744073709551489, 127) := by decide +kernel
theorem of_1 (w : World) (h0 : 0 < w.heap.size) (h1 : w.cell? ⟨0, 1, none⟩ = some (.int .i64 1)) : Calls Tryz.prog 47 #[.int .i64 1] w (Rt w (rowV (1, true, false, 18446744073709551488, 18446744073709551489, 127))) := by
 go_enter Tryz.func47, Tryz.ntmps47
 go_wp2_with fail
 refine (prim_signed.calls _ _ _ _ _ _ _ _ sg1).mono ?_
 rintro e w1 ⟨rfl, hb⟩
 obtain ⟨hc, hf⟩ := bcell hb
 go_wp2_with fail
 exact bodyPost_ret (v := rowV (1, true, false, 18446744073709551488, 18446744073709551489, 127)) (by simp [results, Tryz.results47, go_sem, hc]; rfl) rfl ⟨rfl, by (repeat (refine Below.setCell ?_ (by simp) _)); exact ((Below.refl _ _).alloc (Nat.le_refl _) _).trans (hb.mono (by simp))⟩
theorem sg2 : prim_signed.f 2 = some (2, true, false, 18446744073709518848, 18446744073709518849, 32767) := by decide +kernel
theorem of_2 (w : World) (h0 : 0 < w.heap.size) (h1 : w.cell? ⟨0, 2, none⟩ = some (.int .i64 2)) : Calls Tryz.prog 47 #[.int .i64 2] w (Rt w (rowV (2, true, false, 18446744073709518848, 18446744073709518849, 32767))) := by
 go_enter Tryz.func47, Tryz.ntmps47
 go_wp2_with fail
 refine (prim_signed.calls _ _ _ _ _ _ _ _ sg2).mono ?_
 rintro e w1 ⟨rfl, hb⟩
 obtain ⟨hc, hf⟩ := bcell hb
 go_wp2_with fail
 exact bodyPost_ret (v := rowV (2, true, false, 18446744073709518848, 18446744073709518849, 32767)) (by simp [results, Tryz.results47, go_sem, hc]; rfl) rfl ⟨rfl, by (repeat (refine Below.setCell ?_ (by simp) _)); exact ((Below.refl _ _).alloc (Nat.le_refl _) _).trans (hb.mono (by simp))⟩
theorem sg3 : prim_signed.f 4 = some (4, true, false, 18446744071562067968, 18446744071562067969, 2147483647) := by decide +kernel
theorem of_3 (w : World) (h0 : 0 < w.heap.size) (h1 : w.cell? ⟨0, 3, none⟩ = some (.int .i64 4)) : Calls Tryz.prog 47 #[.int .i64 3] w (Rt w (rowV (4, true, false, 18446744071562067968, 18446744071562067969, 2147483647))) := by
 go_enter Tryz.func47, Tryz.ntmps47
 go_wp2_with fail
 refine (prim_signed.calls _ _ _ _ _ _ _ _ sg3).mono ?_
 rintro e w1 ⟨rfl, hb⟩
 obtain ⟨hc, hf⟩ := bcell hb
 go_wp2_with fail
 exact bodyPost_ret (v := rowV (4, true, false, 18446744071562067968, 18446744071562067969, 2147483647)) (by simp [results, Tryz.results47, go_sem, hc]; rfl) rfl ⟨rfl, by (repeat (refine Below.setCell ?_ (by simp) _)); exact ((Below.refl _ _).alloc (Nat.le_refl _) _).trans (hb.mono (by simp))⟩
theorem sg4 : prim_signed.f 8 = some (8, true, false, 9223372036854775808, 9223372036854775809, 9223372036854775807) := by decide +kernel
theorem of_4 (w : World) (h0 : 0 < w.heap.size) (h1 : w.cell? ⟨0, 4, none⟩ = some (.int .i64 8)) : Calls Tryz.prog 47 #[.int .i64 4] w (Rt w (rowV (8, true, false, 9223372036854775808, 9223372036854775809, 9223372036854775807))) := by
 go_enter Tryz.func47, Tryz.ntmps47
 go_wp2_with fail
 refine (prim_signed.calls _ _ _ _ _ _ _ _ sg4).mono ?_
 rintro e w1 ⟨rfl, hb⟩
 obtain ⟨hc, hf⟩ := bcell hb
 go_wp2_with fail
 exact bodyPost_ret (v := rowV (8, true, false, 9223372036854775808, 9223372036854775809, 9223372036854775807)) (by simp [results, Tryz.results47, go_sem, hc]; rfl) rfl ⟨rfl, by (repeat (refine Below.setCell ?_ (by simp) _)); exact ((Below.refl _ _).alloc (Nat.le_refl _) _).trans (hb.mono (by simp))⟩
theorem us5 : prim_unsigned.f 1 = some (1, false, false, 255, 0, 254) := by decide +kernel
theorem of_5 (w : World) (h0 : 0 < w.heap.size) (h1 : w.cell? ⟨0, 5, none⟩ = some (.int .i64 1)) : Calls Tryz.prog 47 #[.int .i64 5] w (Rt w (rowV (1, false, false, 255, 0, 254))) := by
 go_enter Tryz.func47, Tryz.ntmps47
 go_wp2_with fail
 refine (prim_unsigned.calls _ _ _ _ _ _ _ _ us5).mono ?_
 rintro e w1 ⟨rfl, hb⟩
 obtain ⟨hc, hf⟩ := bcell hb
 go_wp2_with fail
 exact bodyPost_ret (v := rowV (1, false, false, 255, 0, 254)) (by simp [results, Tryz.results47, go_sem, hc]; rfl) rfl ⟨rfl, by (repeat (refine Below.setCell ?_ (by simp) _)); exact ((Below.refl _ _).alloc (Nat.le_refl _) _).trans (hb.mono (by simp))⟩
theorem us6 : prim_unsigned.f 2 = some (2, false, false, 65535, 0, 65534) := by decide +kernel
theorem of_6 (w : World) (h0 : 0 < w.heap.size) (h1 : w.cell? ⟨0, 6, none⟩ = some (.int .i64 2)) : Calls Tryz.prog 47 #[.int .i64 6] w (Rt w (rowV (2, false, false, 65535, 0, 65534))) := by
 go_enter Tryz.func47, Tryz.ntmps47
 go_wp2_with fail
 refine (prim_unsigned.calls _ _ _ _ _ _ _ _ us6).mono ?_
 rintro e w1 ⟨rfl, hb⟩
 obtain ⟨hc, hf⟩ := bcell hb
 go_wp2_with fail
 exact bodyPost_ret (v := rowV (2, false, false, 65535, 0, 65534)) (by simp [results, Tryz.results47, go_sem, hc]; rfl) rfl ⟨rfl, by (repeat (refine Below.setCell ?_ (by simp) _)); exact ((Below.refl _ _).alloc (Nat.le_refl _) _).trans (hb.mono (by simp))⟩
theorem us7 : prim_unsigned.f 4 = some (4, false, false, 4294967295, 0, 4294967294) := by decide +kernel
theorem of_7 (w : World) (h0 : 0 < w.heap.size) (h1 : w.cell? ⟨0, 7, none⟩ = some (.int .i64 4)) : Calls Tryz.prog 47 #[.int .i64 7] w (Rt w (rowV (4, false, false, 4294967295, 0, 4294967294))) := by
 go_enter Tryz.func47, Tryz.ntmps47
 go_wp2_with fail
 refine (prim_unsigned.calls _ _ _ _ _ _ _ _ us7).mono ?_
 rintro e w1 ⟨rfl, hb⟩
 obtain ⟨hc, hf⟩ := bcell hb
 go_wp2_with fail
 exact bodyPost_ret (v := rowV (4, false, false, 4294967295, 0, 4294967294)) (by simp [results, Tryz.results47, go_sem, hc]; rfl) rfl ⟨rfl, by (repeat (refine Below.setCell ?_ (by simp) _)); exact ((Below.refl _ _).alloc (Nat.le_refl _) _).trans (hb.mono (by simp))⟩
theorem us8 : prim_unsigned.f 8 = some (8, false, false, 18446744073709551615, 0, 18446744073709551614) := by decide +kernel
theorem of_8 (w : World) (h0 : 0 < w.heap.size) (h1 : w.cell? ⟨0, 8, none⟩ = some (.int .i64 8)) : Calls Tryz.prog 47 #[.int .i64 8] w (Rt w (rowV (8, false, false, 18446744073709551615, 0, 18446744073709551614))) := by
 go_enter Tryz.func47, Tryz.ntmps47
 go_wp2_with fail
 refine (prim_unsigned.calls _ _ _ _ _ _ _ _ us8).mono ?_
 rintro e w1 ⟨rfl, hb⟩
 obtain ⟨hc, hf⟩ := bcell hb
 go_wp2_with fail
 exact bodyPost_ret (v := rowV (8, false, false, 18446744073709551615, 0, 18446744073709551614)) (by simp [results, Tryz.results47, go_sem, hc]; rfl) rfl ⟨rfl, by (repeat (refine Below.setCell ?_ (by simp) _)); exact ((Below.refl _ _).alloc (Nat.le_refl _) _).trans (hb.mono (by simp))⟩
theorem of_9 (w : World) (h0 : 0 < w.heap.size) (h1 : w.cell? ⟨0, 9, none⟩ = some (.int .i64 4)) : Calls Tryz.prog 47 #[.int .i64 9] w (Rt w (rowV (4, false, true, 2143289344, 0, 4294967295))) := by
 go_enter Tryz.func47, Tryz.ntmps47
 go_wp2_with fail
 exact bodyPost_ret (v := rowV (4, false, true, 2143289344, 0, 4294967295)) (by simp [results, Tryz.results47, go_sem]; rfl) rfl ⟨rfl, by exact (Below.refl _ _).alloc (Nat.le_refl _) _⟩
theorem of_10 (w : World) (h0 : 0 < w.heap.size) (h1 : w.cell? ⟨0, 10, none⟩ = some (.int .i64 8)) : Calls Tryz.prog 47 #[.int .i64 10] w (Rt w (rowV (8, false, true, 9221120237041090560, 0, 18446744073709551615))) := by
 go_enter Tryz.func47, Tryz.ntmps47
 go_wp2_with fail
 exact bodyPost_ret (v := rowV (8, false, true, 9221120237041090560, 0, 18446744073709551615)) (by simp [results, Tryz.results47, go_sem]; rfl) rfl ⟨rfl, by exact (Below.refl _ _).alloc (Nat.le_refl _) _⟩
theorem of_no (p : Int) (w : World) (hp : p < 0 ∨ 10 < p) : Calls Tryz.prog 47 #[.int .i64 p] w (Rt w (rowV (0, false, false, 0, 0, 0))) := by
 have n0 : (p == 0) = false := beq_eq_false_iff_ne.2 (by omega)
 have n1 : (p == 1) = false := beq_eq_false_iff_ne.2 (by omega)
 have n2 : (p == 2) = false := beq_eq_false_iff_ne.2 (by omega)
 have n3 : (p == 3) = false := beq_eq_false_iff_ne.2 (by omega)
 have n4 : (p == 4) = false := beq_eq_false_iff_ne.2 (by omega)
 have n5 : (p == 5) = false := beq_eq_false_iff_ne.2 (by omega)
 have n6 : (p == 6) = false := beq_eq_false_iff_ne.2 (by omega)
 have n7 : (p == 7) = false := beq_eq_false_iff_ne.2 (by omega)
 have n8 : (p == 8) = false := beq_eq_false_iff_ne.2 (by omega)
 have n9 : (p == 9) = false := beq_eq_false_iff_ne.2 (by omega)
 have n10 : (p == 10) = false := beq_eq_false_iff_ne.2 (by omega)
 go_enter Tryz.func47, Tryz.ntmps47
 go_wp2_with fail
 exact bodyPost_ret (v := rowV (0, false, false, 0, 0, 0)) (by simp [results, Tryz.results47, go_sem]; rfl) rfl ⟨rfl, by exact (Below.refl _ _).alloc (Nat.le_refl _) _⟩
theorem of_any (p : Int) (w : World) (hs : SizesAt w) : Calls Tryz.prog 47 #[.int .i64 p] w (Rt w (rowV (rowOf p))) := by
 have hp : p = 0 ∨ p = 1 ∨ p = 2 ∨ p = 3 ∨ p = 4 ∨ p = 5 ∨ p = 6 ∨ p = 7 ∨ p = 8 ∨ p = 9 ∨ p = 10 ∨ (p < 0 ∨ 10 < p) := by omega
 rcases hp with rfl | rfl | rfl | rfl | rfl | rfl | rfl | rfl | rfl | rfl | rfl | hp
 ·exact of_0 w hs.pos (hs.cell 0 (by decide))
 ·exact of_1 w hs.pos (hs.cell 1 (by decide))
 ·exact of_2 w hs.pos (hs.cell 2 (by decide))
 ·exact of_3 w hs.pos (hs.cell 3 (by decide))
 ·exact of_4 w hs.pos (hs.cell 4 (by decide))
 ·exact of_5 w hs.pos (hs.cell 5 (by decide))
 ·exact of_6 w hs.pos (hs.cell 6 (by decide))
 ·exact of_7 w hs.pos (hs.cell 7 (by decide))
 ·exact of_8 w hs.pos (hs.cell 8 (by decide))
 ·exact of_9 w hs.pos (hs.cell 9 (by decide))
 ·exact of_10 w hs.pos (hs.cell 10 (by decide))
 ·have e : rowOf p = (0, false, false, 0, 0, 0) := by
   unfold rowOf
   repeat rw [if_neg (by omega)]
  rw [e]; exact of_no p w hp
end
section
set_option maxHeartbeats 400000
set_option maxRecDepth 100000
theorem fld76 (s : Int) (g f : Bool) (n lo hi : Int) (w : World) :
  Sem.run Tryz.prog (Instr.field 76 (.agg #[.int .i64 s, .bool g, .bool f, .int .u64 n, .int .u64 lo, .int .u64 hi]) 0) w = .ok (.int .i64 s) w ∧
  Sem.run Tryz.prog (Instr.field 76 (.agg #[.int .i64 s, .bool g, .bool f, .int .u64 n, .int .u64 lo, .int .u64 hi]) 1) w = .ok (.bool g) w ∧
  Sem.run Tryz.prog (Instr.field 76 (.agg #[.int .i64 s, .bool g, .bool f, .int .u64 n, .int .u64 lo, .int .u64 hi]) 3) w = .ok (.int .u64 n) w :=
 ⟨by kernel_rfl, by kernel_rfl, by kernel_rfl⟩
theorem Size_any (p : Int) (w : World) (hs : SizesAt w) : Calls Tryz.prog 16 #[.int .i64 p] w (Rt w (.int .i64 (rowOf p).1)) := by
 have h47 := of_any p w hs
 generalize rowOf p = rr at *
 obtain ⟨s, g, f, n, lo, hi⟩ := rr
 simp only [rowV] at *
 have hfl := fun w => (fld76 s g f n lo hi w).1
 go_enter Tryz.func16, Tryz.ntmps16
 go_wp2_with fail
 refine h47.mono ?_
 clear h47
 rintro e w1 ⟨rfl, hb⟩
 go_wp2_with fail
 go_ret
 exact ⟨rfl, hb⟩
theorem Signed_any (p : Int) (w : World) (hs : SizesAt w) : Calls Tryz.prog 106 #[.int .i64 p] w (Rt w (.bool (rowOf p).2.1)) := by
 have h47 := of_any p w hs
 generalize rowOf p = rr at *
 obtain ⟨s, g, f, n, lo, hi⟩ := rr
 simp only [rowV] at *
 have hfl := fun w => (fld76 s g f n lo hi w).2.1
 go_enter Tryz.func106, Tryz.ntmps106
 go_wp2_with fail
 refine h47.mono ?_
 clear h47
 rintro e w1 ⟨rfl, hb⟩
 go_wp2_with fail
 go_ret
 exact ⟨rfl, hb⟩
theorem Null_any (p : Int) (w : World) (hs : SizesAt w) : Calls Tryz.prog 95 #[.int .i64 p] w (Rt w (.int .u64 (rowOf p).2.2.2.1)) := by
 have h47 := of_any p w hs
 generalize rowOf p = rr at *
 obtain ⟨s, g, f, n, lo, hi⟩ := rr
 simp only [rowV] at *
 have hfl := fun w => (fld76 s g f n lo hi w).2.2
 go_enter Tryz.func95, Tryz.ntmps95
 go_wp2_with fail
 refine h47.mono ?_
 clear h47
 rintro e w1 ⟨rfl, hb⟩
 go_wp2_with fail
 go_ret
 exact ⟨rfl, hb⟩
theorem isPrim_any (p : Int) (w : World) (hs : SizesAt w) : Calls Tryz.prog 26 #[.int .i64 p] w (Rt w (.bool (decide (0 < (rowOf p).1)))) := by
 go_enter Tryz.func26, Tryz.ntmps26
 go_wp2_with fail
 refine (Size_any p w hs).mono ?_
 rintro e w1 ⟨rfl, hb⟩
 go_wp2_with fail
 go_ret
 exact ⟨rfl, hb⟩
def wordOf (p w : Int) : Option Int := prim_row_word.f (rowOf p).1 (rowOf p).2.1 (rowOf p).2.2.1 (rowOf p).2.2.2.1 (rowOf p).2.2.2.2.1 (rowOf p).2.2.2.2.2 w
theorem Fits_yes (p x r : Int) (w : World) (hs : SizesAt w) (h0 : 0 < (rowOf p).1) (hr : wordOf p x = some r) : Calls Tryz.prog 17 #[.int .i64 p, .int .u64 x] w (Rt w (.bool (r == x))) := by
 unfold wordOf at hr
 have h47 := of_any p w hs
 generalize rowOf p = rr at *
 obtain ⟨s, g, f, n, lo, hi⟩ := rr
 simp only [rowV] at *
 have h48 := fun w => prim_row_word.calls s g f n lo hi x r w hr
 clear hr
 go_enter Tryz.func17, Tryz.ntmps17
 go_wp2_with fail
 refine h47.mono ?_
 clear h47
 rintro e w1 ⟨rfl, hb⟩
 have hd : decide (0 < s) = true := decide_eq_true h0
 go_wp2_with fail
 refine (h48 _).mono ?_
 rintro e w2 ⟨rfl, hb2⟩
 go_wp2_with fail
 go_ret
 exact ⟨rfl, hb.trans (((Below.refl _ _).alloc hb.size _).trans (hb2.mono (by have := hb.size; simp; omega)))⟩
end
section
set_option maxHeartbeats 400000
set_option maxRecDepth 100000
def decN (n x : Nat) : List Int := (List.range n).map fun k => 48 + ((x / 10 ^ (n - 1 - k) % 10 : Nat) : Int)
def ndig (x : Nat) : Nat := if h : x < 10 then 1 else ndig (x / 10) + 1
decreasing_by omega
def decS (x : Nat) : ByteArray := strOfNums (decN (ndig x) x)
theorem ndig_eq : ∀ (j x : Nat), (0 < j → x / 10 ^ j ≠ 0) → x / 10 ^ (j + 1) = 0 → ndig x = j + 1 := by
 intro j
 induction j with
 | zero => intro x _ h; rw [ndig, dif_pos (by simp at h; omega)]
 | succ j ih =>
  intro x h1 h2
  have h1 := h1 (by omega)
  have hx : ¬ x < 10 := by
   intro hx
   apply h1
   refine Nat.div_eq_of_lt (Nat.lt_of_lt_of_le hx ?_)
   rw [Nat.pow_succ]; have := Nat.pow_pos (n := j) (show 0 < 10 by decide); omega
  rw [ndig, dif_neg hx]
  congr 1
  refine ih (x / 10) ?_ ?_
  ·intro _; rw [Nat.div_div_eq_div_mul, ← Nat.pow_succ']; exact h1
  ·rw [Nat.div_div_eq_div_mul, ← Nat.pow_succ']; exact h2
def decArr (x : Nat) (j : Nat) : List Value := (List.range 20).map fun k => if 20 ≤ k + j then .int .u8 (48 + ((x / 10 ^ (19 - k)) % 10 : Nat)) else .int .u8 0
theorem decArr_set (x j : Nat) (hj : j < 20) : (decArr x j).set (20 - j - 1) (.int .u8 (48 + ((x / 10 ^ j) % 10 : Nat))) = decArr x (j + 1) := by
 refine List.ext_getElem (by simp [decArr]) ?_
 intro k h1 h2
 simp only [List.getElem_set, decArr, List.getElem_map, List.getElem_range]
 by_cases hk : 20 - j - 1 = k
 ·subst hk
  rw [if_pos rfl, if_pos (by omega), show 19 - (20 - j - 1) = j by omega]
 ·rw [if_neg hk]
  by_cases h3 : 20 ≤ k + j
  ·rw [if_pos h3, if_pos (by omega)]
  ·rw [if_neg h3, if_neg (by omega)]
theorem decArr_at (x j k : Nat) (hk : k < 20) : (decArr x j)[k]? = some (if 20 ≤ k + j then .int .u8 (48 + ((x / 10 ^ (19 - k)) % 10 : Nat)) else .int .u8 0) := by
 simp [decArr, hk]
theorem arr145 : Tryz.prog.underlying 145 = some (.array (Tryz.prog.arrayLen 145) (Tryz.prog.elem 145)) ∧ Tryz.prog.arrayLen 145 = 20 := ⟨by kernel_rfl, by kernel_rfl⟩
theorem slice145 (W : World) (b j : Nat) (hj : j < 20) : Sem.run Tryz.prog (Instr.sliceAt 145 (.pointer (some ⟨b, 0, none⟩)) (some (.int .i64 (20 - (j : Int) - 1))) none none) W = .ok (.slice (some ⟨b, 20 - j - 1, none⟩) (j + 1) (j + 1)) W := by
 rw [run_sliceAt_array_l W 145 ⟨b, 0, none⟩ arr145.1 .i64 _ (by omega) (by rw [arr145.2]; omega), arr145.2]
 have hs : (sizeOf (Tryz.prog.elem 145)).run Tryz.prog W = .ok 1 W := by kernel_rfl
 rw [hs]
 simp only [Result.andThen, slicedAt]
 rw [show (20 - (j : Int) - 1).toNat = 20 - j - 1 by omega, if_neg (by omega)]
 simp only [Addr.add, Nat.mul_one, Nat.zero_add]
 by_cases h : 20 - j - 1 = 0
 ·rw [if_pos h, h]; simp; omega
 ·rw [if_neg h]; simp; omega
theorem str145 (w : World) (x j : Nat) (hj : j < 20) : Sem.run Tryz.prog (convert 58 9 (.slice (some ⟨w.heap.size, 20 - j - 1, none⟩) (j + 1) (j + 1))) (w.alloc (.cells (decArr x (j + 1)).toArray 145)) = .ok (.string (strOfNums (decN (j + 1) x))) (w.alloc (.cells (decArr x (j + 1)).toArray 145)) := by
 refine string_of_reads (e := 5) (by kernel_rfl) (by kernel_rfl) (by kernel_rfl) ⟨by simp [decN], by omega, fun _ => ⟨_, rfl, ?_⟩⟩
 intro i hi
 have e : (⟨w.heap.size, 20 - j - 1, none⟩ : Addr).add i = ⟨w.heap.size, 20 - j - 1 + i, none⟩ := by
  unfold Addr.add; by_cases h : i = 0 <;> simp [h]
 rw [e, World.cell?_alloc_new]
 simp only [List.getElem?_toArray]
 rw [decArr_at x (j + 1) _ (by omega), if_pos (by omega)]
 simp [decN, List.getD_eq_getElem?_getD, List.getElem?_map, List.getElem?_range hi]
 rw [show 19 - (20 - j - 1 + i) = j - i by omega]
theorem decimal_any (x : Nat) (w : World) (hx : x < 18446744073709551616) : Calls Tryz.prog 85 #[.int .u64 (x : Int)] w (Rt w (.string (decS x))) := by
 go_enter Tryz.func85, Tryz.ntmps85
 go_wp2
 go_loopw [0, 4] (fun v i wr => ∃ j : Nat, j < 20 ∧ ∃ y : Int, 0 ≤ y ∧ y < 18446744073709551616 ∧ v = .int .u64 y ∧ Hid (y = ((x / 10 ^ j : Nat) : Int) ∧ (0 < j → y ≠ 0)) ∧ i = .int .i64 (20 - (j : Int)) ∧ wr = w.alloc (.cells (decArr x j).toArray 145)) (fun _ i _ => (intOf i).toNat)
 case atStart => exact ⟨0, by omega, x, by omega, by omega, rfl, ⟨by simp, by omega⟩, rfl, by rfl⟩
 case round =>
  obtain ⟨j, hj, y, hy0, hy1, rfl, hy, rfl, rfl⟩ := hrel
  have hset : (decArr x j).set (20 - j - 1) (.int .u8 (48 + y % 10)) = decArr x (j + 1) := by
   rw [hy.out.1]; exact decArr_set x j hj
  have hcell : (decArr x j)[20 - j - 1]? = some (.int .u8 0) := by rw [decArr_at x j _ (by omega), if_neg (by omega)]
  have hsl := fun W => slice145 W w.heap.size j hj
  have hst := str145 w x j hj
  by_cases hz : y / 10 = 0
  ·have hz1 : (y / 10 == 0) = true := by simp [hz]
   have hfin : decN (j + 1) x = decN (ndig x) x := by
    rw [ndig_eq j x (fun h h' => hy.out.2 h (by rw [hy.out.1, h']; rfl)) ?_]
    rw [Nat.pow_succ, ← Nat.div_div_eq_div_mul]
    have := hy.out.1; omega
   rw [hfin] at hst
   clear hfin hz
   go_wp2
   go_ret
   exact ⟨rfl, (Below.refl _ _).alloc (Nat.le_refl _) _⟩
  ·have hz1 : (y / 10 == 0) = false := by simp [hz]
   clear hst hsl
   go_wp2
   go_roundw
   case rel =>
    refine ⟨j + 1, ?_, y / 10, by omega, by omega, rfl, ⟨?_, fun _ => hz⟩, ?_, ?_⟩
    ·rcases Nat.lt_or_ge (j + 1) 20 with h | h
     ·exact h
     ·exfalso
      have : j = 19 := by omega
      subst this
      have h2 := hy.out.1
      have : x / 10 ^ 19 < 10 := Nat.div_lt_of_lt_mul (by omega)
      omega
    ·rw [hy.out.1, Nat.pow_succ, ← Nat.div_div_eq_div_mul]; omega
    ·congr 1; omega
    ·rfl
   case measure => simp [intOf]; omega
end
section
set_option maxHeartbeats 800000
set_option maxRecDepth 100000
theorem decS_size (x : Nat) : (decS x).size = ndig x := by simp [decS, strOfNums_size, decN]
theorem ndig_le (n : Nat) : ∀ x, x < 10 ^ (n + 1) → ndig x ≤ n + 1 := by
 induction n with
 | zero => intro x h; rw [ndig, dif_pos (by omega)]; omega
 | succ n ih =>
  intro x h
  rw [ndig]
  split
  ·omega
  ·have := ih (x / 10) (by rw [Nat.pow_succ] at h; omega); omega
theorem decS_le (x : Nat) (h : x < 18446744073709551616) : (decS x).size ≤ 20 := by
 rw [decS_size]; exact ndig_le 19 x (by omega)
def wholeS (sg : Bool) (x : Nat) : ByteArray := if sg = true ∧ 9223372036854775808 ≤ x then (⟨#[45]⟩ : ByteArray) ++ decS (18446744073709551616 - x) else decS x
theorem printWhole_neg (p : Int) (x : Nat) (w : World) (hs : SizesAt w) (hx : x < 18446744073709551616) (hg : (rowOf p).2.1 = true) (h2 : 9223372036854775808 ≤ x) :
  Calls Tryz.prog 57 #[.int .i64 p, .int .u64 (x : Int)] w (Rt w (.string ((⟨#[45]⟩ : ByteArray) ++ decS (18446744073709551616 - x)))) := by
 obtain ⟨z, hneg, hd⟩ : ∃ z, wrap64 (x : Int) = z ∧ decide (z < 0) = true := ⟨_, rfl, by unfold wrap64; simp; omega⟩
 have hneg2 : IntKind.u64.wrap (-(x : Int)) = ((18446744073709551616 - x : Nat) : Int) := by rw [wu64_eq]; omega
 have h106 := Signed_any p w hs
 rw [hg] at h106
 have hsz := decS_le (18446744073709551616 - x) (by omega)
 obtain ⟨y, hy⟩ : ∃ y, y = 18446744073709551616 - x := ⟨_, rfl⟩
 rw [← hy] at hneg2 hsz ⊢
 have h85 := fun w => decimal_any y w (by omega)
 clear hy hx h2 hs
 go_enter Tryz.func57, Tryz.ntmps57
 go_wp2_with fail
 refine h106.mono ?_
 rintro e w1 ⟨rfl, hb⟩
 clear h106
 go_wp2_with fail
 refine (h85 _).mono ?_
 rintro e w2 ⟨rfl, hb2⟩
 clear h85
 go_wp2_with fail
 go_ret
 exact ⟨rfl, hb.trans (hb2.mono hb.size)⟩
theorem printWhole_pos (p : Int) (x : Nat) (w : World) (hs : SizesAt w) (hx : x < 18446744073709551616) (hg : (rowOf p).2.1 = true) (h2 : x < 9223372036854775808) :
  Calls Tryz.prog 57 #[.int .i64 p, .int .u64 (x : Int)] w (Rt w (.string (decS x))) := by
 have hneg : wrap64 (x : Int) = (x : Int) := by unfold wrap64; omega
 have hd : decide ((x : Int) < 0) = false := by simp
 have h106 := Signed_any p w hs
 rw [hg] at h106
 have h85 := fun w => decimal_any x w (by omega)
 clear hx hs
 go_enter Tryz.func57, Tryz.ntmps57
 go_wp2_with fail
 refine h106.mono ?_
 rintro e w1 ⟨rfl, hb⟩
 clear h106
 go_wp2_with fail
 refine (h85 _).mono ?_
 rintro e w2 ⟨rfl, hb2⟩
 clear h85
 go_wp2_with fail
 go_ret
 exact ⟨rfl, hb.trans (hb2.mono hb.size)⟩
theorem printWhole_uns (p : Int) (x : Nat) (w : World) (hs : SizesAt w) (hx : x < 18446744073709551616) (hg : (rowOf p).2.1 = false) :
  Calls Tryz.prog 57 #[.int .i64 p, .int .u64 (x : Int)] w (Rt w (.string (decS x))) := by
 have h106 := Signed_any p w hs
 rw [hg] at h106
 have h85 := fun w => decimal_any x w (by omega)
 clear hx hs
 go_enter Tryz.func57, Tryz.ntmps57
 go_wp2_with fail
 refine h106.mono ?_
 rintro e w1 ⟨rfl, hb⟩
 clear h106
 go_wp2_with fail
 refine (h85 _).mono ?_
 rintro e w2 ⟨rfl, hb2⟩
 clear h85
 go_wp2_with fail
 go_ret
 exact ⟨rfl, hb.trans (hb2.mono hb.size)⟩
theorem printWhole_any (p : Int) (x : Nat) (w : World) (hs : SizesAt w) (hx : x < 18446744073709551616) :
  Calls Tryz.prog 57 #[.int .i64 p, .int .u64 (x : Int)] w (Rt w (.string (wholeS (rowOf p).2.1 x))) := by
 unfold wholeS
 cases hg : (rowOf p).2.1 with
 | false => rw [if_neg (by simp)]; exact printWhole_uns p x w hs hx hg
 | true =>
  rcases Nat.lt_or_ge x 9223372036854775808 with h | h
  ·rw [if_neg (by omega)]; exact printWhole_pos p x w hs hx hg h
  ·rw [if_pos ⟨rfl, h⟩]; exact printWhole_neg p x w hs hx hg h
def charS (x : Nat) : ByteArray := if 33 ≤ x ∧ x ≤ 126 ∧ x ≠ 35 ∧ x ≠ 44 then ⟨#[UInt8.ofNat x]⟩ else (⟨#[35]⟩ : ByteArray) ++ decS x
theorem printChar_plain (p : Int) (x : Nat) (w : World) (h : 33 ≤ x ∧ x ≤ 126 ∧ x ≠ 35 ∧ x ≠ 44) :
  Calls Tryz.prog 53 #[.int .i64 p, .int .u64 (x : Int)] w (Rt w (.string ⟨#[UInt8.ofNat x]⟩)) := by
 have d1 : decide ((33 : Int) ≤ (x : Int)) = true := by simp; omega
 have d2 : decide ((x : Int) ≤ 126) = true := by simp; omega
 have d3 : ((x : Int) != 35) = true := by rw [bne_iff_ne]; omega
 have d4 : ((x : Int) != 44) = true := by rw [bne_iff_ne]; omega
 have hb1 : (x : Int) ≤ 126 := by omega
 have hcv : Sem.run Tryz.prog (convert 58 9 (.slice (some ⟨w.heap.size, 0, none⟩) 1 1)) (w.alloc (.cells #[.int .u8 (x : Int)] 5)) = .ok (.string ⟨#[UInt8.ofNat x]⟩) (w.alloc (.cells #[.int .u8 (x : Int)] 5)) := by
  have e : (⟨#[UInt8.ofNat x]⟩ : ByteArray) = strOfNums [(x : Int)] := by simp [strOfNums]
  rw [e]
  refine string_of_reads (e := 5) (by kernel_rfl) (by kernel_rfl) (by kernel_rfl) ⟨rfl, by omega, fun _ => ⟨_, rfl, ?_⟩⟩
  intro i hi
  have : i = 0 := by omega
  subst this
  simp [Addr.add]
 go_enter Tryz.func53, Tryz.ntmps53
 go_wp2_with fail
 go_ret
 exact ⟨rfl, (Below.refl _ _).alloc (Nat.le_refl _) _⟩
theorem pick_or (a b c d : Bool) (h : ¬ (a = true ∧ b = true ∧ c = true ∧ d = true)) : a = false ∨ (a = true ∧ b = false) ∨ (a = true ∧ b = true ∧ c = false) ∨ (a = true ∧ b = true ∧ c = true ∧ d = false) := by
 revert h; cases a <;> cases b <;> cases c <;> cases d <;> decide
theorem printChar_num (p : Int) (x : Nat) (w : World) (hx : x < 18446744073709551616) (h : ¬ (33 ≤ x ∧ x ≤ 126 ∧ x ≠ 35 ∧ x ≠ 44)) :
  Calls Tryz.prog 53 #[.int .i64 p, .int .u64 (x : Int)] w (Rt w (.string ((⟨#[35]⟩ : ByteArray) ++ decS x))) := by
 have hsz := decS_le x hx
 have h85 := fun w => decimal_any x w hx
 have hc := pick_or (decide ((33 : Int) ≤ (x : Int))) (decide ((x : Int) ≤ 126)) ((x : Int) != 35) ((x : Int) != 44) (by
  rintro ⟨a, b, c, d⟩
  apply h
  simp only [decide_eq_true_eq, bne_iff_ne] at a b c d
  omega)
 clear hx h
 generalize decS x = s at *
 rcases hc with hc | ⟨hc, hc2⟩ | ⟨hc, hc2, hc3⟩ | ⟨hc, hc2, hc3, hc4⟩
 all_goals
  go_enter Tryz.func53, Tryz.ntmps53
  go_wp2_with fail
  refine (h85 _).mono ?_
  rintro e w2 ⟨rfl, hb2⟩
  clear h85
  go_wp2_with fail
  go_ret
  exact ⟨rfl, hb2⟩
theorem printChar_any (p : Int) (x : Nat) (w : World) (hx : x < 18446744073709551616) :
  Calls Tryz.prog 53 #[.int .i64 p, .int .u64 (x : Int)] w (Rt w (.string (charS x))) := by
 unfold charS
 split
 ·exact printChar_plain p x w ‹_›
 ·exact printChar_num p x w hx ‹_›
end
end Go.Proofs.YtepfodmbjojdbaaGreatDoor.Num
