/- NumberPrints: formatting in base 16, texts, and the reference's laid. No conditions beyond each theorem's own. -/
import Derived.Test.YtepfodmbjojdbaaGreatDoorQ16
import Derived.Test.YtepfodmbjojdbaaGreatDoorQ17
import Derived.Test.YtepfodmbjojdbaaGreatDoorQ18
import Derived.Test.YtepfodmbjojdbaaGreatDoorQ06
import Derived.Lib.Case
import Derived.Lib.AppendIntMem
set_option linter.all false
namespace Go.Proofs.YtepfodmbjojdbaaGreatDoor.Num
open Go Go.Lib
section
open Go.RowKit Go.Sort YtepfodmbjojdbaaGreatDoorW.PrintWords YtepfodmbjojdbaaGreatDoorW.PrintMore PNumberPrints
set_option maxHeartbeats 1600000
set_option maxRecDepth 100000
theorem tz16 (w : World) (h17 : w.cell? ⟨17, 15, none⟩ = some (.int .u8 4)) : Calls Tryz.prog 194 #[.int .u64 16] w fun e w' => e = .returned (.int .i64 4) ∧ w = w' := by
 have hb2 : bits BinOp.and IntKind.u64 16 (IntKind.u64.wrap (-16)) = 16 := by decide
 have hb3 : IntKind.u64.wrap 4573923408821661840 / 288230376151711744 = 15 := by decide
 have hb4 : IntKind.u64.wrap (16 * 285870213051353865) / 288230376151711744 = 15 := by decide
 go_enter Tryz.func194, Tryz.ntmps194
 go_wp2
 go_ret
 exact ⟨rfl, rfl⟩
def hexd (d : Nat) : UInt8 := if d < 10 then UInt8.ofNat (48 + d) else UInt8.ofNat (87 + d)
def hexArr (x : Nat) (j : Nat) : List Value := (List.range 65).map fun k => if 65 ≤ k + j then encB (hexd (x / 16 ^ (64 - k) % 16)) else .int .u8 0
theorem hexArr_set (x j : Nat) (hj : j < 65) : (hexArr x j).set (65 - j - 1) (encB (hexd (x / 16 ^ j % 16))) = hexArr x (j + 1) := by
 refine List.ext_getElem (by simp [hexArr]) ?_
 intro k h1 h2
 simp only [List.getElem_set, hexArr, List.getElem_map, List.getElem_range]
 by_cases hk : 65 - j - 1 = k
 ·subst hk
  rw [if_pos rfl, if_pos (by omega), show 64 - (65 - j - 1) = j by omega]
 ·rw [if_neg hk]
  by_cases h3 : 65 ≤ k + j
  ·rw [if_pos h3, if_pos (by omega)]
  ·rw [if_neg h3, if_neg (by omega)]
theorem hexArr_at (x j k : Nat) (hk : k < 65) : (hexArr x j)[k]? = some (if 65 ≤ k + j then encB (hexd (x / 16 ^ (64 - k) % 16)) else .int .u8 0) := by
 simp [hexArr, hk]
theorem hexArr_0 (x : Nat) : Tryz.zeroCells212 = (hexArr x 0).toArray := by rfl
theorem arr212 : Tryz.prog.underlying 212 = some (.array (Tryz.prog.arrayLen 212) (Tryz.prog.elem 212)) ∧ Tryz.prog.arrayLen 212 = 65 := ⟨by kernel_rfl, by kernel_rfl⟩
theorem slice212 (W : World) (b j : Nat) (hj : j < 65) : Sem.run Tryz.prog (Instr.sliceAt 212 (.pointer (some ⟨b, 0, none⟩)) (some (.int .i64 (65 - (j : Int) - 1))) none none) W = .ok (.slice (some ⟨b, 65 - j - 1, none⟩) (j + 1) (j + 1)) W := by
 rw [run_sliceAt_array_l W 212 ⟨b, 0, none⟩ arr212.1 .i64 _ (by omega) (by rw [arr212.2]; omega), arr212.2]
 have hs : (sizeOf (Tryz.prog.elem 212)).run Tryz.prog W = .ok 1 W := by kernel_rfl
 rw [hs]
 simp only [Result.andThen, slicedAt]
 rw [show (65 - (j : Int) - 1).toNat = 65 - j - 1 by omega, if_neg (by omega)]
 simp only [Addr.add, Nat.mul_one, Nat.zero_add]
 by_cases h : 65 - j - 1 = 0
 ·rw [if_pos h, h]; simp; omega
 ·rw [if_neg h]; simp; omega
def hexL (n x : Nat) : List UInt8 := (List.range n).map fun k => hexd (x / 16 ^ (n - 1 - k) % 16)
theorem str212 (w : World) (x j : Nat) (hj : j < 65) : Sem.run Tryz.prog (convert 58 9 (.slice (some ⟨w.heap.size, 65 - j - 1, none⟩) (j + 1) (j + 1))) (w.alloc (.cells (hexArr x (j + 1)).toArray 212)) = .ok (.string ⟨(hexL (j + 1) x).toArray⟩) (w.alloc (.cells (hexArr x (j + 1)).toArray 212)) := by
 have hlen : (hexL (j + 1) x).length = j + 1 := by simp [hexL]
 have := run_convert_bytes_back (P := Tryz.prog) (w.alloc (.cells (hexArr x (j + 1)).toArray 212)) 58 9 5 ⟨w.heap.size, 65 - j - 1, none⟩ (j + 1) (hexL (j + 1) x) (by kernel_rfl) (by kernel_rfl) (by kernel_rfl) ?_
 ·rw [hlen] at this; exact this
 ·intro i hi
  rw [hlen] at hi
  have e : (⟨w.heap.size, 65 - j - 1, none⟩ : Addr).add i = ⟨w.heap.size, 65 - j - 1 + i, none⟩ := by
   unfold Addr.add; by_cases h : i = 0 <;> simp [h]
  rw [e, World.cell?_alloc_new]
  simp only [List.getElem?_toArray]
  rw [hexArr_at x (j + 1) _ (by omega), if_pos (by omega)]
  simp [hexL]
  rw [show 64 - (65 - j - 1 + i) = j - i by omega]
def HexOf (x : Nat) (w : World) (e : Ending) (w' : World) : Prop := ∃ n, 1 ≤ n ∧ n ≤ 16 ∧ 16 ^ (n - 1) ≤ x ∧ x < 16 ^ n ∧ e = .returned (.string ⟨(hexL n x).toArray⟩) ∧ Below w.heap.size w w'
def HexOf2 (x : Nat) (w : World) (e : Ending) (w' : World) : Prop := ∃ n, 1 ≤ n ∧ n ≤ 16 ∧ 16 ^ (n - 1) ≤ x ∧ x < 16 ^ n ∧ e = .returned (.tuple #[.slice none 0 0, .string ⟨(hexL n x).toArray⟩]) ∧ Below w.heap.size w w'
theorem idx16 (m : Nat) (hm : m < 16) (w : World) : (Instr.index 9 (.string ⟨#[48, 49, 50, 51, 52, 53, 54, 55, 56, 57, 97, 98, 99, 100, 101, 102, 103, 104, 105, 106, 107, 108, 109, 110, 111, 112, 113, 114, 115, 116, 117, 118, 119, 120, 121, 122]⟩) (.int .u64 (m : Int))).run Tryz.prog w = .ok (encB (hexd m)) w := by
 have h : m = 0 ∨ m = 1 ∨ m = 2 ∨ m = 3 ∨ m = 4 ∨ m = 5 ∨ m = 6 ∨ m = 7 ∨ m = 8 ∨ m = 9 ∨ m = 10 ∨ m = 11 ∨ m = 12 ∨ m = 13 ∨ m = 14 ∨ m = 15 := by omega
 rcases h with rfl | rfl | rfl | rfl | rfl | rfl | rfl | rfl | rfl | rfl | rfl | rfl | rfl | rfl | rfl | rfl <;> (show _ = _; kernel_rfl)
theorem formatBits_16 (x : Nat) (w : World) (hx : x < 18446744073709551616) (hx16 : 16 ≤ x) (h17 : w.cell? ⟨17, 15, none⟩ = some (.int .u8 4)) (hsz : 17 < w.heap.size) :
  Calls Tryz.prog 168 #[.slice none 0 0, .int .u64 (x : Int), .int .i64 16, .bool false, .bool false] w (HexOf2 x w) := by
 have hb1 : (bits BinOp.and IntKind.i64 16 15 == 0) = true := by decide
 go_enter Tryz.func168, Tryz.ntmps168
 go_wp2_with (go_at_call 193; go_in)
 refine (tz16 _ ?_).mono ?_
 ·rw [World.cell?_alloc_lt _ _ _ hsz]; exact h17
 rintro e w' ⟨rfl, rfl⟩
 rw [hexArr_0 x]
 go_wp2
 go_loopw [1, 13] (fun v i wr => ∃ j : Nat, j < 16 ∧ ∃ y : Int, 0 ≤ y ∧ y < 18446744073709551616 ∧ v = .int .u64 y ∧ Hid (y = ((x / 16 ^ j : Nat) : Int) ∧ 1 ≤ y) ∧ i = .int .i64 (65 - (j : Int)) ∧ wr = w.alloc (.cells (hexArr x j).toArray 212)) (fun _ i _ => (intOf i).toNat)
 case atStart => exact ⟨0, by omega, x, by omega, by omega, rfl, ⟨by simp, by omega⟩, rfl, rfl⟩
 case round =>
  obtain ⟨j, hj, y, hy0, hy1, rfl, hy, rfl, rfl⟩ := hrel
  have hset := hexArr_set x j (by omega)
  have hcell : (hexArr x j)[65 - j - 1]? = some (.int .u8 0) := by rw [hexArr_at x j _ (by omega), if_neg (by omega)]
  have hsl := fun W => slice212 W w.heap.size j (by omega)
  have hst := str212 w x j (by omega)
  obtain ⟨M, hM⟩ : ∃ M : Nat, M = x / 16 ^ j % 16 := ⟨_, rfl⟩
  have hM16 : M < 16 := by omega
  rw [← hM] at hset
  have hidx := idx16 M hM16
  by_cases hlt : y < 16
  ·have hMY : y = (M : Int) := by have := hy.out.1; omega
   rw [← hMY] at hidx
   have HM := Lib.hid hM
   have HMY := Lib.hid hMY
   clear hM hMY hM16
   go_wp2
   go_ret2
   have e1 := HMY.out
   have e2 := HM.out
   have e3 := hy.out.1
   have hq : x / 16 ^ j < 16 := by omega
   have hq1 : 1 ≤ x / 16 ^ j := by have := hy.out.2; omega
   refine ⟨j + 1, by omega, by omega, ?_, ?_, rfl, (Below.refl _ _).alloc (Nat.le_refl _) _⟩
   ·rw [Nat.add_sub_cancel]
    rw [Nat.le_div_iff_mul_le (Nat.pow_pos (by decide))] at hq1
    omega
   ·rw [Nat.pow_succ]
    exact (Nat.div_lt_iff_lt_mul (Nat.pow_pos (by decide))).1 hq |> fun h => by rw [Nat.mul_comm]; exact h
  ·have hand : bits BinOp.and IntKind.u64 y 15 = (M : Int) := by
    have := and_u64 (x / 16 ^ j) 15 4 (by decide) (by decide) (by have := hy.out.1; omega)
    rw [hy.out.1]
    simpa [hM] using this
   have HM := Lib.hid hM
   clear hM
   clear hst hsl
   go_wp2
   go_roundw
   case rel =>
    refine ⟨j + 1, ?_, y / 16, by omega, by omega, rfl, ⟨?_, by omega⟩, ?_, rfl⟩
    ·rcases Nat.lt_or_ge (j + 1) 16 with h | h
     ·exact h
     ·exfalso
      have : j = 15 := by omega
      subst this
      have h2 := hy.out.1
      have : x / 16 ^ 15 < 16 := Nat.div_lt_of_lt_mul (by omega)
      omega
    ·rw [hy.out.1, Nat.pow_succ, ← Nat.div_div_eq_div_mul]; omega
    ·congr 1; omega
   case measure => simp [intOf]; omega
theorem formatUint_16 (x : Nat) (w : World) (hx : x < 18446744073709551616) (hx16 : 16 ≤ x) (h17 : w.cell? ⟨17, 15, none⟩ = some (.int .u8 4)) (hsz : 17 < w.heap.size) :
  Calls Tryz.prog 98 #[.int .u64 (x : Int), .int .i64 16] w (HexOf x w) := by
 go_enter Tryz.func98, Tryz.ntmps98
 go_wp2_with (go_at_call 131; go_in)
 refine (formatBits_16 x w hx hx16 h17 hsz).mono ?_
 rintro e w' ⟨n, h1, h2, h3, h4, rfl, hb⟩
 go_wp2_with fail
 go_ret
 exact ⟨n, h1, h2, h3, h4, rfl, hb⟩
end
theorem decDigits_S (u : Nat) : decDigits u = (decS u).data.toList := by
 rw [decDigits_eq, decS_toList, nDigits_eq]
theorem repeat_zer (n : Nat) : repeatL [48] n = List.replicate n 48 := by
 induction n with
 | zero => rfl
 | succ n ih => rw [repeatL, ih, List.replicate_succ]; rfl
theorem zer_repeat (n : Nat) : (⟨(repeatL [48] n).toArray⟩ : ByteArray) = zerS n := by
 rw [repeat_zer]; apply ByteArray.ext; simp [zerS]
theorem indexByte_at (c : UInt8) : ∀ (a b : List UInt8), c ∉ a → indexByte (a ++ c :: b) c = (a.length : Int)
 | [], b, _ => by simp [indexByte]
 | x :: a, b, h => by
  have ih := indexByte_at c a b (fun g => h (List.mem_cons_of_mem _ g))
  have hx : (x == c) = false := by
   simp; intro e; exact h (by simp [e])
  simp only [List.cons_append, indexByte, hx, ih]
  have : ((a.length : Int) == -1) = false := by simp
  simp [this]
theorem index_at (c : UInt8) (a b : List UInt8) (h : c ∉ a) : Lib.index (a ++ c :: b) [c] = (a.length : Int) := by
 rw [Lib.index_one]; exact indexByte_at c a b h
theorem cut_at (c : UInt8) (a b : List UInt8) (h : c ∉ a) : Lib.cut (a ++ c :: b) [c] = (a, b, true) := by
 unfold Lib.cut
 rw [index_at c a b h, if_pos (by omega)]
 simp
theorem dg_range (d j : Nat) : 48 ≤ (dg d j).toNat ∧ (dg d j).toNat ≤ 57 := by
 unfold dg
 have h : d / 10 ^ j % 10 < 10 := Nat.mod_lt _ (by decide)
 generalize d / 10 ^ j % 10 = x at *
 simp; omega
theorem decS_digits (r : Nat) : ∀ b ∈ (decS r).data.toList, 48 ≤ b.toNat ∧ b.toNat ≤ 57 := by
 intro b hb
 rw [decS_toList] at hb
 obtain ⟨t, _, rfl⟩ := List.mem_map.1 hb
 exact dg_range _ _
theorem digitVal_dgB (y : Nat) (h : y < 10) : digitVal (dgB y) = some y := by
 unfold digitVal dgB
 have e : (UInt8.ofNat (y + 48)).toNat = y + 48 := by simp; omega
 rw [e, if_pos (by omega)]; simp
theorem decNat_expD (z : Nat) (h : z ≤ 400) : decNat (expD z) = some z := by
 have e48 : digitVal 48 = some 0 := by decide
 unfold expD
 by_cases h1 : z < 10
 ·rw [if_pos h1]
  simp [decNat, decFrom, e48, digitVal_dgB z h1]
 ·rw [if_neg h1]
  by_cases h2 : z < 100
  ·rw [if_pos h2]
   simp [decNat, decFrom, digitVal_dgB (z / 10) (by omega), digitVal_dgB (z % 10) (by omega)]
   omega
  ·rw [if_neg h2]
   simp [decNat, decFrom, digitVal_dgB (z / 100) (by omega), digitVal_dgB (z / 10 % 10) (by omega), digitVal_dgB (z % 10) (by omega)]
   omega
def expT (x : Int) : List UInt8 := if 0 ≤ x then 43 :: expD x.toNat else 45 :: expD (-x).toNat
theorem expX_T (x : Int) : expX x = 101 :: expT x := by unfold expX expT expE; split <;> simp
theorem atoi_expT (x : Int) (h : -400 ≤ x ∧ x ≤ 400) : Lib.atoi (expT x) = some x := by
 unfold expT
 by_cases h0 : 0 ≤ x
 ·rw [if_pos h0]
  simp [Lib.atoi, decNat_expD x.toNat (by omega)]
  omega
 ·rw [if_neg h0]
  simp [Lib.atoi, decNat_expD (-x).toNat (by omega)]
  omega
theorem expT_len (x : Int) : (expT x).length ≤ 4 := by
 unfold expT expD
 split <;> (try split) <;> (try split) <;> simp
theorem replace_mant (c0 : UInt8) (ds : List UInt8) (h : ∀ b ∈ c0 :: ds, 48 ≤ b.toNat ∧ b.toNat ≤ 57) : Lib.replace (mantE c0 ds) [46] [] 1 = c0 :: ds := by
 have h46 : (46 : UInt8) ∉ c0 :: ds := fun g => by have := h 46 g; revert this; decide
 unfold Lib.replace
 rw [if_neg (by decide)]
 unfold mantE
 by_cases hd : ds = []
 ·subst hd
  rw [if_pos rfl]
  have hc : Lib.count [c0] [46] = 0 := by
   rw [Lib.count_one]; exact List.count_eq_zero.2 h46
  unfold Lib.replaceNum
  rw [hc]; rfl
 ·rw [if_neg hd]
  have hc : Lib.count (c0 :: 46 :: ds) [46] = 1 := by
   rw [Lib.count_one]
   have h0 : (c0 == 46) = false := by simp; intro e; exact h46 (by simp [e])
   have h1 : ds.count 46 = 0 := List.count_eq_zero.2 (fun g => h46 (List.mem_cons_of_mem _ g))
   rw [List.count_cons, h0, List.count_cons_self, h1]; rfl
  unfold Lib.replaceNum
  rw [hc]
  have hi : Lib.index (c0 :: 46 :: ds) [46] = ((1 : Nat) : Int) := by
   have := index_at 46 [c0] ds (fun g => h46 (by simp at g; simp [g]))
   simpa using this
  have e1 : (if (1 : Int) < 0 ∨ ((1 : Nat) : Int) < 1 then 1 else (1 : Int).toNat) = 0 + 1 := by decide
  rw [e1, Lib.replaceK_hit _ _ _ _ _ hi]
  simp [Lib.replaceK]
theorem cut_fText (r : Nat) (x : Int) (c0 : UInt8) (ds : List UInt8) (hL : (decS r).data.toList = c0 :: ds) :
  Lib.cut (fText r x) [101] = (mantE c0 ds, expT x, true) := by
 unfold fText
 rw [hL, expX_T]
 refine cut_at 101 _ _ ?_
 have h := decS_digits r
 rw [hL] at h
 have h101 : (101 : UInt8) ∉ c0 :: ds := fun g => by have := h 101 g; revert this; decide
 intro g
 simp only [List.headD_cons, List.tail_cons] at g
 unfold mantE at g
 split at g
 ·exact h101 (by simp at g; simp [g])
 ·simp only [List.mem_cons] at g
  rcases g with g | g | g
  ·exact h101 (by simp [g])
  ·exact absurd g (by decide)
  ·exact h101 (by simp [g])
theorem mantE_len (c0 : UInt8) (ds : List UInt8) : (mantE c0 ds).length ≤ ds.length + 2 := by unfold mantE; split <;> simp
def hexu (d : Nat) : UInt8 := if d < 10 then UInt8.ofNat (48 + d) else UInt8.ofNat (55 + d)
def hexU (n x : Nat) : List UInt8 := (List.range n).map fun k => hexu (x / 16 ^ (n - 1 - k) % 16)
theorem upper_hexd : ∀ d, d < 16 → upperB (hexd d) = hexu d := by decide
theorem hexd_ascii : ∀ d, d < 16 → (hexd d).toNat < 128 := by decide
theorem upper_hexL (n x : Nat) : toUpperA (hexL n x) = hexU n x := by
 unfold toUpperA hexL hexU
 rw [List.map_map]
 apply List.map_congr_left
 intro t _
 exact upper_hexd _ (Nat.mod_lt _ (by decide))
theorem hexL_len (n x : Nat) : (hexL n x).length = n := by simp [hexL]
theorem hexU_pad (n N x : Nat) (hn : n ≤ N) (hx : x < 16 ^ n) : hexU N x = List.replicate (N - n) 48 ++ hexU n x := by
 unfold hexU
 apply List.ext_getElem
 ·simp; omega
 ·intro i h1 h2
  simp only [List.length_map, List.length_range] at h1
  rw [List.getElem_append]
  simp only [List.getElem_map, List.getElem_range, List.length_replicate, List.getElem_replicate]
  split
  ·rename_i h
   have : x / 16 ^ (N - 1 - i) = 0 := Nat.div_eq_of_lt (Nat.lt_of_lt_of_le hx (Nat.pow_le_pow_right (by decide) (by omega)))
   rw [this]; rfl
  ·rename_i h
   rw [show n - 1 - (i - (N - n)) = N - 1 - i by omega]
section
open Go.RowKit Go.Sort YtepfodmbjojdbaaGreatDoorW.PrintWords YtepfodmbjojdbaaGreatDoorW.PrintMore PNumberPrints
set_option maxHeartbeats 1600000
set_option maxRecDepth 100000
theorem itoa_b (n : Int) (h0 : -9223372036854775808 ≤ n) (h1 : n ≤ 9223372036854775807) (w : World) (hT : Tabs w) :
  Calls Tryz.prog 122 #[.int .i64 n] w (Rt w (.string ⟨(Lib.itoa n).toArray⟩)) :=
 (Tryz.strconv_Itoa n h0 h1 w hT.p10).mono fun e w' ⟨he, k, os, hw⟩ => ⟨he, by rw [hw]; exact Lib.below_grow _ _ (Nat.le_refl _) k os⟩
theorem repeat_b (n : Nat) (w : World) (hn : n ≤ 100000) : Calls Tryz.prog 99 #[.string ⟨#[48]⟩, .int .i64 (n : Int)] w (Rt w (.string (zerS n))) :=
 (Tryz.strings_Repeat ⟨#[48]⟩ n w (by omega) (by show 1 * n ≤ 140737488355328; omega)).mono fun e w' ⟨he, hb⟩ => ⟨by rw [he]; exact congrArg _ (congrArg _ (zer_repeat n)), hb⟩
theorem ba_assoc (a b c : ByteArray) : a ++ (b ++ c) = (a ++ b) ++ c := by
 apply ByteArray.ext; simp [ByteArray.data_append, Array.append_assoc]
theorem itoa_pos (n : Nat) : (⟨(Lib.itoa (n : Int)).toArray⟩ : ByteArray) = decS n := by
 unfold Lib.itoa
 rw [if_neg (by omega), Int.toNat_natCast, decDigits_S]
theorem itoa_neg (n : Nat) (h : 1 ≤ n) : (⟨(Lib.itoa (-(n : Int))).toArray⟩ : ByteArray) = (⟨#[45]⟩ : ByteArray) ++ decS n := by
 unfold Lib.itoa
 rw [if_pos (by omega), Int.natAbs_neg, Int.natAbs_natCast, decDigits_S]
 apply ByteArray.ext; simp [ByteArray.data_append]
theorem numlaid_1 (d : ByteArray) (e : Int) (w : World) (hd : d.size ≤ 100) (h : (d.size : Int) ≤ e ∧ e ≤ 21) :
  Calls Tryz.prog 104 #[.string d, .int .i64 e] w fun en w' => en = .returned (.string (d ++ zerS (e - d.size).toNat)) ∧ Below w.heap.size w w' := by
 obtain ⟨n, hn⟩ : ∃ n, n = (e - d.size).toNat := ⟨_, rfl⟩
 have c1 : decide ((d.size : Int) ≤ e) = true := decide_eq_true h.1
 have c2 : decide (e ≤ 21) = true := decide_eq_true h.2
 have c3 : wrap64 (e - (d.size : Int)) = (n : Int) := by rw [hn, w64 (by omega)]; omega
 rw [← hn]
 have hz := fun w => repeat_b n w (by omega)
 have hzs := zerS_size n
 have hnb : n ≤ 100 := by omega
 clear hn h
 go_enter Tryz.func104, Tryz.ntmps104
 go_wp2_with fail
 refine (hz _).mono ?_
 rintro en w' ⟨rfl, hb⟩
 go_wp2_with fail
 go_ret
 exact ⟨rfl, hb⟩
theorem numlaid_3 (d : ByteArray) (e : Int) (w : World) (hd : d.size ≤ 100) (hd1 : 1 ≤ d.size) (h : -6 < e ∧ e ≤ 0) :
  Calls Tryz.prog 104 #[.string d, .int .i64 e] w fun en w' => en = .returned (.string (((⟨#[48, 46]⟩ : ByteArray) ++ zerS (-e).toNat) ++ d)) ∧ Below w.heap.size w w' := by
 obtain ⟨n, hn⟩ : ∃ n, n = (-e).toNat := ⟨_, rfl⟩
 have c1 : decide ((d.size : Int) ≤ e) = false := decide_eq_false (by omega)
 have c2 : decide (0 < e) = false := decide_eq_false (by omega)
 have c4 : decide (-6 < e) = true := decide_eq_true h.1
 have c5 : decide (e ≤ 0) = true := decide_eq_true h.2
 have c3 : wrap64 (-e) = (n : Int) := by rw [hn, w64 (by omega)]; omega
 rw [← hn]
 have hz := fun w => repeat_b n w (by omega)
 have hzs := zerS_size n
 have hnb : n ≤ 100 := by omega
 clear hn h
 go_enter Tryz.func104, Tryz.ntmps104
 go_wp2_with fail
 refine (hz _).mono ?_
 rintro en w' ⟨rfl, hb⟩
 go_wp2_with fail
 go_ret
 exact ⟨rfl, hb⟩
theorem numlaid_2 (d : ByteArray) (e : Int) (w : World) (hd : d.size ≤ 100) (h : 0 < e ∧ e < d.size) :
  Calls Tryz.prog 104 #[.string d, .int .i64 e] w fun en w' => en = .returned (.string ((d.extract 0 e.toNat ++ (⟨#[46]⟩ : ByteArray)) ++ d.extract e.toNat d.size)) ∧ Below w.heap.size w w' := by
 have c1 : decide ((d.size : Int) ≤ e) = false := decide_eq_false (by omega)
 have c2 : decide (0 < e) = true := decide_eq_true h.1
 have c3 : decide (e < (d.size : Int)) = true := decide_eq_true h.2
 have b1 : 0 ≤ e := by omega
 have b2 : e ≤ (d.size : Int) := by omega
 obtain ⟨n, rfl⟩ : ∃ n : Nat, e = n := ⟨e.toNat, by omega⟩
 have b3 : n ≤ d.size := by omega
 have f1 : decide (d.size ≤ n) = false := decide_eq_false (by omega)
 have f2 : decide (0 < n) = true := decide_eq_true (by omega)
 have f3 : decide (n < d.size) = true := decide_eq_true (by omega)
 have s1 : (d.extract 0 n).size = n := by simp; omega
 have s2 : (d.extract n d.size).size = d.size - n := by simp
 clear h
 go_enter Tryz.func104, Tryz.ntmps104
 go_wp2_with fail
 go_quiet (fail)
 go_wp2_with fail
 go_ret
 exact ⟨rfl, below_draws (Below.refl _ _) _⟩
theorem numlaid_4a (d : ByteArray) (e : Int) (w : World) (hT : Tabs w) (hd : d.size ≤ 100) (hd1 : 1 ≤ d.size) (h : -1000 ≤ e ∧ e ≤ -6) :
  Calls Tryz.prog 104 #[.string d, .int .i64 e] w fun en w' => en = .returned (.string ((headS d ++ (⟨#[101, 45]⟩ : ByteArray)) ++ decS (1 - e).toNat)) ∧ Below w.heap.size w w' := by
 obtain ⟨n, hn⟩ : ∃ n, n = (1 - e).toNat := ⟨_, rfl⟩
 have c1 : decide ((d.size : Int) ≤ e) = false := decide_eq_false (by omega)
 have c2 : decide (0 < e) = false := decide_eq_false (by omega)
 have c4 : decide (-6 < e) = false := decide_eq_false (by omega)
 have w1 : wrap64 (e - 1) = -(n : Int) := by rw [w64 (by omega)]; omega
 rw [← hn]
 obtain ⟨T, hTs⟩ : ∃ T : ByteArray, T = (⟨#[45]⟩ : ByteArray) ++ decS n := ⟨_, rfl⟩
 have hz := decS_le n (by omega)
 have hTz : T.size ≤ 21 := by rw [hTs]; simp [ByteArray.size_append] at *; have : (⟨#[45]⟩ : ByteArray).size = 1 := rfl
                              omega
 have h122 : Calls Tryz.prog 122 #[.int .i64 (-(n : Int))] w fun en w' => en = .returned (.string T) ∧ Below w.heap.size w w' :=
  (itoa_b (-(n : Int)) (by omega) (by omega) w hT).mono fun en w' ⟨a, b⟩ => ⟨by rw [a, itoa_neg n (by omega), ← hTs], b⟩
 have s1 : (d.extract 0 1).size = 1 := by simp; omega
 have s2 : (d.extract 1 d.size).size = d.size - 1 := by simp
 have b1 : (1 : Int) ≤ (d.size : Int) := by omega
 have b0 : 1 ≤ d.size := by omega
 have hfin : ∀ t : ByteArray, (t ++ (⟨#[101]⟩ : ByteArray)) ++ T = (t ++ (⟨#[101, 45]⟩ : ByteArray)) ++ decS n := by
  intro t; rw [hTs]; apply ByteArray.ext; apply Array.ext'; simp [ByteArray.data_append]
 have HF := Lib.hid hfin
 have HTs := Lib.hid hTs
 clear hn h hfin hTs
 unfold headS
 by_cases h1 : 1 < d.size
 ·rw [if_pos h1]
  have d1 : decide ((1 : Int) < (d.size : Int)) = true := decide_eq_true (by omega)
  have d2 : decide (1 < d.size) = true := decide_eq_true h1
  have hA := ba_assoc (d.extract 0 1) (⟨#[46]⟩ : ByteArray) (d.extract 1 d.size)
  have HA := Lib.hid hA
  clear hA
  go_enter Tryz.func104, Tryz.ntmps104
  go_wp2_with fail
  refine h122.mono ?_
  rintro en w' ⟨rfl, hb⟩
  go_wp2_with fail
  go_ret
  exact ⟨by rw [← HF.out, ← HA.out]; rfl, hb⟩
 ·rw [if_neg h1]
  have d1 : decide ((1 : Int) < (d.size : Int)) = false := decide_eq_false (by omega)
  have d2 : decide (1 < d.size) = false := decide_eq_false h1
  go_enter Tryz.func104, Tryz.ntmps104
  go_wp2_with fail
  refine h122.mono ?_
  rintro en w' ⟨rfl, hb⟩
  go_wp2_with fail
  go_ret
  exact ⟨by rw [← HF.out]; rfl, hb⟩
theorem numlaid_4b (d : ByteArray) (e : Int) (w : World) (hT : Tabs w) (hd : d.size ≤ 100) (hd1 : 1 ≤ d.size) (h : 21 < e ∧ e ≤ 1000) (he : (d.size : Int) ≤ e) :
  Calls Tryz.prog 104 #[.string d, .int .i64 e] w fun en w' => en = .returned (.string ((headS d ++ (⟨#[101]⟩ : ByteArray)) ++ decS (e - 1).toNat)) ∧ Below w.heap.size w w' := by
 obtain ⟨n, hn⟩ : ∃ n, n = (e - 1).toNat := ⟨_, rfl⟩
 have c1 : decide ((d.size : Int) ≤ e) = true := decide_eq_true he
 have c0 : decide (e ≤ 21) = false := decide_eq_false (by omega)
 have c2 : decide (0 < e) = true := decide_eq_true (by omega)
 have c3 : decide (e < (d.size : Int)) = false := decide_eq_false (by omega)
 have c4 : decide (-6 < e) = true := decide_eq_true (by omega)
 have c6 : decide (e ≤ 0) = false := decide_eq_false (by omega)
 have w2 : wrap64 (e - 1) = (n : Int) := by rw [hn, w64 (by omega)]; omega
 rw [← hn]
 have h122 : Calls Tryz.prog 122 #[.int .i64 (n : Int)] w fun en w' => en = .returned (.string (decS n)) ∧ Below w.heap.size w w' :=
  (itoa_b (n : Int) (by omega) (by omega) w hT).mono fun en w' ⟨a, b⟩ => ⟨by rw [a, itoa_pos n], b⟩
 have hz := decS_le n (by omega)
 have s1 : (d.extract 0 1).size = 1 := by simp; omega
 have s2 : (d.extract 1 d.size).size = d.size - 1 := by simp
 have b1 : (1 : Int) ≤ (d.size : Int) := by omega
 have b0 : 1 ≤ d.size := by omega
 clear hn h he
 unfold headS
 by_cases h1 : 1 < d.size
 ·rw [if_pos h1]
  have d1 : decide ((1 : Int) < (d.size : Int)) = true := decide_eq_true (by omega)
  have d2 : decide (1 < d.size) = true := decide_eq_true h1
  have hA := ba_assoc (d.extract 0 1) (⟨#[46]⟩ : ByteArray) (d.extract 1 d.size)
  have HA := Lib.hid hA
  clear hA
  go_enter Tryz.func104, Tryz.ntmps104
  go_wp2_with fail
  refine h122.mono ?_
  rintro en w' ⟨rfl, hb⟩
  go_wp2_with fail
  go_ret
  exact ⟨by rw [← HA.out]; rfl, hb⟩
 ·rw [if_neg h1]
  have d1 : decide ((1 : Int) < (d.size : Int)) = false := decide_eq_false (by omega)
  have d2 : decide (1 < d.size) = false := decide_eq_false h1
  go_enter Tryz.func104, Tryz.ntmps104
  go_wp2_with fail
  refine h122.mono ?_
  rintro en w' ⟨rfl, hb⟩
  go_wp2_with fail
  go_ret
  exact ⟨rfl, hb⟩
theorem numlaid_b (d : ByteArray) (e : Int) (w : World) (hT : Tabs w) (hd : d.size ≤ 100) (hd1 : 1 ≤ d.size) (h : -1000 ≤ e ∧ e ≤ 1000) :
  Calls Tryz.prog 104 #[.string d, .int .i64 e] w fun en w' => en = .returned (.string (laidS d e)) ∧ Below w.heap.size w w' := by
 unfold laidS
 by_cases h1 : (d.size : Int) ≤ e ∧ e ≤ 21
 ·rw [if_pos h1]; exact numlaid_1 d e w hd h1
 ·rw [if_neg h1]
  by_cases h2 : 0 < e ∧ e < d.size
  ·rw [if_pos h2]; exact numlaid_2 d e w hd h2
  ·rw [if_neg h2]
   by_cases h3 : -6 < e ∧ e ≤ 0
   ·rw [if_pos h3]; exact numlaid_3 d e w hd hd1 h3
   ·rw [if_neg h3]
    by_cases h4 : e - 1 < 0
    ·simp only [if_pos h4]
     exact numlaid_4a d e w hT hd hd1 (by omega)
    ·simp only [if_neg h4]
     exact numlaid_4b d e w hT hd hd1 (by omega) (by omega)
end
end Go.Proofs.YtepfodmbjojdbaaGreatDoor.Num
