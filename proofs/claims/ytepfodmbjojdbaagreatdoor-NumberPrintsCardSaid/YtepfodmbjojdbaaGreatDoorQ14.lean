/- NumberPrints: the walk of strconv's fmtE. No conditions beyond each theorem's own. -/
import Derived.Test.YtepfodmbjojdbaaGreatDoorQ13
import Derived.Lib.Hide
set_option linter.all false
namespace Go.Proofs.YtepfodmbjojdbaaGreatDoor.Num
open Go Go.RowKit Go.Sort Go.Lib YtepfodmbjojdbaaGreatDoorW.PrintWords YtepfodmbjojdbaaGreatDoorW.PrintMore PNumberPrints
set_option maxHeartbeats 3200000
set_option maxRecDepth 100000
def mantE (c0 : UInt8) (ds : List UInt8) : List UInt8 := if ds = [] then [c0] else c0 :: 46 :: ds
def dgB (y : Nat) : UInt8 := UInt8.ofNat (y + 48)
theorem encD (y : Nat) (h : y < 10) : encB (dgB y) = .int .u8 ((y : Int) + 48) := by
 unfold encB dgB
 have e : (UInt8.ofNat (y + 48)).toNat = y + 48 := by simp; omega
 rw [e]; rfl
def expD (z : Nat) : List UInt8 := if z < 10 then [48, dgB z] else if z < 100 then [dgB (z / 10), dgB (z % 10)] else [dgB (z / 100), dgB (z / 10 % 10), dgB (z % 10)]
def expE (sg : UInt8) (z : Nat) : List UInt8 := [101] ++ [sg] ++ expD z
theorem fmtE_pos (g blk k z : Nat) (w : World) (c0 : UInt8) (ds : List UInt8) (hB : BufAt w g 24 []) (hBg : g < w.heap.size) (hbb : blk < w.heap.size) (hne : Hid (blk ≠ g)) (hds : Hid (ds.length = k ∧ k ≤ 16)) (hz : z ≤ 400)
  (hrow : Hid (∀ (j : Nat) (u : Value), (ds.map encB)[j]? = some u → w.cell? ⟨blk, 1 + j, none⟩ = some u))
  (hc0 : w.cell? ⟨blk, 0, none⟩ = some (.int .u8 (c0.toNat : Int))) :
  Calls Tryz.prog 199 #[.slice (some ⟨g, 0, none⟩) 0 24, .bool false, .slice (some ⟨blk, 0, none⟩) 32 32, .int .i64 ((z : Int) + 1), .int .i64 ((k + 1 : Nat) : Int), .int .i64 (k : Int), .int .u8 101, .bool true] w fun e w' =>
   e = .returned (.slice (some ⟨g, 0, none⟩) (mantE c0 ds ++ expE 43 z).length 24) ∧ BufAt w' g 24 (mantE c0 ds ++ expE 43 z) ∧ Below g w w' := by
 go_enter Tryz.func199, Tryz.ntmps199
 have hk1 : (((k + 1 : Nat) : Int) != 0) = true := by simp; omega
 go_upto_if 92 with (at_builtin; refine wpList_new w (by rfl) (.tmp 87) (.tmp 89) (by rfl) g 24 [] [c0] #[.int .u8 (c0.toNat : Int)] rfl 0 (by first | rfl | simp) (by simp [Act.eval]) hB hBg 1 rfl (by simp [Act.eval]) (by simp; try omega) ?_; intro w2 hw2 hw2L hw2g hw2s hw2r)
 have hw2r' : ∀ (j : Nat) (u : Value), (ds.map encB)[j]? = some u → w2.cell? ⟨blk, 1 + j, none⟩ = some u := fun j u hj => by
  rw [hw2r ⟨blk, 1 + j, none⟩ hbb hne]
  exact (show ∀ (j : Nat) (u : Value), (ds.map encB)[j]? = some u → w.cell? ⟨blk, 1 + j, none⟩ = some u from hrow) j u hj
 have hw2bb : blk < w2.heap.size := by omega
 have HR2 := Lib.hid hw2r'
 have HS2 := Lib.hid hw2r
 clear hw2r hw2r' hc0
 go_cut [0] (fun v0 wc => v0 = .slice (some ⟨g, 0, none⟩) (mantE c0 ds).length 24 ∧ BufAt wc g 24 (mantE c0 ds) ∧ Below g w wc ∧ g < wc.heap.size)
 case first =>
  by_cases hd : ds = []
  ·subst hd
   have hk0 : k = 0 := (show _ ∧ _ from hds).1.symm
   subst hk0
   go_wp2_with fail
   go_meet
   exact ⟨rfl, hw2, hw2L, hw2g⟩
  ·have hkp : 0 < k := by
    have h1 := (show _ ∧ _ from hds).1
    rcases Nat.eq_zero_or_pos k with h | h
    ·exact absurd (List.length_eq_zero_iff.1 (by omega)) hd
    ·exact h
   have hk16 : k ≤ 16 := (show _ ∧ _ from hds).2
   have hkd : decide ((0 : Int) < (k : Int)) = true := by simp; omega
   have hkd2 : decide (0 < k) = true := by simp; omega
   go_upto_if 102 with (at_builtin; refine wpList_new w2 (by rfl) (.tmp 93) (.tmp 94) (by rfl) g 24 [c0] [46] #[.int .u8 46] rfl 1 (by first | rfl | simp) (by simp [Act.eval]) hw2 hw2g 1 rfl (by simp [Act.eval]) (by simp; try omega) ?_; intro w3 hw3 hw3L hw3g hw3s hw3r)
   have hw3r' : ∀ (j : Nat) (u : Value), (ds.map encB)[j]? = some u → w3.cell? ⟨blk, 1 + j, none⟩ = some u := fun j u hj => by
    rw [hw3r ⟨blk, 1 + j, none⟩ hw2bb (show blk ≠ g from hne)]
    exact HR2.out j u hj
   have HR3 := Lib.hid hw3r'
   clear hw3r hw3r'
   have c1 : decide ((1 : Int) < ((k + 1 : Nat) : Int)) = true := by simp; omega
   have hkl : k = ds.length := (show _ ∧ _ from hds).1.symm
   have HKL := Lib.hid hkl
   have hroom : ([c0] ++ [46]).length + ds.length ≤ 24 := by have := (show _ ∧ _ from hds).1; simp; omega
   have HRM := Lib.hid hroom
   clear hkl hroom
   go_wp2_with (at_builtin; refine wpList_old w3 (by rfl) (.tmp 103) (.tmp 107) (by rfl) g 24 ([c0] ++ [46]) ds 2 rfl (by simp [Act.eval]) hw3 hw3g blk 1 k 31 HKL.out (by simp [Act.eval]) HR3.out HRM.out ?_; intro w4 hw4 hw4L hw4g hw4s hw4r)
   refine wp_loop_rounds 1 ?_
   rw [rounds_succ]
   go_wp2_with fail
   go_meet
   have he : mantE c0 ds = [c0] ++ [46] ++ ds := by unfold mantE; rw [if_neg hd]; rfl
   refine ⟨?_, by rw [he]; exact hw4, hw2L.trans (hw3L.trans hw4L), hw4g⟩
   rw [he, HKL.out]; simp; omega
 case rest =>
  obtain ⟨rfl, hwc, hwcL, hwcg⟩ := hcut
  have hML : (mantE c0 ds).length ≤ 18 := by
   have := (show _ ∧ _ from hds)
   unfold mantE; split <;> simp <;> omega
  generalize hM : mantE c0 ds = M at *
  have HM := Lib.hid hM
  clear HR2 HS2 hk1 hw2 hw2L hw2g hw2s hw2bb w2 hB hrow hM
  have v1 : z < 10 → [48, dgB z].map encB = #[Value.int .u8 48, .int .u8 ((z : Int) + 48)].toList := fun h => by
   simp only [List.map_cons, List.map_nil, encD z h]; rfl
  have v2 : z < 100 → [dgB (z / 10), dgB (z % 10)].map encB = #[Value.int .u8 ((z : Int) / 10 + 48), .int .u8 ((z : Int) % 10 + 48)].toList := fun h => by
   simp only [List.map_cons, List.map_nil, encD (z / 10) (by omega), encD (z % 10) (by omega)]; rfl
  have v3 : [dgB (z / 100), dgB (z / 10 % 10), dgB (z % 10)].map encB = #[Value.int .u8 ((z : Int) / 100 + 48), .int .u8 ((z : Int) / 10 % 10 + 48), .int .u8 ((z : Int) % 10 + 48)].toList := by
   simp only [List.map_cons, List.map_nil, encD (z / 100) (by omega), encD (z / 10 % 10) (by omega), encD (z % 10) (by omega)]; rfl
  have V1 := Lib.hid v1
  have V2 := Lib.hid v2
  have V3 := Lib.hid v3
  clear v1 v2 v3
  by_cases z10 : z < 10
  ·
   go_wp2_with (first | (at_builtin; refine wpList_new wc (by rfl) (.tmp 120) (.tmp 122) (by rfl) g 24 M [101] #[.int .u8 101] rfl M.length (by first | rfl | simp) (by simp [Act.eval]) hwc hwcg 1 rfl (by simp [Act.eval]) (by simp; try omega) ?_; intro wA hwA hwAL hwAg hwAs hwAr) | (at_builtin; refine wpList_new wA (by rfl) (.tmp 132) (.tmp 134) (by rfl) g 24 (M ++ [101]) [43] #[.int .u8 43] rfl (M.length + 1) (by first | rfl | simp) (by simp [Act.eval]) hwA hwAg 1 rfl (by simp [Act.eval]) (by simp; try omega) ?_; intro wB hwB hwBL hwBg hwBs hwBr) | (at_builtin; refine wpList_new wB (by rfl) (.tmp 155) (.tmp 159) (by rfl) g 24 (M ++ [101] ++ [43]) [48, dgB z] #[Value.int .u8 48, .int .u8 ((z : Int) + 48)] (V1.out z10) (M.length + 1 + 1) (by first | rfl | simp) (by simp [Act.eval]) hwB hwBg 2 rfl (by simp [Act.eval]) (by simp; try omega) ?_; intro wD hwD hwDL hwDg hwDs hwDr))
   have hx : mantE c0 ds ++ expE 43 z = (M ++ [101] ++ [43]) ++ [48, dgB z] := by rw [HM.out]; unfold expE expD; simp [z10]
   go_ret
   have hxl := congrArg List.length hx
   exact ⟨by simp at hxl ⊢; omega, by rw [hx]; exact hwD, hwcL.trans (hwAL.trans (hwBL.trans hwDL))⟩
  ·by_cases z100 : z < 100
   ·
    go_wp2_with (first | (at_builtin; refine wpList_new wc (by rfl) (.tmp 120) (.tmp 122) (by rfl) g 24 M [101] #[.int .u8 101] rfl M.length (by first | rfl | simp) (by simp [Act.eval]) hwc hwcg 1 rfl (by simp [Act.eval]) (by simp; try omega) ?_; intro wA hwA hwAL hwAg hwAs hwAr) | (at_builtin; refine wpList_new wA (by rfl) (.tmp 132) (.tmp 134) (by rfl) g 24 (M ++ [101]) [43] #[.int .u8 43] rfl (M.length + 1) (by first | rfl | simp) (by simp [Act.eval]) hwA hwAg 1 rfl (by simp [Act.eval]) (by simp; try omega) ?_; intro wB hwB hwBL hwBg hwBs hwBr) | (at_builtin; refine wpList_new wB (by rfl) (.tmp 164) (.tmp 173) (by rfl) g 24 (M ++ [101] ++ [43]) [dgB (z / 10), dgB (z % 10)] #[Value.int .u8 ((z : Int) / 10 + 48), .int .u8 ((z : Int) % 10 + 48)] (V2.out z100) (M.length + 1 + 1) (by first | rfl | simp) (by simp [Act.eval]) hwB hwBg 2 rfl (by simp [Act.eval]) (by simp; try omega) ?_; intro wD hwD hwDL hwDg hwDs hwDr))
    have hx : mantE c0 ds ++ expE 43 z = (M ++ [101] ++ [43]) ++ [dgB (z / 10), dgB (z % 10)] := by rw [HM.out]; unfold expE expD; simp [z10, z100]
    go_ret
    have hxl := congrArg List.length hx
    exact ⟨by simp at hxl ⊢; omega, by rw [hx]; exact hwD, hwcL.trans (hwAL.trans (hwBL.trans hwDL))⟩
   ·
    go_wp2_with (first | (at_builtin; refine wpList_new wc (by rfl) (.tmp 120) (.tmp 122) (by rfl) g 24 M [101] #[.int .u8 101] rfl M.length (by first | rfl | simp) (by simp [Act.eval]) hwc hwcg 1 rfl (by simp [Act.eval]) (by simp; try omega) ?_; intro wA hwA hwAL hwAg hwAs hwAr) | (at_builtin; refine wpList_new wA (by rfl) (.tmp 132) (.tmp 134) (by rfl) g 24 (M ++ [101]) [43] #[.int .u8 43] rfl (M.length + 1) (by first | rfl | simp) (by simp [Act.eval]) hwA hwAg 1 rfl (by simp [Act.eval]) (by simp; try omega) ?_; intro wB hwB hwBL hwBg hwBs hwBr) | (at_builtin; refine wpList_new wB (by rfl) (.tmp 136) (.tmp 150) (by rfl) g 24 (M ++ [101] ++ [43]) [dgB (z / 100), dgB (z / 10 % 10), dgB (z % 10)] #[Value.int .u8 ((z : Int) / 100 + 48), .int .u8 ((z : Int) / 10 % 10 + 48), .int .u8 ((z : Int) % 10 + 48)] V3.out (M.length + 1 + 1) (by first | rfl | simp) (by simp [Act.eval]) hwB hwBg 3 rfl (by simp [Act.eval]) (by simp; try omega) ?_; intro wD hwD hwDL hwDg hwDs hwDr))
    have hx : mantE c0 ds ++ expE 43 z = (M ++ [101] ++ [43]) ++ [dgB (z / 100), dgB (z / 10 % 10), dgB (z % 10)] := by rw [HM.out]; unfold expE expD; simp [z10, z100]
    go_ret
    have hxl := congrArg List.length hx
    exact ⟨by simp at hxl ⊢; omega, by rw [hx]; exact hwD, hwcL.trans (hwAL.trans (hwBL.trans hwDL))⟩
theorem fmtE_neg (g blk k z : Nat) (w : World) (c0 : UInt8) (ds : List UInt8) (hB : BufAt w g 24 []) (hBg : g < w.heap.size) (hbb : blk < w.heap.size) (hne : Hid (blk ≠ g)) (hds : Hid (ds.length = k ∧ k ≤ 16)) (hz : z ≤ 400) (hz1 : 1 ≤ z)
  (hrow : Hid (∀ (j : Nat) (u : Value), (ds.map encB)[j]? = some u → w.cell? ⟨blk, 1 + j, none⟩ = some u))
  (hc0 : w.cell? ⟨blk, 0, none⟩ = some (.int .u8 (c0.toNat : Int))) :
  Calls Tryz.prog 199 #[.slice (some ⟨g, 0, none⟩) 0 24, .bool false, .slice (some ⟨blk, 0, none⟩) 32 32, .int .i64 (-(z : Int) + 1), .int .i64 ((k + 1 : Nat) : Int), .int .i64 (k : Int), .int .u8 101, .bool true] w fun e w' =>
   e = .returned (.slice (some ⟨g, 0, none⟩) (mantE c0 ds ++ expE 45 z).length 24) ∧ BufAt w' g 24 (mantE c0 ds ++ expE 45 z) ∧ Below g w w' := by
 go_enter Tryz.func199, Tryz.ntmps199
 have hk1 : (((k + 1 : Nat) : Int) != 0) = true := by simp; omega
 go_upto_if 92 with (at_builtin; refine wpList_new w (by rfl) (.tmp 87) (.tmp 89) (by rfl) g 24 [] [c0] #[.int .u8 (c0.toNat : Int)] rfl 0 (by first | rfl | simp) (by simp [Act.eval]) hB hBg 1 rfl (by simp [Act.eval]) (by simp; try omega) ?_; intro w2 hw2 hw2L hw2g hw2s hw2r)
 have hw2r' : ∀ (j : Nat) (u : Value), (ds.map encB)[j]? = some u → w2.cell? ⟨blk, 1 + j, none⟩ = some u := fun j u hj => by
  rw [hw2r ⟨blk, 1 + j, none⟩ hbb hne]
  exact (show ∀ (j : Nat) (u : Value), (ds.map encB)[j]? = some u → w.cell? ⟨blk, 1 + j, none⟩ = some u from hrow) j u hj
 have hw2bb : blk < w2.heap.size := by omega
 have HR2 := Lib.hid hw2r'
 have HS2 := Lib.hid hw2r
 clear hw2r hw2r' hc0
 go_cut [0] (fun v0 wc => v0 = .slice (some ⟨g, 0, none⟩) (mantE c0 ds).length 24 ∧ BufAt wc g 24 (mantE c0 ds) ∧ Below g w wc ∧ g < wc.heap.size)
 case first =>
  by_cases hd : ds = []
  ·subst hd
   have hk0 : k = 0 := (show _ ∧ _ from hds).1.symm
   subst hk0
   go_wp2_with fail
   go_meet
   exact ⟨rfl, hw2, hw2L, hw2g⟩
  ·have hkp : 0 < k := by
    have h1 := (show _ ∧ _ from hds).1
    rcases Nat.eq_zero_or_pos k with h | h
    ·exact absurd (List.length_eq_zero_iff.1 (by omega)) hd
    ·exact h
   have hk16 : k ≤ 16 := (show _ ∧ _ from hds).2
   have hkd : decide ((0 : Int) < (k : Int)) = true := by simp; omega
   have hkd2 : decide (0 < k) = true := by simp; omega
   go_upto_if 102 with (at_builtin; refine wpList_new w2 (by rfl) (.tmp 93) (.tmp 94) (by rfl) g 24 [c0] [46] #[.int .u8 46] rfl 1 (by first | rfl | simp) (by simp [Act.eval]) hw2 hw2g 1 rfl (by simp [Act.eval]) (by simp; try omega) ?_; intro w3 hw3 hw3L hw3g hw3s hw3r)
   have hw3r' : ∀ (j : Nat) (u : Value), (ds.map encB)[j]? = some u → w3.cell? ⟨blk, 1 + j, none⟩ = some u := fun j u hj => by
    rw [hw3r ⟨blk, 1 + j, none⟩ hw2bb (show blk ≠ g from hne)]
    exact HR2.out j u hj
   have HR3 := Lib.hid hw3r'
   clear hw3r hw3r'
   have c1 : decide ((1 : Int) < ((k + 1 : Nat) : Int)) = true := by simp; omega
   have hkl : k = ds.length := (show _ ∧ _ from hds).1.symm
   have HKL := Lib.hid hkl
   have hroom : ([c0] ++ [46]).length + ds.length ≤ 24 := by have := (show _ ∧ _ from hds).1; simp; omega
   have HRM := Lib.hid hroom
   clear hkl hroom
   go_wp2_with (at_builtin; refine wpList_old w3 (by rfl) (.tmp 103) (.tmp 107) (by rfl) g 24 ([c0] ++ [46]) ds 2 rfl (by simp [Act.eval]) hw3 hw3g blk 1 k 31 HKL.out (by simp [Act.eval]) HR3.out HRM.out ?_; intro w4 hw4 hw4L hw4g hw4s hw4r)
   refine wp_loop_rounds 1 ?_
   rw [rounds_succ]
   go_wp2_with fail
   go_meet
   have he : mantE c0 ds = [c0] ++ [46] ++ ds := by unfold mantE; rw [if_neg hd]; rfl
   refine ⟨?_, by rw [he]; exact hw4, hw2L.trans (hw3L.trans hw4L), hw4g⟩
   rw [he, HKL.out]; simp; omega
 case rest =>
  obtain ⟨rfl, hwc, hwcL, hwcg⟩ := hcut
  have hML : (mantE c0 ds).length ≤ 18 := by
   have := (show _ ∧ _ from hds)
   unfold mantE; split <;> simp <;> omega
  generalize hM : mantE c0 ds = M at *
  have HM := Lib.hid hM
  clear HR2 HS2 hk1 hw2 hw2L hw2g hw2s hw2bb w2 hB hrow hM
  have v1 : z < 10 → [48, dgB z].map encB = #[Value.int .u8 48, .int .u8 ((z : Int) + 48)].toList := fun h => by
   simp only [List.map_cons, List.map_nil, encD z h]; rfl
  have v2 : z < 100 → [dgB (z / 10), dgB (z % 10)].map encB = #[Value.int .u8 ((z : Int) / 10 + 48), .int .u8 ((z : Int) % 10 + 48)].toList := fun h => by
   simp only [List.map_cons, List.map_nil, encD (z / 10) (by omega), encD (z % 10) (by omega)]; rfl
  have v3 : [dgB (z / 100), dgB (z / 10 % 10), dgB (z % 10)].map encB = #[Value.int .u8 ((z : Int) / 100 + 48), .int .u8 ((z : Int) / 10 % 10 + 48), .int .u8 ((z : Int) % 10 + 48)].toList := by
   simp only [List.map_cons, List.map_nil, encD (z / 100) (by omega), encD (z / 10 % 10) (by omega), encD (z % 10) (by omega)]; rfl
  have V1 := Lib.hid v1
  have V2 := Lib.hid v2
  have V3 := Lib.hid v3
  clear v1 v2 v3
  by_cases z10 : z < 10
  ·
   go_wp2_with (first | (at_builtin; refine wpList_new wc (by rfl) (.tmp 120) (.tmp 122) (by rfl) g 24 M [101] #[.int .u8 101] rfl M.length (by first | rfl | simp) (by simp [Act.eval]) hwc hwcg 1 rfl (by simp [Act.eval]) (by simp; try omega) ?_; intro wA hwA hwAL hwAg hwAs hwAr) | (at_builtin; refine wpList_new wA (by rfl) (.tmp 132) (.tmp 134) (by rfl) g 24 (M ++ [101]) [45] #[.int .u8 45] rfl (M.length + 1) (by first | rfl | simp) (by simp [Act.eval]) hwA hwAg 1 rfl (by simp [Act.eval]) (by simp; try omega) ?_; intro wB hwB hwBL hwBg hwBs hwBr) | (at_builtin; refine wpList_new wB (by rfl) (.tmp 155) (.tmp 159) (by rfl) g 24 (M ++ [101] ++ [45]) [48, dgB z] #[Value.int .u8 48, .int .u8 ((z : Int) + 48)] (V1.out z10) (M.length + 1 + 1) (by first | rfl | simp) (by simp [Act.eval]) hwB hwBg 2 rfl (by simp [Act.eval]) (by simp; try omega) ?_; intro wD hwD hwDL hwDg hwDs hwDr))
   have hx : mantE c0 ds ++ expE 45 z = (M ++ [101] ++ [45]) ++ [48, dgB z] := by rw [HM.out]; unfold expE expD; simp [z10]
   go_ret
   have hxl := congrArg List.length hx
   exact ⟨by simp at hxl ⊢; omega, by rw [hx]; exact hwD, hwcL.trans (hwAL.trans (hwBL.trans hwDL))⟩
  ·by_cases z100 : z < 100
   ·
    go_wp2_with (first | (at_builtin; refine wpList_new wc (by rfl) (.tmp 120) (.tmp 122) (by rfl) g 24 M [101] #[.int .u8 101] rfl M.length (by first | rfl | simp) (by simp [Act.eval]) hwc hwcg 1 rfl (by simp [Act.eval]) (by simp; try omega) ?_; intro wA hwA hwAL hwAg hwAs hwAr) | (at_builtin; refine wpList_new wA (by rfl) (.tmp 132) (.tmp 134) (by rfl) g 24 (M ++ [101]) [45] #[.int .u8 45] rfl (M.length + 1) (by first | rfl | simp) (by simp [Act.eval]) hwA hwAg 1 rfl (by simp [Act.eval]) (by simp; try omega) ?_; intro wB hwB hwBL hwBg hwBs hwBr) | (at_builtin; refine wpList_new wB (by rfl) (.tmp 164) (.tmp 173) (by rfl) g 24 (M ++ [101] ++ [45]) [dgB (z / 10), dgB (z % 10)] #[Value.int .u8 ((z : Int) / 10 + 48), .int .u8 ((z : Int) % 10 + 48)] (V2.out z100) (M.length + 1 + 1) (by first | rfl | simp) (by simp [Act.eval]) hwB hwBg 2 rfl (by simp [Act.eval]) (by simp; try omega) ?_; intro wD hwD hwDL hwDg hwDs hwDr))
    have hx : mantE c0 ds ++ expE 45 z = (M ++ [101] ++ [45]) ++ [dgB (z / 10), dgB (z % 10)] := by rw [HM.out]; unfold expE expD; simp [z10, z100]
    go_ret
    have hxl := congrArg List.length hx
    exact ⟨by simp at hxl ⊢; omega, by rw [hx]; exact hwD, hwcL.trans (hwAL.trans (hwBL.trans hwDL))⟩
   ·
    go_wp2_with (first | (at_builtin; refine wpList_new wc (by rfl) (.tmp 120) (.tmp 122) (by rfl) g 24 M [101] #[.int .u8 101] rfl M.length (by first | rfl | simp) (by simp [Act.eval]) hwc hwcg 1 rfl (by simp [Act.eval]) (by simp; try omega) ?_; intro wA hwA hwAL hwAg hwAs hwAr) | (at_builtin; refine wpList_new wA (by rfl) (.tmp 132) (.tmp 134) (by rfl) g 24 (M ++ [101]) [45] #[.int .u8 45] rfl (M.length + 1) (by first | rfl | simp) (by simp [Act.eval]) hwA hwAg 1 rfl (by simp [Act.eval]) (by simp; try omega) ?_; intro wB hwB hwBL hwBg hwBs hwBr) | (at_builtin; refine wpList_new wB (by rfl) (.tmp 136) (.tmp 150) (by rfl) g 24 (M ++ [101] ++ [45]) [dgB (z / 100), dgB (z / 10 % 10), dgB (z % 10)] #[Value.int .u8 ((z : Int) / 100 + 48), .int .u8 ((z : Int) / 10 % 10 + 48), .int .u8 ((z : Int) % 10 + 48)] V3.out (M.length + 1 + 1) (by first | rfl | simp) (by simp [Act.eval]) hwB hwBg 3 rfl (by simp [Act.eval]) (by simp; try omega) ?_; intro wD hwD hwDL hwDg hwDs hwDr))
    have hx : mantE c0 ds ++ expE 45 z = (M ++ [101] ++ [45]) ++ [dgB (z / 100), dgB (z / 10 % 10), dgB (z % 10)] := by rw [HM.out]; unfold expE expD; simp [z10, z100]
    go_ret
    have hxl := congrArg List.length hx
    exact ⟨by simp at hxl ⊢; omega, by rw [hx]; exact hwD, hwcL.trans (hwAL.trans (hwBL.trans hwDL))⟩
end Go.Proofs.YtepfodmbjojdbaaGreatDoor.Num
