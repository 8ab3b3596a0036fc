/- NumberPrints: the contract of the reference's Shortest. No conditions beyond each theorem's own. -/
import Derived.Test.YtepfodmbjojdbaaGreatDoorQ01
import Derived.Test.YtepfodmbjojdbaaGreatDoorQ02
import Derived.Test.YtepfodmbjojdbaaGreatDoorQ04
set_option linter.all false
namespace Go.Proofs.YtepfodmbjojdbaaGreatDoor.Num
open Go Go.RowKit YtepfodmbjojdbaaGreatDoorW.PrintWords YtepfodmbjojdbaaGreatDoorW.PrintLast YtepfodmbjojdbaaGreatDoorW.PrintMore PNumberPrints
set_option maxHeartbeats 1600000
set_option maxRecDepth 100000
theorem strOfNums_append (a b : List Int) : strOfNums (a ++ b) = strOfNums a ++ strOfNums b := by
 apply ByteArray.ext
 simp [strOfNums, ByteArray.data_append]
theorem decN_succ (n x : Nat) : decN (n + 1) x = (48 + ((x / 10 ^ n % 10 : Nat) : Int)) :: decN n x := by
 refine List.ext_getElem (by simp [decN]) ?_
 intro k h1 h2
 cases k with
 | zero => simp [decN]
 | succ k =>
  simp only [decN, List.getElem_map, List.getElem_range, List.getElem_cons_succ]
  congr 4
  congr 1
  omega
theorem refDecimal_l0 : ∀ (d j x : Nat), x < 10 ^ (j + d) → x < 18446744073709551616 → j + d ≤ 20 → (0 < j → x / 10 ^ j ≠ 0) → 0 < d →
  Ev (fun k => stencilref03_decimal.l0 k ((x / 10 ^ j : Nat) : Int) (strOfNums (decN j x))) (decS x) := by
 intro d
 induction d with
 | zero => intro j x _ _ _ _ h; omega
 | succ d ih =>
  intro j x hx hx2 hj hne _
  obtain ⟨y, hy⟩ : ∃ y, y = x / 10 ^ j := ⟨_, rfl⟩
  have hyx : y ≤ x := by rw [hy]; exact Nat.div_le_self _ _
  have hy2 : y < 18446744073709551616 := by omega
  have e1 : [(IntKind.u64.wrap (48 + Int.tmod (y : Int) 10)) % 256] = [(48 + ((y % 10 : Nat) : Int))] := by
   rw [Int.tmod_eq_emod_of_nonneg (by omega), wu64 (by omega)]
   congr 1; omega
  have e2 : IntKind.u64.wrap (Int.tdiv (y : Int) 10) = ((y / 10 : Nat) : Int) := by
   rw [Int.tdiv_eq_ediv_of_nonneg (by omega), wu64 (by omega)]; omega
  have e3 : strOfNums [(48 + ((y % 10 : Nat) : Int))] ++ strOfNums (decN j x) = strOfNums (decN (j + 1) x) := by
   rw [← strOfNums_append, decN_succ, hy]; rfl
  have hsz : (strOfNums [(48 + ((y % 10 : Nat) : Int))]).size + (strOfNums (decN j x)).size ≤ 9223372036854775807 := by
   rw [strOfNums_size, strOfNums_size]; simp [decN]; omega
  have hdd : x / 10 ^ (j + 1) = y / 10 := by rw [hy, Nat.pow_succ, Nat.div_div_eq_div_mul]
  rw [← hy]
  by_cases hz : y / 10 = 0
  ·have hfin : strOfNums (decN (j + 1) x) = decS x := by
    unfold decS; rw [ndig_eq j x hne (by rw [hdd]; exact hz)]
   refine Ev.step (f := fun _ => some (decS x)) (fun k => ?_) (Ev.now _)
   rw [stencilref03_decimal.l0, Option.bind_some, e1, if_pos hsz, e2, if_pos (by omega), e3, hfin]
  ·have hd0 : 0 < d := by
    rcases Nat.eq_zero_or_pos d with h | h
    ·exfalso
     subst h
     apply hz
     rw [← hdd]
     exact Nat.div_eq_of_lt hx
    ·exact h
   have := ih (j + 1) x (by rw [show j + 1 + d = j + (d + 1) by omega]; exact hx) hx2 (by omega) (fun _ => by rw [hdd]; exact hz) hd0
   rw [hdd] at this
   refine Ev.step (fun k => ?_) this
   rw [stencilref03_decimal.l0, Option.bind_some, e1, if_pos hsz, e2, if_neg (by omega), e3]
theorem refDecimal_b (x : Nat) (w : World) (hx : x < 18446744073709551616) :
  Calls Tryz.prog 30 #[.int .u64 (x : Int)] w (Rt w (.string (decS x))) := by
 have h := refDecimal_l0 20 0 x (by omega) hx (by omega) (by omega) (by omega)
 obtain ⟨k, hk⟩ := h.rounds
 refine stencilref03_decimal.calls k _ _ w ?_
 rw [Nat.pow_zero, Nat.div_one] at hk
 exact hk
def zerS (n : Nat) : ByteArray := ⟨Array.replicate n 48⟩
theorem zerS_size (n : Nat) : (zerS n).size = n := by simp [zerS, ByteArray.size]
theorem zerS_succ (n : Nat) : zerS n ++ (⟨#[48]⟩ : ByteArray) = zerS (n + 1) := by
 apply ByteArray.ext
 simp [zerS, ByteArray.data_append, Array.replicate_succ]
theorem zeros_b (n : Nat) (w : World) (hn : n ≤ 100000) : Calls Tryz.prog 142 #[.int .i64 (n : Int)] w (Re w (.string (zerS n))) := by
 go_enter Tryz.func142, Tryz.ntmps142
 go_wp2
 go_loop [3, 4] (fun s i => ∃ k : Nat, k ≤ n ∧ i = .int .i64 k ∧ s = .string (zerS k)) (fun _ i => n - (intOf i).toNat)
 case atStart => exact ⟨0, Nat.zero_le _, rfl, rfl⟩
 case round =>
  obtain ⟨k, hk, rfl, rfl⟩ := hrel
  have hsz := zerS_size k
  have hsu := zerS_succ k
  by_cases hlt : k < n
  ·go_wp2
   go_round
   case rel => exact ⟨k + 1, by omega, by go_num, by first | rfl | rw [hsu]⟩
   case measure => simp [intOf]; omega
  ·have hkn : k = n := by omega
   subst hkn
   clear hsu hk
   go_wp2
   go_ret
   exact ⟨rfl, rfl⟩
def laidS (d : ByteArray) (e : Int) : ByteArray :=
 if (d.size : Int) ≤ e ∧ e ≤ 21 then d ++ zerS (e - d.size).toNat
 else if 0 < e ∧ e < d.size then (d.extract 0 e.toNat ++ (⟨#[46]⟩ : ByteArray)) ++ d.extract e.toNat d.size
 else if -6 < e ∧ e ≤ 0 then ((⟨#[48, 46]⟩ : ByteArray) ++ zerS (-e).toNat) ++ d
 else
  let t := if 1 < d.size then (d.extract 0 1 ++ (⟨#[46]⟩ : ByteArray)) ++ d.extract 1 d.size else d.extract 0 1
  if e - 1 < 0 then (t ++ (⟨#[101, 45]⟩ : ByteArray)) ++ decS (1 - e).toNat else (t ++ (⟨#[101]⟩ : ByteArray)) ++ decS (e - 1).toNat
theorem laid_1 (d : ByteArray) (e : Int) (w : World) (hd : d.size ≤ 100) (h : (d.size : Int) ≤ e ∧ e ≤ 21) :
  Calls Tryz.prog 111 #[.string d, .int .i64 e] w fun en w' => en = .returned (.string (d ++ zerS (e - d.size).toNat)) ∧ Below w.heap.size w w' := by
 obtain ⟨n, hn⟩ : ∃ n, n = (e - d.size).toNat := ⟨_, rfl⟩
 have c1 : decide ((d.size : Int) ≤ e) = true := decide_eq_true h.1
 have c2 : decide (e ≤ 21) = true := decide_eq_true h.2
 have c3 : wrap64 (e - (d.size : Int)) = (n : Int) := by rw [hn, w64 (by omega)]; omega
 rw [← hn]
 have hz := fun w => zeros_b n w (by omega)
 have hzs := zerS_size n
 have hnb : n ≤ 100 := by omega
 clear hn h
 go_enter Tryz.func111, Tryz.ntmps111
 go_wp2_with fail
 refine (hz _).mono ?_
 rintro en w' ⟨rfl, rfl⟩
 go_wp2_with fail
 go_ret
 exact ⟨rfl, Below.refl _ _⟩
theorem laid_3 (d : ByteArray) (e : Int) (w : World) (hd : d.size ≤ 100) (hd1 : 1 ≤ d.size) (h : -6 < e ∧ e ≤ 0) :
  Calls Tryz.prog 111 #[.string d, .int .i64 e] w fun en w' => en = .returned (.string (((⟨#[48, 46]⟩ : ByteArray) ++ zerS (-e).toNat) ++ d)) ∧ Below w.heap.size w w' := by
 obtain ⟨n, hn⟩ : ∃ n, n = (-e).toNat := ⟨_, rfl⟩
 have c1 : decide ((d.size : Int) ≤ e) = false := decide_eq_false (by omega)
 have c2 : decide (0 < e) = false := decide_eq_false (by omega)
 have c4 : decide (-6 < e) = true := decide_eq_true h.1
 have c5 : decide (e ≤ 0) = true := decide_eq_true h.2
 have c3 : wrap64 (-e) = (n : Int) := by rw [hn, w64 (by omega)]; omega
 rw [← hn]
 have hz := fun w => zeros_b n w (by omega)
 have hzs := zerS_size n
 have hnb : n ≤ 100 := by omega
 clear hn h
 go_enter Tryz.func111, Tryz.ntmps111
 go_wp2_with fail
 refine (hz _).mono ?_
 rintro en w' ⟨rfl, rfl⟩
 go_wp2_with fail
 go_ret
 exact ⟨rfl, Below.refl _ _⟩
theorem laid_2 (d : ByteArray) (e : Int) (w : World) (hd : d.size ≤ 100) (h : 0 < e ∧ e < d.size) :
  Calls Tryz.prog 111 #[.string d, .int .i64 e] w fun en w' => en = .returned (.string ((d.extract 0 e.toNat ++ (⟨#[46]⟩ : ByteArray)) ++ d.extract e.toNat d.size)) ∧ Below w.heap.size w w' := by
 have c1 : decide ((d.size : Int) ≤ e) = false := decide_eq_false (by omega)
 have c2 : decide (0 < e) = true := decide_eq_true h.1
 have c3 : decide (e < (d.size : Int)) = true := decide_eq_true h.2
 have b1 : 0 ≤ e := by omega
 have b2 : e ≤ (d.size : Int) := by omega
 obtain ⟨n, rfl⟩ : ∃ n : Nat, e = n := ⟨e.toNat, by omega⟩
 have b3 : n ≤ d.size := by omega
 have f1 : decide (d.size ≤ n) = false := decide_eq_false (by omega)
 have f2 : decide (0 < n) = true := decide_eq_true (by omega)
 have f3 : decide (n < d.size) = true := decide_eq_true (by omega)
 have s1 : (d.extract 0 n).size = n := by simp; omega
 have s2 : (d.extract n d.size).size = d.size - n := by simp
 clear h
 go_enter Tryz.func111, Tryz.ntmps111
 go_wp2_with fail
 go_quiet (fail)
 go_wp2_with fail
 go_ret
 exact ⟨rfl, below_draws (Below.refl _ _) _⟩
def headS (d : ByteArray) : ByteArray := if 1 < d.size then (d.extract 0 1 ++ (⟨#[46]⟩ : ByteArray)) ++ d.extract 1 d.size else d.extract 0 1
theorem laid_4a (d : ByteArray) (e : Int) (w : World) (hd : d.size ≤ 100) (hd1 : 1 ≤ d.size) (h : -1000 ≤ e ∧ e ≤ -6) :
  Calls Tryz.prog 111 #[.string d, .int .i64 e] w fun en w' => en = .returned (.string ((headS d ++ (⟨#[101, 45]⟩ : ByteArray)) ++ decS (1 - e).toNat)) ∧ Below w.heap.size w w' := by
 obtain ⟨n, hn⟩ : ∃ n, n = (1 - e).toNat := ⟨_, rfl⟩
 have c1 : decide ((d.size : Int) ≤ e) = false := decide_eq_false (by omega)
 have c2 : decide (0 < e) = false := decide_eq_false (by omega)
 have c4 : decide (-6 < e) = false := decide_eq_false (by omega)
 have w1 : wrap64 (e - 1) = e - 1 := w64 (by omega)
 have c5 : decide (e - 1 < 0) = true := decide_eq_true (by omega)
 have w2 : wrap64 (1 - e) = (n : Int) := by rw [hn, w64 (by omega)]; omega
 have w3 : IntKind.u64.wrap (n : Int) = (n : Int) := wu64 (by omega)
 rw [← hn]
 have h30 := fun w => refDecimal_b n w (by omega)
 have hz := decS_le n (by omega)
 have s1 : (d.extract 0 1).size = 1 := by simp; omega
 have s2 : (d.extract 1 d.size).size = d.size - 1 := by simp
 have b1 : (1 : Int) ≤ (d.size : Int) := by omega
 clear hn h
 unfold headS
 by_cases h1 : 1 < d.size
 ·rw [if_pos h1]
  have d1 : decide ((1 : Int) < (d.size : Int)) = true := decide_eq_true (by omega)
  have d2 : decide (1 < d.size) = true := decide_eq_true h1
  go_enter Tryz.func111, Tryz.ntmps111
  go_wp2_with fail
  refine (h30 _).mono ?_
  rintro en w' ⟨rfl, hb⟩
  go_wp2_with fail
  go_ret
  exact ⟨rfl, hb⟩
 ·rw [if_neg h1]
  have d1 : decide ((1 : Int) < (d.size : Int)) = false := decide_eq_false (by omega)
  have d2 : decide (1 < d.size) = false := decide_eq_false h1
  go_enter Tryz.func111, Tryz.ntmps111
  go_wp2_with fail
  refine (h30 _).mono ?_
  rintro en w' ⟨rfl, hb⟩
  go_wp2_with fail
  go_ret
  exact ⟨rfl, hb⟩
theorem laid_4b (d : ByteArray) (e : Int) (w : World) (hd : d.size ≤ 100) (hd1 : 1 ≤ d.size) (h : 21 < e ∧ e ≤ 1000) (he : (d.size : Int) ≤ e) :
  Calls Tryz.prog 111 #[.string d, .int .i64 e] w fun en w' => en = .returned (.string ((headS d ++ (⟨#[101]⟩ : ByteArray)) ++ decS (e - 1).toNat)) ∧ Below w.heap.size w w' := by
 obtain ⟨n, hn⟩ : ∃ n, n = (e - 1).toNat := ⟨_, rfl⟩
 have c1 : decide ((d.size : Int) ≤ e) = true := decide_eq_true he
 have c0 : decide (e ≤ 21) = false := decide_eq_false (by omega)
 have c2 : decide (0 < e) = true := decide_eq_true (by omega)
 have c3 : decide (e < (d.size : Int)) = false := decide_eq_false (by omega)
 have c4 : decide (-6 < e) = true := decide_eq_true (by omega)
 have c6 : decide (e ≤ 0) = false := decide_eq_false (by omega)
 have c5 : decide ((n : Int) < 0) = false := decide_eq_false (by omega)
 have w2 : wrap64 (e - 1) = (n : Int) := by rw [hn, w64 (by omega)]; omega
 have w3 : IntKind.u64.wrap (n : Int) = (n : Int) := wu64 (by omega)
 rw [← hn]
 have h30 := fun w => refDecimal_b n w (by omega)
 have hz := decS_le n (by omega)
 have s1 : (d.extract 0 1).size = 1 := by simp; omega
 have s2 : (d.extract 1 d.size).size = d.size - 1 := by simp
 have b1 : (1 : Int) ≤ (d.size : Int) := by omega
 clear hn h he
 unfold headS
 by_cases h1 : 1 < d.size
 ·rw [if_pos h1]
  have d1 : decide ((1 : Int) < (d.size : Int)) = true := decide_eq_true (by omega)
  have d2 : decide (1 < d.size) = true := decide_eq_true h1
  go_enter Tryz.func111, Tryz.ntmps111
  go_wp2_with fail
  refine (h30 _).mono ?_
  rintro en w' ⟨rfl, hb⟩
  go_wp2_with fail
  go_ret
  exact ⟨rfl, hb⟩
 ·rw [if_neg h1]
  have d1 : decide ((1 : Int) < (d.size : Int)) = false := decide_eq_false (by omega)
  have d2 : decide (1 < d.size) = false := decide_eq_false h1
  go_enter Tryz.func111, Tryz.ntmps111
  go_wp2_with fail
  refine (h30 _).mono ?_
  rintro en w' ⟨rfl, hb⟩
  go_wp2_with fail
  go_ret
  exact ⟨rfl, hb⟩
theorem laid_b (d : ByteArray) (e : Int) (w : World) (hd : d.size ≤ 100) (hd1 : 1 ≤ d.size) (h : -1000 ≤ e ∧ e ≤ 1000) :
  Calls Tryz.prog 111 #[.string d, .int .i64 e] w fun en w' => en = .returned (.string (laidS d e)) ∧ Below w.heap.size w w' := by
 unfold laidS
 by_cases h1 : (d.size : Int) ≤ e ∧ e ≤ 21
 ·rw [if_pos h1]; exact laid_1 d e w hd h1
 ·rw [if_neg h1]
  by_cases h2 : 0 < e ∧ e < d.size
  ·rw [if_pos h2]; exact laid_2 d e w hd h2
  ·rw [if_neg h2]
   by_cases h3 : -6 < e ∧ e ≤ 0
   ·rw [if_pos h3]; exact laid_3 d e w hd hd1 h3
   ·rw [if_neg h3]
    by_cases h4 : e - 1 < 0
    ·simp only [if_pos h4]
     exact laid_4a d e w hd hd1 (by omega)
    ·simp only [if_neg h4]
     exact laid_4b d e w hd hd1 (by omega) (by omega)
end Go.Proofs.YtepfodmbjojdbaaGreatDoor.Num
