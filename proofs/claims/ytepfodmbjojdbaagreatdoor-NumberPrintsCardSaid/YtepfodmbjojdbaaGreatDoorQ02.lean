/- NumberPrints: contracts of the reference's big numbers. No conditions beyond each theorem's own. -/
import Derived.Test.YtepfodmbjojdbaaGreatDoorQ01
set_option linter.all false
namespace Go.Proofs.YtepfodmbjojdbaaGreatDoor.Num
open Go Go.RowKit YtepfodmbjojdbaaGreatDoorW.PrintWords YtepfodmbjojdbaaGreatDoorW.PrintMore PNumberPrints
def lval : List Int → Int
 | [] => 0
 | x :: l => x + 16777216 * lval l
def Lim (l : List Int) : Prop := ∀ x ∈ l, 0 ≤ x ∧ x < 16777216
structure Limbs (l : List Int) (n : Nat) : Prop where
 lim : Lim l
 last : l.getLast? ≠ some 0
 val : lval l = n
theorem lval_append (a b : List Int) : lval (a ++ b) = lval a + (16777216 : Int) ^ a.length * lval b := by
 induction a with
 | nil => simp [lval]
 | cons x l ih => simp only [List.cons_append, lval, ih, List.length_cons, Int.pow_succ]; grind
theorem lval_bounds {l : List Int} (h : Lim l) : 0 ≤ lval l ∧ lval l < (16777216 : Int) ^ l.length := by
 induction l with
 | nil => simp [lval]
 | cons x l ih =>
  have hx := h x (by simp)
  have := ih (fun y hy => h y (by simp [hy]))
  simp only [lval, List.length_cons, Int.pow_succ]
  omega
theorem Lim.append {a b : List Int} (ha : Lim a) (hb : Lim b) : Lim (a ++ b) := by
 intro x hx
 rcases List.mem_append.1 hx with h | h
 ·exact ha x h
 ·exact hb x h
theorem Lim.one {x : Int} (h : 0 ≤ x ∧ x < 16777216) : Lim [x] := by intro y hy; simp at hy; subst hy; exact h
theorem Lim.getD {l : List Int} (h : Lim l) (i : Nat) : 0 ≤ l.getD i 0 ∧ l.getD i 0 < 16777216 := by
 rw [List.getD_eq_getElem?_getD]
 cases hi : l[i]? with
 | none => simp
 | some x => simpa using h x (List.mem_of_getElem? hi)
theorem trim_ev : ∀ (d : Nat) (l : List Int), l.length = d → l.length < 1000000000 → Lim l →
  ∃ r, Ev (fun k => stencilref03_trim.f k l) r ∧ Limbs r (lval l).toNat ∧ r.length ≤ l.length := by
 intro d
 induction d with
 | zero =>
  intro l hd hl hlim
  have : l = [] := List.length_eq_zero_iff.1 hd
  subst this
  refine ⟨[], ?_, ⟨hlim, by simp, by simp [lval]⟩, Nat.le_refl _⟩
  refine Ev.step (f := fun _ => some []) (fun k => ?_) (Ev.now _)
  simp [stencilref03_trim.f, stencilref03_trim.l0]
 | succ d ih =>
  intro l hd hl hlim
  have hne : l ≠ [] := by intro h; subst h; simp at hd
  obtain ⟨b, x, rfl⟩ : ∃ b x, l = b ++ [x] := ⟨l.dropLast, l.getLast hne, (List.dropLast_concat_getLast hne).symm⟩
  simp only [List.length_append, List.length_singleton] at hd hl
  have e1 : wrap64 (((b ++ [x]).length : Int) - 1) = (b.length : Int) := by
   rw [w64]
   ·simp
   ·simp; omega
  have hrd : rd (b ++ [x]) (b.length : Int) = x := by rw [rd_nat]; simp
  have hxx := hlim x (by simp)
  by_cases hx : x = 0
  ·subst hx
   obtain ⟨r, h1, h2, h3⟩ := ih b (by omega) (by omega) (fun y hy => hlim y (by simp [hy]))
   refine ⟨r, ?_, ?_, by simp; omega⟩
   ·refine Ev.step (f := fun k => stencilref03_trim.f k b) (fun k => ?_) h1
    simp only [stencilref03_trim.f, stencilref03_trim.l0, e1, hrd]
    rw [if_pos (by simp <;> omega), if_pos (by omega), if_pos (by simp <;> omega), if_pos (by trivial), if_pos (by simp <;> omega)]
    simp
   ·rw [lval_append]; simpa [lval] using h2
  ·refine ⟨b ++ [x], ?_, ⟨hlim, by simpa using hx, ?_⟩, Nat.le_refl _⟩
   ·refine Ev.step (f := fun _ => some (b ++ [x])) (fun k => ?_) (Ev.now _)
    simp only [stencilref03_trim.f, stencilref03_trim.l0, e1, hrd]
    rw [if_pos (by simp <;> omega), if_pos (by omega), if_pos (by simp <;> omega), if_neg hx]
   ·have := (lval_bounds hlim).1; omega
theorem times_l1 : ∀ (d : Nat) (c : Int) (b : List Int), 0 ≤ c → c < (16777216 : Int) ^ d → c < 9223372036854775808 → b.length + d < 1000000000 → Lim b →
  ∃ r, Ev (fun k => stencilref03_times.l1 k c b) r ∧ Limbs r (lval b + (16777216 : Int) ^ b.length * c).toNat ∧ r.length ≤ b.length + d := by
 intro d
 induction d with
 | zero =>
  intro c b h0 h1 hc hl hlim
  have : c = 0 := by simp at h1; omega
  subst this
  obtain ⟨r, g1, g2, g3⟩ := trim_ev _ b rfl (by omega) hlim
  refine ⟨r, ?_, by simpa using g2, by omega⟩
  refine Ev.step (f := fun k => (stencilref03_trim.f k b).bind fun t => some t) (fun k => ?_) (Ev.bind g1 (Ev.now r))
  simp [stencilref03_times.l1]
 | succ d ih =>
  intro c b h0 h1 hc hl hlim
  by_cases hz : c = 0
  ·subst hz
   obtain ⟨r, g1, g2, g3⟩ := trim_ev _ b rfl (by omega) hlim
   refine ⟨r, ?_, by simpa using g2, by omega⟩
   refine Ev.step (f := fun k => (stencilref03_trim.f k b).bind fun t => some t) (fun k => ?_) (Ev.bind g1 (Ev.now r))
   simp [stencilref03_times.l1]
  ·have e1 : Int.tdiv c 16777216 = c / 16777216 := Int.tdiv_eq_ediv_of_nonneg h0
   have e2 : Int.tmod c 16777216 = c % 16777216 := Int.tmod_eq_emod_of_nonneg h0
   have hd1 : c / 16777216 < (16777216 : Int) ^ d := by
    rw [Int.pow_succ] at h1; omega
   obtain ⟨r, g1, g2, g3⟩ := ih (c / 16777216) (b ++ [c % 16777216]) (by omega) hd1 (by omega) (by simp; omega) (hlim.append (Lim.one (by omega)))
   refine ⟨r, ?_, ?_, by simp at g3; omega⟩
   ·refine Ev.step (f := fun k => stencilref03_times.l1 k (c / 16777216) (b ++ [c % 16777216])) (fun k => ?_) g1
    rw [stencilref03_times.l1, if_pos (by omega), if_pos (by omega), e1, e2, w64 (by omega)]
   ·have e : lval (b ++ [c % 16777216]) + (16777216 : Int) ^ (b ++ [c % 16777216]).length * (c / 16777216) = lval b + (16777216 : Int) ^ b.length * c := by
     rw [lval_append]
     simp only [lval, List.length_append, List.length_singleton, Int.pow_succ]
     have := Int.mul_ediv_add_emod c 16777216
     generalize (16777216 : Int) ^ b.length = p at *
     have e3 : p * c = p * (16777216 * (c / 16777216) + c % 16777216) := by rw [this]
     rw [e3]; grind
    rw [e] at g2; exact g2
theorem times_l0 (a : List Int) (k : Int) (hk : 0 ≤ k ∧ k < 16777216) (hla : a.length < 100000000) (ha : Lim a) :
  ∀ (d i : Nat) (c : Int) (b : List Int), i + d = a.length → 0 ≤ c → c ≤ 16777216 → b.length = i → Lim b →
  ∃ r, Ev (fun n => stencilref03_times.l0 n a k c b i) r ∧ Limbs r (lval b + (16777216 : Int) ^ b.length * (c + k * lval (a.drop i))).toNat ∧ r.length ≤ a.length + 2 := by
 intro d
 induction d with
 | zero =>
  intro i c b hi h0 h1 hb hlim
  obtain ⟨r, g1, g2, g3⟩ := times_l1 2 c b h0 (by simp; omega) (by omega) (by omega) hlim
  refine ⟨r, ?_, ?_, by omega⟩
  ·refine Ev.step (f := fun n => stencilref03_times.l1 n c b) (fun n => ?_) g1
   rw [stencilref03_times.l0, if_neg (by omega)]
  ·rw [List.drop_of_length_le (by omega)]; simpa [lval] using g2
 | succ d ih =>
  intro i c b hi h0 h1 hb hlim
  have hlt : i < a.length := by omega
  have hA : (i : Int) < (a.length : Int) := by omega
  have hB : (0 : Int) ≤ (i : Int) := by omega
  have hC : b.length < 17592186044416 := by omega
  have hg := ha.getD i
  have hdrop : lval (a.drop i) = a.getD i 0 + 16777216 * lval (a.drop (i + 1)) := by
   rw [List.drop_eq_getElem_cons hlt, lval, List.getD_eq_getElem?_getD, List.getElem?_eq_getElem hlt]; rfl
  generalize hx : a.getD i 0 = x at *
  have hm0 : 0 ≤ x * k := Int.mul_nonneg hg.1 hk.1
  have hm1 : x * k ≤ 281474943156225 := Int.mul_le_mul (c := 16777215) (d := 16777215) (by omega) (by omega) hk.1 (by omega)
  have e0 : wrap64 (x * k) = x * k := w64 (by omega)
  have e00 : wrap64 (c + x * k) = c + x * k := w64 (by omega)
  have e1 : Int.tdiv (c + x * k) 16777216 = (c + x * k) / 16777216 := Int.tdiv_eq_ediv_of_nonneg (by omega)
  have e2 : Int.tmod (c + x * k) 16777216 = (c + x * k) % 16777216 := Int.tmod_eq_emod_of_nonneg (by omega)
  have e3 : wrap64 ((c + x * k) / 16777216) = (c + x * k) / 16777216 := w64 (by omega)
  have e4 : wrap64 ((i : Int) + 1) = ((i + 1 : Nat) : Int) := by rw [w64 (by omega)]; omega
  obtain ⟨r, g1, g2, g3⟩ := ih (i + 1) ((c + x * k) / 16777216) (b ++ [(c + x * k) % 16777216]) (by omega) (by omega) (by omega) (by simp; omega) (hlim.append (Lim.one (by omega)))
  refine ⟨r, ?_, ?_, g3⟩
  ·refine Ev.step (f := fun n => stencilref03_times.l0 n a k ((c + x * k) / 16777216) (b ++ [(c + x * k) % 16777216]) ((i + 1 : Nat) : Int)) (fun n => ?_) g1
   rw [stencilref03_times.l0, if_pos hA, if_pos hB, if_pos hC, rd_nat, hx, e0, e00, e1, e2, e3, e4]
  ·have e : lval (b ++ [(c + x * k) % 16777216]) + (16777216 : Int) ^ (b ++ [(c + x * k) % 16777216]).length * ((c + x * k) / 16777216 + k * lval (a.drop (i + 1))) = lval b + (16777216 : Int) ^ b.length * (c + k * lval (a.drop i)) := by
    rw [lval_append, hdrop]
    simp only [lval, List.length_append, List.length_singleton, Int.pow_succ]
    have := Int.mul_ediv_add_emod (c + x * k) 16777216
    generalize (16777216 : Int) ^ b.length = p at *
    generalize lval (a.drop (i + 1)) = L at *
    generalize (c + x * k) / 16777216 = q at *
    generalize (c + x * k) % 16777216 = m at *
    have e3 : p * (c + k * (x + 16777216 * L)) = p * (16777216 * q + m) + p * (16777216 * (k * L)) := by rw [this]; grind
    rw [e3]; grind
   rw [e] at g2; exact g2
theorem times_ev (a : List Int) (n : Nat) (k c : Nat) (hk : k < 16777216) (hc : c ≤ 16777216) (hla : a.length < 100000000) (ha : Limbs a n) :
  ∃ r, Ev (fun f => stencilref03_times.f f a (k : Int) (c : Int)) r ∧ Limbs r (n * k + c) ∧ r.length ≤ a.length + 2 := by
 obtain ⟨r, g1, g2, g3⟩ := times_l0 a k (by omega) hla ha.lim a.length 0 c [] (by omega) (by omega) (by omega) rfl (by intro x hx; simp at hx)
 refine ⟨r, g1, ?_, g3⟩
 have e : (lval [] + (16777216 : Int) ^ ([] : List Int).length * (c + k * lval (a.drop 0))).toNat = n * k + c := by
  simp only [lval, List.length_nil, Int.pow_zero, List.drop_zero, ha.val]
  have : (k : Int) * (n : Int) = ((n * k : Nat) : Int) := by rw [Int.natCast_mul]; exact Int.mul_comm _ _
  omega
 rw [e] at g2; exact g2
theorem shl_small24 : ∀ k : Fin 24, shl .i64 1 ((k.val : Nat) : Int) = ((2 ^ k.val : Nat) : Int) := by decide +kernel
theorem Limbs.nil : Limbs [] 0 := ⟨by intro x hx; simp at hx, by simp, rfl⟩
theorem Limbs.one : Limbs [1] 1 := ⟨by intro x hx; simp at hx; subst hx; omega, by simp, rfl⟩
theorem lval_zeros (j : Nat) (a : List Int) : lval (List.replicate j 0 ++ a) = (16777216 : Int) ^ j * lval a := by
 rw [lval_append]
 have : lval (List.replicate j (0 : Int)) = 0 := by
  induction j with
  | zero => rfl
  | succ j ih => simp [List.replicate_succ, lval, ih]
 rw [this, List.length_replicate, Int.zero_add]
theorem two24 (j : Nat) : (16777216 : Int) ^ j = ((2 ^ (24 * j) : Nat) : Int) := by
 rw [Nat.pow_mul]; simp
theorem shifted_l0 (a : List Int) (v n : Nat) (ha : Limbs a v) (hn : n < 1000000) (hla : a.length < 10000000) :
  ∀ (d j : Nat), j + d = n / 24 → (a = [] → j = 0) →
  ∃ r, Ev (fun k => stencilref03_shifted.l0 k a (n : Int) (List.replicate j 0) (j : Int)) r ∧ Limbs r (v * 2 ^ n) ∧ r.length ≤ a.length + n / 24 + 2 := by
 have hq : wrap64 (Int.tdiv (n : Int) 24) = ((n / 24 : Nat) : Int) := by
  rw [Int.tdiv_eq_ediv_of_nonneg (by omega), w64 (by omega)]; omega
 have hm : Int.tmod (n : Int) 24 = ((n % 24 : Nat) : Int) := by
  rw [Int.tmod_eq_emod_of_nonneg (by omega)]; omega
 have hs := shl_small24 ⟨n % 24, by omega⟩
 simp only at hs
 have hp : 2 ^ (n % 24) < 16777216 := by
  have : 2 ^ (n % 24) ≤ 2 ^ 23 := Nat.pow_le_pow_right (by decide) (by omega)
  have e : (2 : Nat) ^ 23 = 8388608 := by decide
  omega
 have fin : ∀ j, j ≤ n / 24 → (a ≠ [] → j = n / 24) → (a = [] → j = 0) →
   ∃ r, Ev (fun k => if (List.replicate j (0 : Int)).length + a.length < 17592186044416 then (if 0 ≤ (((n % 24 : Nat) : Int)) then ((stencilref03_times.f k (List.replicate j 0 ++ a) ((2 ^ (n % 24) : Nat) : Int) 0).bind fun t => some t) else none) else none) r ∧ Limbs r (v * 2 ^ n) ∧ r.length ≤ a.length + n / 24 + 2 := by
  intro j hj h1 h2
  have hb : Limbs (List.replicate j 0 ++ a) (v * 2 ^ (24 * j)) := by
   refine ⟨?_, ?_, ?_⟩
   ·refine Lim.append ?_ ha.lim
    intro x hx
    have := List.eq_of_mem_replicate hx
    subst this; omega
   ·by_cases h : a = []
    ·subst h; rw [h2 rfl]; simp
    ·have hla2 := ha.last
     rw [List.getLast?_append]
     cases hl : a.getLast? with
     | none => exact absurd (List.getLast?_eq_none_iff.1 hl) h
     | some x => rw [hl] at hla2; simpa using hla2
   ·rw [lval_zeros, two24, ha.val, ← Int.natCast_mul, Nat.mul_comm]
  obtain ⟨r, g1, g2, g3⟩ := times_ev (List.replicate j 0 ++ a) _ (2 ^ (n % 24)) 0 hp (by omega) (by simp; omega) hb
  refine ⟨r, evIf (by simp; omega) (evIf (by omega) (Ev.bind g1 (Ev.now r))), ?_, ?_⟩
  ·have e : v * 2 ^ (24 * j) * 2 ^ (n % 24) + 0 = v * 2 ^ n := by
    by_cases h : a = []
    ·have : v = 0 := by have := ha.val; rw [h] at this; simp [lval] at this; omega
     subst this; simp
    ·rw [Nat.add_zero, Nat.mul_assoc, ← Nat.pow_add, h1 h]; congr 2; omega
   rw [e] at g2; exact g2
  ·simp at g3; omega
 intro d
 induction d with
 | zero =>
  intro j hj hne
  obtain ⟨r, g1, g2, g3⟩ := fin j (by omega) (fun _ => by omega) hne
  refine ⟨r, Ev.step (fun k => ?_) g1, g2, g3⟩
  rw [stencilref03_shifted.l0, hq, hm, if_neg (by omega), hs]
 | succ d ih =>
  intro j hj hne
  by_cases h : a = []
  ·obtain ⟨r, g1, g2, g3⟩ := fin j (by omega) (fun h' => absurd h h') hne
   refine ⟨r, Ev.step (fun k => ?_) g1, g2, g3⟩
   rw [stencilref03_shifted.l0, hq, hm, if_pos (by omega), if_neg (by simp [h]), hs]
  ·obtain ⟨r, g1, g2, g3⟩ := ih (j + 1) (by omega) (fun h' => absurd h' h)
   refine ⟨r, Ev.step (fun k => ?_) g1, g2, g3⟩
   have hl : 0 < a.length := List.length_pos_iff.2 h
   rw [stencilref03_shifted.l0, hq, hm, if_pos (by omega), if_pos (by omega), if_pos (by simp; omega), w64 (by omega), List.replicate_succ']
   rfl
theorem shifted_ev (a : List Int) (v n : Nat) (ha : Limbs a v) (hn : n < 1000000) (hla : a.length < 10000000) :
  ∃ r, Ev (fun k => stencilref03_shifted.f k a (n : Int)) r ∧ Limbs r (v * 2 ^ n) ∧ r.length ≤ a.length + n / 24 + 2 := by
 have := shifted_l0 a v n ha hn hla (n / 24) 0 (by omega) (fun _ => rfl)
 exact this
theorem tens_l1 : ∀ (n : Nat) (a : List Int) (v : Nat), Limbs a v → n < 6 → a.length + 2 * n < 10000000 →
  ∃ r, Ev (fun k => stencilref03_tens.l1 k a (n : Int)) r ∧ Limbs r (v * 10 ^ n) ∧ r.length ≤ a.length + 2 * n := by
 intro n
 induction n with
 | zero =>
  intro a v ha _ hl
  refine ⟨a, Ev.step (f := fun _ => some a) (fun k => ?_) (Ev.now a), by simpa using ha, by omega⟩
  rw [stencilref03_tens.l1, if_neg (by omega)]
 | succ n ih =>
  intro a v ha hn hl
  obtain ⟨b, g1, g2, g3⟩ := times_ev a v 10 0 (by omega) (by omega) (by omega) ha
  obtain ⟨r, f1, f2, f3⟩ := ih b _ g2 (by omega) (by omega)
  refine ⟨r, Ev.step (f := fun k => (stencilref03_times.f k a 10 0).bind fun t => stencilref03_tens.l1 k t (n : Int)) (fun k => ?_) (Ev.bind g1 f1), ?_, by omega⟩
  ·rw [stencilref03_tens.l1, if_pos (by omega), w64 (by omega), show ((n + 1 : Nat) : Int) - 1 = (n : Int) by omega]
  ·rw [Nat.pow_succ, Nat.mul_comm (10 ^ n), ← Nat.mul_assoc]; exact f2
theorem tens_ev : ∀ (d n : Nat) (a : List Int) (v : Nat), n / 6 = d → Limbs a v → n < 1000000 → a.length + 2 * d < 9000000 →
  ∃ r, Ev (fun k => stencilref03_tens.f k a (n : Int)) r ∧ Limbs r (v * 10 ^ n) ∧ r.length ≤ a.length + 2 * d + 12 := by
 intro d
 induction d with
 | zero =>
  intro n a v hd ha hn hl
  obtain ⟨r, f1, f2, f3⟩ := tens_l1 n a v ha (by omega) (by omega)
  refine ⟨r, Ev.step (f := fun k => stencilref03_tens.l1 k a (n : Int)) (fun k => ?_) f1, f2, by omega⟩
  rw [stencilref03_tens.f, stencilref03_tens.l0, if_neg (by omega)]
 | succ d ih =>
  intro n a v hd ha hn hl
  obtain ⟨b, g1, g2, g3⟩ := times_ev a v 1000000 0 (by omega) (by omega) (by omega) ha
  obtain ⟨r, f1, f2, f3⟩ := ih (n - 6) b _ (by omega) g2 (by omega) (by omega)
  refine ⟨r, Ev.step (f := fun k => (stencilref03_times.f k a 1000000 0).bind fun t => stencilref03_tens.f k t ((n - 6 : Nat) : Int)) (fun k => ?_) (Ev.bind g1 f1), ?_, by omega⟩
  ·rw [stencilref03_tens.f, stencilref03_tens.l0, if_pos (by omega), w64 (by omega), show (n : Int) - 6 = ((n - 6 : Nat) : Int) by omega]
   rfl
  ·have e : v * 10 ^ n = (v * 1000000 + 0) * 10 ^ (n - 6) := by
    rw [Nat.add_zero, Nat.mul_assoc, show (1000000 : Nat) = 10 ^ 6 from rfl, ← Nat.pow_add]; congr 2; omega
   rw [e]; exact f2
def nbits (v : Nat) : Nat := if v = 0 then 0 else v.log2 + 1
theorem nbits_half (v : Nat) (h : v ≠ 0) : nbits v = nbits (v / 2) + 1 := by
 unfold nbits
 rw [if_neg h]
 by_cases h2 : v / 2 = 0
 ·rw [if_pos h2]; have : v = 1 := by omega
  subst this; rfl
 ·rw [if_neg h2]
  have := Nat.log2_def v
  rw [if_pos (by omega)] at this
  omega
theorem bits_l0 : ∀ (d : Nat) (x : Nat) (m : Nat), x < 2 ^ d → x < 9223372036854775808 → m + d < 1000000000 →
  Ev (fun k => stencilref03_bits.l0 k (m : Int) (x : Int)) ((m + nbits x : Nat) : Int) := by
 intro d
 induction d with
 | zero =>
  intro x m hx _ hm
  have : x = 0 := by simpa using hx
  subst this
  refine Ev.step (f := fun _ => some (m : Int)) (fun k => ?_) (Ev.now _)
  rw [stencilref03_bits.l0, if_neg (by omega)]
 | succ d ih =>
  intro x m hx hx2 hm
  by_cases hz : x = 0
  ·subst hz
   refine Ev.step (f := fun _ => some (m : Int)) (fun k => ?_) (Ev.now _)
   rw [stencilref03_bits.l0, if_neg (by omega)]
  ·have := ih (x / 2) (m + 1) (by rw [Nat.pow_succ] at hx; omega) (by omega) (by omega)
   rw [nbits_half x hz]
   have e : m + (nbits (x / 2) + 1) = m + 1 + nbits (x / 2) := by omega
   rw [e]
   refine Ev.step (f := fun k => stencilref03_bits.l0 k ((m + 1 : Nat) : Int) ((x / 2 : Nat) : Int)) (fun k => ?_) this
   rw [stencilref03_bits.l0, if_pos (by omega), w64 (by omega), Int.tdiv_eq_ediv_of_nonneg (by omega), w64 (by omega)]
   rfl
theorem bits_ev (a : List Int) (v : Nat) (ha : Limbs a v) (hl : a.length < 10000000) : Ev (fun k => stencilref03_bits.f k a) ((nbits v : Nat) : Int) := by
 by_cases h : a = []
 ·have : v = 0 := by have := ha.val; rw [h] at this; simp [lval] at this; omega
  subst this; subst h
  exact Ev.now _
 ·obtain ⟨b, x, rfl⟩ : ∃ b x, a = b ++ [x] := ⟨a.dropLast, a.getLast h, (List.dropLast_concat_getLast h).symm⟩
  have hx := ha.lim x (by simp)
  have hx0 : x ≠ 0 := by have := ha.last; simpa using this
  have hbb := lval_bounds (fun y hy => ha.lim y (by simp [hy]) : Lim b)
  have hv := ha.val
  rw [lval_append] at hv
  simp only [lval, List.length_append, List.length_singleton] at hv hl
  rw [two24] at hbb hv
  obtain ⟨y, rfl⟩ : ∃ y : Nat, x = y := ⟨x.toNat, by omega⟩
  obtain ⟨z, hz⟩ : ∃ z : Nat, lval b = z := ⟨(lval b).toNat, by omega⟩
  rw [hz] at hv hbb
  have hv2 : v = z + 2 ^ (24 * b.length) * y := by
   have : ((z + 2 ^ (24 * b.length) * y : Nat) : Int) = (v : Int) := by rw [← hv]; simp
   omega
  have hn : nbits v = 24 * b.length + nbits y := by
   have hy0 : y ≠ 0 := by omega
   have hp := Nat.two_pow_pos (24 * b.length)
   have h1 := Nat.log2_self_le hy0
   have h2 := @Nat.lt_log2_self y
   have hm1 : 2 ^ (24 * b.length) * 2 ^ y.log2 ≤ 2 ^ (24 * b.length) * y := Nat.mul_le_mul_left _ h1
   have hm2 : 2 ^ (24 * b.length) * (y + 1) ≤ 2 ^ (24 * b.length) * 2 ^ (y.log2 + 1) := Nat.mul_le_mul_left _ h2
   rw [← Nat.pow_add] at hm1 hm2
   rw [Nat.mul_add] at hm2
   have hvne : v ≠ 0 := by
    have : 0 < 2 ^ (24 * b.length + y.log2) := Nat.two_pow_pos _
    omega
   have : v.log2 = 24 * b.length + y.log2 := by
    rw [Nat.log2_eq_iff hvne]
    have hzlt : z < 2 ^ (24 * b.length) := by omega
    constructor
    ·omega
    ·rw [Nat.add_assoc]; omega
   unfold nbits
   rw [if_neg hvne, if_neg hy0, this]; omega
  rw [hn]
  have := bits_l0 24 y (24 * b.length) (by rw [show (2 : Nat) ^ 24 = 16777216 from rfl]; omega) (by omega) (by omega)
  refine Ev.congr (fun k => ?_) this
  have e1 : (((b ++ [(y : Int)]).length : Nat) : Int) = (b.length : Int) + 1 := by simp
  rw [stencilref03_bits.f, e1, w64 (by omega), show (b.length : Int) + 1 - 1 = (b.length : Int) by omega, if_neg (by omega), if_pos (by omega), if_pos (by omega), w64 (by omega), rd_nat]
  congr 1
  simp
def cmpN (x y : Nat) : Int := if x < y then -1 else if x = y then 0 else 1
theorem Limbs.lt_of_length {a b : List Int} {x y : Nat} (ha : Limbs a x) (hb : Limbs b y) (h : a.length < b.length) : x < y := by
 have hb0 : b ≠ [] := by intro h'; subst h'; simp at h
 obtain ⟨c, z, rfl⟩ : ∃ c z, b = c ++ [z] := ⟨b.dropLast, b.getLast hb0, (List.dropLast_concat_getLast hb0).symm⟩
 have hz := hb.lim z (by simp)
 have hz0 : z ≠ 0 := by have := hb.last; simpa using this
 have hc := lval_bounds (fun y hy => hb.lim y (by simp [hy]) : Lim c)
 have hav := lval_bounds ha.lim
 have hv := hb.val
 rw [lval_append] at hv
 simp only [lval, List.length_append, List.length_singleton] at hv h
 rw [two24] at hc hav hv
 have hp : 2 ^ (24 * a.length) ≤ 2 ^ (24 * c.length) := Nat.pow_le_pow_right (by decide) (by omega)
 have hav2 := ha.val
 have h1 : (2 ^ (24 * c.length) : Nat) * (1 : Int) ≤ (2 ^ (24 * c.length) : Nat) * (z + 16777216 * 0) := Int.mul_le_mul_of_nonneg_left (by omega) (by omega)
 omega
theorem lval_split (a : List Int) (i : Nat) (h : i < a.length) : lval a = lval (a.take i) + (16777216 : Int) ^ i * (a.getD i 0 + 16777216 * lval (a.drop (i + 1))) := by
 have e : a = a.take i ++ (a.getD i 0 :: a.drop (i + 1)) := by
  rw [List.getD_eq_getElem?_getD, List.getElem?_eq_getElem h, Option.getD_some, ← List.drop_eq_getElem_cons h, List.take_append_drop]
 conv => lhs; rw [e, lval_append]
 rw [lval, List.length_take, Nat.min_eq_left (by omega)]
theorem compare_l0 (a b : List Int) (x y : Nat) (ha : Limbs a x) (hb : Limbs b y) (hl : a.length = b.length) (hla : a.length < 10000000) :
  ∀ (i : Nat), i ≤ a.length → a.drop i = b.drop i →
  Ev (fun k => stencilref03_compare.l0 k a b ((i : Int) - 1)) (cmpN x y) := by
 intro i
 induction i with
 | zero =>
  intro _ hd
  have : a = b := by simpa using hd
  have hxy : x = y := by have := ha.val; have := hb.val; subst a; omega
  subst hxy
  refine Ev.step (f := fun _ => some 0) (fun k => ?_) (by rw [show cmpN x x = 0 from by simp [cmpN]]; exact Ev.now _)
  rw [stencilref03_compare.l0, if_neg (by omega)]
 | succ i ih =>
  intro hi hd
  have h1 : i < a.length := by omega
  have h2 : i < b.length := by omega
  have s1 := lval_split a i h1
  have s2 := lval_split b i h2
  have t1 := lval_bounds (fun z hz => ha.lim z (List.mem_of_mem_take hz) : Lim (a.take i))
  have t2 := lval_bounds (fun z hz => hb.lim z (List.mem_of_mem_take hz) : Lim (b.take i))
  rw [List.length_take, Nat.min_eq_left (by omega)] at t1 t2
  rw [ha.val, hd] at s1
  rw [hb.val] at s2
  have ga := ha.lim.getD i
  have gb := hb.lim.getD i
  have e0 : ((i + 1 : Nat) : Int) - 1 = (i : Int) := by omega
  rw [e0]
  have hrec : a.getD i 0 = b.getD i 0 → a.drop i = b.drop i := by
   intro he
   rw [List.drop_eq_getElem_cons h1, List.drop_eq_getElem_cons h2, hd]
   rw [List.getD_eq_getElem?_getD, List.getElem?_eq_getElem h1, List.getD_eq_getElem?_getD, List.getElem?_eq_getElem h2] at he
   simp only [Option.getD_some] at he
   rw [he]
  have hstep : ∀ k, stencilref03_compare.l0 (k + 1) a b (i : Int) = if a.getD i 0 < b.getD i 0 then some (-1) else if a.getD i 0 > b.getD i 0 then some 1 else stencilref03_compare.l0 k a b ((i : Int) - 1) := by
   intro k
   rw [stencilref03_compare.l0, if_pos (by omega), if_pos (by omega), if_pos (by omega), if_pos (by omega), rd_nat, rd_nat, w64 (by omega)]
  generalize a.getD i 0 = p at *
  generalize b.getD i 0 = q at *
  generalize lval (b.drop (i + 1)) = D at *
  have hp0 : (0 : Int) < 16777216 ^ i := by rw [two24]; have := Nat.two_pow_pos (24 * i); omega
  generalize (16777216 : Int) ^ i = W at *
  refine Ev.step hstep ?_
  rcases Int.lt_trichotomy p q with h | h | h
  ·refine evIf h ?_
   have hm : W * (p + 16777216 * D) + W ≤ W * (q + 16777216 * D) := by
    have : W * (p + 1 + 16777216 * D) ≤ W * (q + 16777216 * D) := Int.mul_le_mul_of_nonneg_left (by omega) (by omega)
    have e : W * (p + 1 + 16777216 * D) = W * (p + 16777216 * D) + W := by grind
    omega
   have : cmpN x y = -1 := by unfold cmpN; rw [if_pos (by omega)]
   rw [this]; exact Ev.now _
  ·refine evElse (by omega) (evElse (by omega) ?_)
   exact ih (by omega) (hrec h)
  ·refine evElse (by omega) (evIf (by omega) ?_)
   have hm : W * (q + 16777216 * D) + W ≤ W * (p + 16777216 * D) := by
    have : W * (q + 1 + 16777216 * D) ≤ W * (p + 16777216 * D) := Int.mul_le_mul_of_nonneg_left (by omega) (by omega)
    have e : W * (q + 1 + 16777216 * D) = W * (q + 16777216 * D) + W := by grind
    omega
   have : cmpN x y = 1 := by unfold cmpN; rw [if_neg (by omega), if_neg (by omega)]
   rw [this]; exact Ev.now _
theorem compare_ev (a b : List Int) (x y : Nat) (ha : Limbs a x) (hb : Limbs b y) (hla : a.length < 10000000) (hlb : b.length < 10000000) :
  Ev (fun k => stencilref03_compare.f k a b) (cmpN x y) := by
 rcases Nat.lt_trichotomy a.length b.length with h | h | h
 ·have := ha.lt_of_length hb h
  refine Ev.congr (f := fun _ => some (-1)) (fun k => ?_) (by rw [show cmpN x y = -1 from by simp [cmpN, this]]; exact Ev.now _)
  rw [stencilref03_compare.f, if_neg (by omega), if_pos (by omega)]
 ·refine Ev.congr (fun k => ?_) (compare_l0 a b x y ha hb h hla a.length (Nat.le_refl _) (by rw [List.drop_length, h, List.drop_length]))
  rw [stencilref03_compare.f, if_pos (by omega), w64 (by omega)]
 ·have := hb.lt_of_length ha h
  refine Ev.congr (f := fun _ => some 1) (fun k => ?_) (by rw [show cmpN x y = 1 from by unfold cmpN; rw [if_neg (by omega), if_neg (by omega)]]; exact Ev.now _)
  rw [stencilref03_compare.f, if_neg (by omega), if_neg (by omega)]
theorem drop_getD (b : List Int) (i : Nat) : lval (b.drop i) = b.getD i 0 + 16777216 * lval (b.drop (i + 1)) := by
 by_cases h : i < b.length
 ·rw [List.drop_eq_getElem_cons h, lval, List.getD_eq_getElem?_getD, List.getElem?_eq_getElem h]; rfl
 ·rw [List.drop_of_length_le (by omega), List.drop_of_length_le (by omega), List.getD_eq_getElem?_getD, List.getElem?_eq_none (by omega)]; rfl
theorem minus_l0 (a b : List Int) (ha : Lim a) (hb : Lim b) (hlb : b.length ≤ a.length) (hla : a.length < 10000000) (hge : lval b ≤ lval a) :
  ∀ (d i : Nat) (c : List Int) (w : Int), i + d = a.length → c.length = i → Lim c → (w = 0 ∨ w = 1) →
  lval c + (16777216 : Int) ^ i * (lval (a.drop i) - lval (b.drop i) - w) = lval a - lval b →
  ∃ r, Ev (fun k => stencilref03_minus.l0 k a b c w (i : Int)) r ∧ Limbs r (lval a - lval b).toNat ∧ r.length ≤ a.length := by
 intro d
 induction d with
 | zero =>
  intro i c w hi hc hlim hw hinv
  rw [List.drop_of_length_le (by omega), List.drop_of_length_le (by omega)] at hinv
  have hcb := lval_bounds hlim
  rw [hc] at hcb
  have hval : lval c = lval a - lval b := by
   rcases hw with rfl | rfl
   ·simp [lval] at hinv; omega
   ·simp only [lval] at hinv; generalize (16777216 : Int) ^ i = W at *; omega
  obtain ⟨r, g1, g2, g3⟩ := trim_ev _ c rfl (by omega) hlim
  refine ⟨r, Ev.step (f := fun k => (stencilref03_trim.f k c).bind fun t => some t) (fun k => ?_) (Ev.bind g1 (Ev.now r)), by rw [← hval]; exact g2, by omega⟩
  rw [stencilref03_minus.l0, if_neg (by omega)]
 | succ d ih =>
  intro i c w hi hc hlim hw hinv
  have HI : Hid (lval c + (16777216 : Int) ^ i * (lval (a.drop i) - lval (b.drop i) - w) = lval a - lval b) := hinv
  clear hinv
  have h1 : i < a.length := by omega
  have ga := ha.getD i
  have gb := hb.getD i
  have hda := drop_getD a i
  have hdb := drop_getD b i
  have key : ∀ (dg w' : Int), 0 ≤ dg → dg < 16777216 → (w' = 0 ∨ w' = 1) → dg - 16777216 * w' = a.getD i 0 - b.getD i 0 - w →
    ∃ r, Ev (fun k => stencilref03_minus.l0 k a b (c ++ [dg]) w' ((i + 1 : Nat) : Int)) r ∧ Limbs r (lval a - lval b).toNat ∧ r.length ≤ a.length := by
   intro dg w' k0 k1 k2 k3
   refine ih (i + 1) (c ++ [dg]) w' (by omega) (by simp [hc]) (hlim.append (Lim.one ⟨k0, k1⟩)) k2 ?_
   rw [lval_append, ← HI.out, hda, hdb, hc, Int.pow_succ]
   simp only [lval]
   generalize (16777216 : Int) ^ i = W
   have : dg = a.getD i 0 - b.getD i 0 - w + 16777216 * w' := by omega
   rw [this]; grind
  have hA : (i : Int) < (a.length : Int) := by omega
  have hB : (0 : Int) ≤ (i : Int) := by omega
  have hC : c.length < 17592186044416 := by omega
  have e4 : wrap64 ((i : Int) + 1) = ((i + 1 : Nat) : Int) := by rw [w64 (by omega)]; omega
  have hw' : 0 ≤ w ∧ w ≤ 1 := by omega
  clear hda hdb hw HI ih hge
  generalize hga : a.getD i 0 = p at *
  by_cases hbl : i < b.length
  ·have hD : (i : Int) < (b.length : Int) := by omega
   generalize hgb : b.getD i 0 = q at *
   have e1 : wrap64 (p - w) = p - w := w64 (by omega)
   have e2 : wrap64 (p - w - q) = p - w - q := w64 (by omega)
   by_cases hneg : p - w - q < 0
   ·obtain ⟨r, g1, g2⟩ := key (p - w - q + 16777216) 1 (by omega) (by omega) (.inr rfl) (by omega)
    refine ⟨r, Ev.step (fun k => ?_) g1, g2⟩
    rw [stencilref03_minus.l0, if_pos hA, if_pos hB, if_pos hD, rd_nat, rd_nat, hga, hgb, e1, e2, if_pos hneg, if_pos hC, w64 (by omega), e4]
   ·obtain ⟨r, g1, g2⟩ := key (p - w - q) 0 (by omega) (by omega) (.inl rfl) (by omega)
    refine ⟨r, Ev.step (fun k => ?_) g1, g2⟩
    rw [stencilref03_minus.l0, if_pos hA, if_pos hB, if_pos hD, rd_nat, rd_nat, hga, hgb, e1, e2, if_neg hneg, if_pos hC, e4]
  ·have hD : ¬ (i : Int) < (b.length : Int) := by omega
   have hb0 : b.getD i 0 = 0 := by rw [List.getD_eq_getElem?_getD, List.getElem?_eq_none (by omega)]; rfl
   rw [hb0] at key
   have e1 : wrap64 (p - w) = p - w := w64 (by omega)
   by_cases hneg : p - w < 0
   ·obtain ⟨r, g1, g2⟩ := key (p - w + 16777216) 1 (by omega) (by omega) (.inr rfl) (by omega)
    refine ⟨r, Ev.step (fun k => ?_) g1, g2⟩
    rw [stencilref03_minus.l0, if_pos hA, if_pos hB, if_neg hD, rd_nat, hga, e1, if_pos hneg, if_pos hC, w64 (by omega), e4]
   ·obtain ⟨r, g1, g2⟩ := key (p - w) 0 (by omega) (by omega) (.inl rfl) (by omega)
    refine ⟨r, Ev.step (fun k => ?_) g1, g2⟩
    rw [stencilref03_minus.l0, if_pos hA, if_pos hB, if_neg hD, rd_nat, hga, e1, if_neg hneg, if_pos hC, e4]
theorem minus_ev (a b : List Int) (x y : Nat) (ha : Limbs a x) (hb : Limbs b y) (hxy : y ≤ x) (hla : a.length < 10000000) :
  ∃ r, Ev (fun k => stencilref03_minus.f k a b) r ∧ Limbs r (x - y) ∧ r.length ≤ a.length := by
 have hlb : b.length ≤ a.length := by
  rcases Nat.lt_or_ge a.length b.length with h | h
  ·have := ha.lt_of_length hb h; omega
  ·exact h
 obtain ⟨r, g1, g2, g3⟩ := minus_l0 a b ha.lim hb.lim hlb hla (by rw [ha.val, hb.val]; omega) a.length 0 [] 0 (by omega) rfl (by intro z hz; simp at hz) (.inl rfl) (by simp [lval])
 refine ⟨r, g1, ?_, g3⟩
 rw [ha.val, hb.val] at g2
 rwa [show ((x : Int) - (y : Int)).toNat = x - y by omega] at g2
theorem ofWord_l0 : ∀ (d w : Nat) (b : List Int), w < 16777216 ^ d → w < 18446744073709551616 → b.length + d ≤ 100 → Lim b →
  ∃ r, Ev (fun k => stencilref03_ofWord.l0 k (w : Int) b) r ∧ Lim r ∧ lval r = lval b + (16777216 : Int) ^ b.length * w ∧ r.length ≤ b.length + d ∧ (w = 0 → r = b) ∧ (w ≠ 0 → r.getLast? ≠ some 0) := by
 intro d
 induction d with
 | zero =>
  intro w b h0 _ hl hlim
  have : w = 0 := by simpa using h0
  subst this
  refine ⟨b, Ev.step (f := fun _ => some b) (fun k => ?_) (Ev.now b), hlim, by simp, by omega, fun _ => rfl, fun h => absurd rfl h⟩
  rw [stencilref03_ofWord.l0, if_neg (by omega)]
 | succ d ih =>
  intro w b h0 h1 hl hlim
  by_cases hz : w = 0
  ·subst hz
   refine ⟨b, Ev.step (f := fun _ => some b) (fun k => ?_) (Ev.now b), hlim, by simp, by omega, fun _ => rfl, fun h => absurd rfl h⟩
   rw [stencilref03_ofWord.l0, if_neg (by omega)]
  ·have hpos : (w : Int) > 0 := by clear h0; omega
   have hC : b.length < 17592186044416 := by clear h0; omega
   have e1 : IntKind.u64.wrap ((w : Int).tdiv 16777216) = ((w / 16777216 : Nat) : Int) := by clear h0; rw [Int.tdiv_eq_ediv_of_nonneg (by omega), wu64 (by omega)]; omega
   have e2 : wrap64 ((w : Int).tmod 16777216) = ((w % 16777216 : Nat) : Int) := by clear h0; rw [Int.tmod_eq_emod_of_nonneg (by omega), w64 (by omega)]; omega
   have hd : w / 16777216 < 16777216 ^ d := by
    rw [Nat.pow_succ] at h0; exact Nat.div_lt_of_lt_mul (by rw [Nat.mul_comm]; exact h0)
   obtain ⟨r, g1, g2, g3, g4, g5, g6⟩ := ih (w / 16777216) (b ++ [((w % 16777216 : Nat) : Int)]) hd (by clear h0 hd; omega) (by clear h0 hd; simp; omega) (hlim.append (Lim.one (by clear h0 hd; omega)))
   clear h0 hd
   refine ⟨r, Ev.step (fun k => ?_) g1, g2, ?_, by simp at g4; omega, fun h => absurd h hz, fun _ => ?_⟩
   ·rw [stencilref03_ofWord.l0, if_pos hpos, if_pos hC, e1, e2]
   ·rw [g3, lval_append]
    simp only [lval, List.length_append, List.length_singleton, Int.pow_succ]
    generalize (16777216 : Int) ^ b.length = W
    have : (w : Int) = 16777216 * ((w / 16777216 : Nat) : Int) + ((w % 16777216 : Nat) : Int) := by omega
    conv => rhs; rw [this]
    grind
   ·by_cases h2 : w / 16777216 = 0
    ·rw [g5 h2]; simp; omega
    ·exact g6 h2
theorem ofWord_ev (w : Nat) (h : w < 18446744073709551616) : ∃ r, Ev (fun k => stencilref03_ofWord.f k (w : Int)) r ∧ Limbs r w ∧ r.length ≤ 4 := by
 obtain ⟨r, g1, g2, g3, g4, g5, g6⟩ := ofWord_l0 4 w [] (by rw [show (16777216 : Nat) ^ 4 = 79228162514264337593543950336 from rfl]; omega) h (by simp) (by intro x hx; simp at hx)
 refine ⟨r, g1, ⟨g2, ?_, by rw [g3]; simp [lval]⟩, by simpa using g4⟩
 by_cases hz : w = 0
 ·rw [g5 hz]; simp
 ·exact g6 hz
theorem divided_l0 (b : List Int) (y : Nat) (hb : Limbs b y) (hy : 0 < y) (hlb : b.length < 1000000) :
  ∀ (n : Nat) (a : List Int) (x q : Nat), Limbs a x → n ≤ 62 → x < y * 2 ^ n → q < 2 ^ (62 - n) → a.length < 1000000 →
  ∃ r, Ev (fun k => stencilref03_divided.l0 k a b (q : Int) ((n : Int) - 1)) (((q * 2 ^ n + x / y : Nat) : Int), r) ∧ Limbs r (x % y) ∧ r.length ≤ a.length := by
 intro n
 induction n with
 | zero =>
  intro a x q ha _ hx _ _
  have hx : x < y := by simpa using hx
  refine ⟨a, Ev.step (f := fun _ => some ((q : Int), a)) (fun k => ?_) ?_, by rw [Nat.mod_eq_of_lt hx]; exact ha, Nat.le_refl _⟩
  ·rw [stencilref03_divided.l0, if_neg (by omega)]
  ·rw [Nat.div_eq_of_lt hx]; simp only [Nat.pow_zero, Nat.mul_one, Nat.add_zero]; exact Ev.now _
 | succ n ih =>
  intro a x q ha hn hx hq hla
  have e0 : ((n + 1 : Nat) : Int) - 1 = (n : Int) := by omega
  have e1 : wrap64 ((n : Int) - 1) = (n : Int) - 1 := w64 (by omega)
  obtain ⟨c, s1, s2, s3⟩ := shifted_ev b y n hb (by omega) (by omega)
  have hcmp := compare_ev a c x (y * 2 ^ n) ha s2 (by omega) (by omega)
  have hq2 : q * 2 + 1 < 2 ^ 62 := by
   have : 2 ^ (62 - (n + 1)) ≤ 2 ^ 61 := Nat.pow_le_pow_right (by decide) (by omega)
   have e : (2 : Nat) ^ 62 = 2 * 2 ^ 61 := by decide
   omega
  have h62 : (2 : Nat) ^ 62 = 4611686018427387904 := by decide
  rw [h62] at hq2
  have u1 : IntKind.u64.wrap ((q : Int) * 2) = ((q * 2 : Nat) : Int) := by clear hq hx h62; rw [wu64 (by omega)]; omega
  have u2 : IntKind.u64.wrap (((q * 2 : Nat) : Int) + 1) = ((q * 2 + 1 : Nat) : Int) := by clear hq hx h62; rw [wu64 (by omega)]; omega
  have hq3 : q * 2 + 1 < 2 ^ (62 - n) := by
   have e : 62 - n = (62 - (n + 1)) + 1 := by omega
   rw [e, Nat.pow_succ]; omega
  have hstep : ∀ k, stencilref03_divided.l0 (k + 1) a b (q : Int) (n : Int) = (stencilref03_shifted.f k b (n : Int)).bind fun t => (stencilref03_compare.f k a t).bind fun u => if u ≥ 0 then (stencilref03_minus.f k a t).bind fun v => stencilref03_divided.l0 k v b ((q * 2 + 1 : Nat) : Int) ((n : Int) - 1) else stencilref03_divided.l0 k a b ((q * 2 : Nat) : Int) ((n : Int) - 1) := by
   intro k
   rw [stencilref03_divided.l0, if_pos (by omega), e1, u1, u2]
  rw [e0]
  rcases Nat.lt_or_ge x (y * 2 ^ n) with h | h
  ·obtain ⟨r, g1, g2, g3⟩ := ih a x (q * 2) ha (by omega) h (by omega) hla
   refine ⟨r, Ev.step hstep (Ev.bind s1 (Ev.bind hcmp (evElse ?_ ?_))), g2, g3⟩
   ·simp [cmpN, h]
   ·have e : q * 2 ^ (n + 1) + x / y = q * 2 * 2 ^ n + x / y := by rw [Nat.pow_succ, Nat.mul_comm (2 ^ n), ← Nat.mul_assoc]
    rw [e]; exact g1
  ·obtain ⟨v, m1, m2, m3⟩ := minus_ev a c x (y * 2 ^ n) ha s2 h (by omega)
   have hx2 : x - y * 2 ^ n < y * 2 ^ n := by rw [Nat.pow_succ, ← Nat.mul_assoc] at hx; omega
   obtain ⟨r, g1, g2, g3⟩ := ih v (x - y * 2 ^ n) (q * 2 + 1) m2 (by omega) hx2 (by omega) (by omega)
   have ex : x = y * 2 ^ n + (x - y * 2 ^ n) := by omega
   refine ⟨r, Ev.step hstep (Ev.bind s1 (Ev.bind hcmp (evIf ?_ (Ev.bind m1 ?_)))), ?_, by omega⟩
   ·unfold cmpN; rw [if_neg (by omega)]; split <;> omega
   ·have e : q * 2 ^ (n + 1) + x / y = (q * 2 + 1) * 2 ^ n + (x - y * 2 ^ n) / y := by
     conv => lhs; rw [ex]
     rw [Nat.mul_add_div hy, Nat.pow_succ]; grind
    rw [e]; exact g1
   ·rw [ex, Nat.mul_add_mod]; exact g2
theorem divided_ev (a b : List Int) (x y n : Nat) (ha : Limbs a x) (hb : Limbs b y) (hy : 0 < y) (hn : n ≤ 62) (hx : x < y * 2 ^ n) (hla : a.length < 1000000) (hlb : b.length < 1000000) :
  ∃ r, Ev (fun k => stencilref03_divided.f k a b (n : Int)) (((x / y : Nat) : Int), r) ∧ Limbs r (x % y) ∧ r.length ≤ a.length := by
 obtain ⟨r, g1, g2, g3⟩ := divided_l0 b y hb hy hlb n a x 0 ha hn hx (Nat.two_pow_pos _) hla
 refine ⟨r, Ev.congr (fun k => ?_) (by simpa using g1), g2, g3⟩
 rw [stencilref03_divided.f, w64 (by omega)]
theorem power_l0 : ∀ (d i : Nat), i + d ≤ 63 → Ev (fun k => stencilref03_power.l0 k ((i + d : Nat) : Int) ((2 ^ i : Nat) : Int) (i : Int)) ((2 ^ (i + d) : Nat) : Int) := by
 intro d
 induction d with
 | zero =>
  intro i hi
  refine Ev.step (f := fun _ => some (((2 ^ i : Nat) : Int))) (fun k => ?_) (Ev.now _)
  rw [stencilref03_power.l0, if_neg (by omega)]
 | succ d ih =>
  intro i hi
  have := ih (i + 1) (by omega)
  rw [show i + 1 + d = i + (d + 1) by omega] at this
  refine Ev.step (fun k => ?_) this
  have hp : 2 ^ (i + 1) ≤ 2 ^ 63 := Nat.pow_le_pow_right (by decide) (by omega)
  have e63 : (2 : Nat) ^ 63 = 9223372036854775808 := by decide
  have hps : 2 ^ (i + 1) = 2 ^ i * 2 := Nat.pow_succ _ _
  have e1 : IntKind.u64.wrap (((2 ^ i : Nat) : Int) * 2) = ((2 ^ (i + 1) : Nat) : Int) := by
   rw [hps] at hp ⊢
   generalize 2 ^ i = P at *
   rw [wu64 (by omega)]; omega
  have e2 : wrap64 ((i : Int) + 1) = ((i + 1 : Nat) : Int) := by clear hp hps e63 e1; rw [w64 (by omega)]; omega
  rw [stencilref03_power.l0, if_pos (by omega), e1, e2]
theorem power_ev (n : Nat) (h : n ≤ 63) : Ev (fun k => stencilref03_power.f k (n : Int)) ((2 ^ n : Nat) : Int) := by
 have := power_l0 n 0 (by omega)
 simpa [stencilref03_power.f] using this
def SL (w : World) (v : Value) (l : List Int) : Prop := Kd.V (Kd.int .i64) 3 w 0 (fun _ => True) v l
def BN (w : World) (v : Value) (x L : Nat) : Prop := ∃ l, SL w v l ∧ Limbs l x ∧ l.length ≤ L
theorem SL.below {w w' : World} {v : Value} {l : List Int} (h : SL w v l) (hb : Below w.heap.size w w') : SL w' v l := Kd.V_below h hb
theorem BN.below {w w' : World} {v : Value} {x L : Nat} (h : BN w v x L) (hb : Below w.heap.size w w') : BN w' v x L := by
 obtain ⟨l, h1, h2⟩ := h; exact ⟨l, h1.below hb, h2⟩
theorem BN.mono {w : World} {v : Value} {x L L' : Nat} (h : BN w v x L) (hL : L ≤ L') : BN w v x L' := by
 obtain ⟨l, h1, h2, h3⟩ := h; exact ⟨l, h1, h2, by omega⟩
theorem tens_b (v : Value) (x L n : Nat) (w : World) (h : BN w v x L) (hn : n < 100000) (hL : L < 100000) :
  Calls Tryz.prog 108 #[v, .int .i64 (n : Int)] w fun e w' => ∃ v', e = .returned v' ∧ BN w' v' (x * 10 ^ n) (L + 2 * (n / 6) + 12) ∧ Below w.heap.size w w' := by
 obtain ⟨l, h1, h2, h3⟩ := h
 obtain ⟨r, g1, g2, g3⟩ := tens_ev _ n l x rfl h2 (by omega) (by omega)
 obtain ⟨k, hk⟩ := g1.rounds
 obtain ⟨A, c, rfl⟩ := Kd.V_slice h1
 refine (stencilref03_tens.calls k (fun _ => True) A c l _ r w h1 hk).mono ?_
 rintro e w' ⟨v', rfl, hv, hb⟩
 exact ⟨v', rfl, ⟨r, Kd.V_mono hv (fun _ _ => trivial), g2, by omega⟩, hb⟩
theorem shifted_b (v : Value) (x L n : Nat) (w : World) (h : BN w v x L) (hn : n < 100000) (hL : L < 100000) :
  Calls Tryz.prog 107 #[v, .int .i64 (n : Int)] w fun e w' => ∃ v', e = .returned v' ∧ BN w' v' (x * 2 ^ n) (L + n / 24 + 2) ∧ Below w.heap.size w w' := by
 obtain ⟨l, h1, h2, h3⟩ := h
 obtain ⟨r, g1, g2, g3⟩ := shifted_ev l x n h2 (by omega) (by omega)
 obtain ⟨k, hk⟩ := g1.rounds
 obtain ⟨A, c, rfl⟩ := Kd.V_slice h1
 obtain ⟨_, i1, i2⟩ := Kd.V_reads' h1
 refine (stencilref03_shifted.calls k A c l _ r w i2 i1 hk).mono ?_
 rintro e w' ⟨v', rfl, hv, hb⟩
 exact ⟨v', rfl, ⟨r, Kd.V_mono hv (fun _ _ => trivial), g2, by omega⟩, hb⟩
theorem bits_b (v : Value) (x L : Nat) (w : World) (h : BN w v x L) (hL : L < 100000) :
  Calls Tryz.prog 74 #[v] w (Rdw w (.int .i64 (nbits x : Nat))) := by
 obtain ⟨l, h1, h2, h3⟩ := h
 obtain ⟨k, hk⟩ := (bits_ev l x h2 (by omega)).rounds
 obtain ⟨A, c, rfl⟩ := Kd.V_slice h1
 obtain ⟨_, i1, i2⟩ := Kd.V_reads' h1
 exact stencilref03_bits.calls k A c l _ w i2 i1 hk
theorem compare_b (v u : Value) (x y L M : Nat) (w : World) (h : BN w v x L) (g : BN w u y M) (hL : L < 100000) (hM : M < 100000) :
  Calls Tryz.prog 46 #[v, u] w (Rdw w (.int .i64 (cmpN x y))) := by
 obtain ⟨l, h1, h2, h3⟩ := h
 obtain ⟨m, g1, g2, g3⟩ := g
 obtain ⟨k, hk⟩ := (compare_ev l m x y h2 g2 (by omega) (by omega)).rounds
 obtain ⟨A, c, rfl⟩ := Kd.V_slice h1
 obtain ⟨A', c', rfl⟩ := Kd.V_slice g1
 obtain ⟨_, i1, i2⟩ := Kd.V_reads' h1
 obtain ⟨_, j1, j2⟩ := Kd.V_reads' g1
 exact stencilref03_compare.calls k A c l A' c' m _ w i2 i1 j2 j1 hk
theorem divided_b (v u : Value) (x y L M n : Nat) (w : World) (h : BN w v x L) (g : BN w u y M) (hL : L < 100000) (hM : M < 100000) (hn : n ≤ 62) (hy : 0 < y) (hxy : x < y * 2 ^ n) :
  Calls Tryz.prog 109 #[v, u, .int .i64 (n : Int)] w fun e w' => ∃ v', e = .returned (.tuple #[.int .u64 ((x / y : Nat) : Int), v']) ∧ BN w' v' (x % y) L ∧ Below w.heap.size w w' := by
 obtain ⟨l, h1, h2, h3⟩ := h
 obtain ⟨m, g1, g2, g3⟩ := g
 obtain ⟨r, d1, d2, d3⟩ := divided_ev l m x y n h2 g2 hy hn hxy (by omega) (by omega)
 obtain ⟨k, hk⟩ := d1.rounds
 obtain ⟨A, c, rfl⟩ := Kd.V_slice h1
 obtain ⟨A', c', rfl⟩ := Kd.V_slice g1
 obtain ⟨_, j1, j2⟩ := Kd.V_reads' g1
 refine (stencilref03_divided.calls k (fun _ => True) A c l A' c' m _ _ r w h1 j2 j1 hk).mono ?_
 rintro e w' ⟨v', rfl, hv, hb⟩
 exact ⟨v', rfl, ⟨r, Kd.V_mono hv (fun _ _ => trivial), d2, by omega⟩, hb⟩
theorem ofWord_b (x : Nat) (w : World) (hx : x < 18446744073709551616) :
  Calls Tryz.prog 45 #[.int .u64 (x : Int)] w fun e w' => ∃ v', e = .returned v' ∧ BN w' v' x 4 ∧ Below w.heap.size w w' := by
 obtain ⟨r, g1, g2, g3⟩ := ofWord_ev x hx
 obtain ⟨k, hk⟩ := g1.rounds
 refine (stencilref03_ofWord.calls k _ r w hk).mono ?_
 rintro e w' ⟨v', rfl, hv, hb⟩
 exact ⟨v', rfl, ⟨r, Kd.V_mono (Kd.R_V hv) (fun _ _ => trivial), g2, g3⟩, hb⟩
theorem power_b (n : Nat) (w : World) (hn : n ≤ 63) : Calls Tryz.prog 32 #[.int .i64 (n : Int)] w (Rdw w (.int .u64 ((2 ^ n : Nat) : Int))) := by
 obtain ⟨k, hk⟩ := (power_ev n hn).rounds
 exact stencilref03_power.calls k _ _ w hk
theorem BN.lit {w : World} {b : Nat} (h : w.cell? ⟨b, 0, none⟩ = some (.int .i64 1)) (hb : b < w.heap.size) : BN w (.slice (some ⟨b, 0, none⟩) 1 1) 1 1 := by
 refine ⟨[1], ?_, Limbs.one, Nat.le_refl _⟩
 have hc : (Kd.int .i64).C w (some ⟨b, 0, none⟩) ([1] : List Int).length [1] := by
  refine Kd.C_of_reads (enc := Value.int .i64) (d := (0 : Int)) (h1 := fun _ => rfl) ⟨rfl, by decide, fun _ => ⟨_, rfl, ?_⟩⟩
  intro j hj
  have : j = 0 := by simp at hj; omega
  subst this
  simpa [Addr.add] using h
 exact Kd.V_mono (Kd.V_mk (by decide) (Kd.C_F (Kd.heap_int .i64) hc)) (fun _ _ => trivial)
end Go.Proofs.YtepfodmbjojdbaaGreatDoor.Num
