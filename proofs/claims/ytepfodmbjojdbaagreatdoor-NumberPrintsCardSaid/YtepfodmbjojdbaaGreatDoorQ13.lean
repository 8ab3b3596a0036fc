/- NumberPrints: strconv's digits, and laws of append. No conditions beyond each theorem's own. -/
import Derived.Test.YtepfodmbjojdbaaGreatDoorQ01
import Derived.Test.YtepfodmbjojdbaaGreatDoorQ08
import Derived.Lib.Hide
import Derived.Deep.QuietTactic
import Derived.BigQuiet
import Derived.Lib.OwnBridge
import Derived.Lib.JoinLaws
set_option linter.all false
namespace Go.Proofs.YtepfodmbjojdbaaGreatDoor.Num
open Go Go.RowKit Go.Sort Go.Lib YtepfodmbjojdbaaGreatDoorW.PrintWords YtepfodmbjojdbaaGreatDoorW.PrintMore PNumberPrints
section
set_option maxHeartbeats 1600000
abbrev encB (b : UInt8) : Value := Value.int .u8 (b.toNat : Int)
theorem setDigits_1 (blk d nd : Nat) (p q : Int) (dk : Array UInt8) (w w1 : World) (hnd : Hid ((nd : Int) ≤ 20)) (hq : Hid (wrap64 ((nd : Int) + p) = q))
  (h167 : Calls Tryz.prog 167 #[.slice (some ⟨blk, 0, none⟩) nd 32, .int .u64 (d : Int)] w fun e w' => e = .returned (.tuple #[]) ∧ ∃ n, w' = w1.drewN n)
  (hrow : Hid (Holds encB w1 blk 0 dk)) (hsz : Hid (dk.size = nd)) (kz : Nat)
  (hkz : Hid (kz ≤ nd ∧ (∀ t, kz ≤ t → t < nd → dk[t]! = 48) ∧ (kz = 0 ∨ dk[kz - 1]! ≠ 48))) :
  Calls Tryz.prog 201 #[.slice (some ⟨blk, 0, none⟩) 32 32, .int .u64 (d : Int), .int .i64 p, .int .i64 (nd : Int)] w fun e w' => e = .returned (.tuple #[.int .i64 q, .int .i64 (kz : Int)]) ∧ ∃ n, w' = w1.drewN n := by
 go_enter Tryz.func201, Tryz.ntmps201
 have hnd' : (nd : Int) ≤ 20 := hnd
 have hnd3 : (nd : Int) ≤ 32 := by omega
 have hnd2 : decide (nd ≤ 32) = true := by simp; omega
 go_wp2_with fail
 refine h167.mono ?_
 rintro e w2 ⟨rfl, ⟨n, rfl⟩⟩
 have hq' : wrap64 ((nd : Int) + p) = q := hq
 go_wp2_with fail
 clear h167
 go_loopw [3] (fun v3 wr => ∃ k : Nat, Hid (kz ≤ k ∧ k ≤ nd) ∧ v3 = .int .i64 (k : Int) ∧ ∃ n, wr = w1.drewN n) (fun v3 _ => (intOf v3).toNat)
 case atStart => exact ⟨nd, ⟨(show _ ∧ _ from hkz).1, Nat.le_refl _⟩, rfl, _, rfl⟩
 case round =>
  obtain ⟨k, hk, rfl, n2, rfl⟩ := hrel
  cases k with
  | zero =>
   have c1 : decide ((0 : Int) < ((0 : Nat) : Int)) = false := by decide
   have hz : kz = 0 := by have := hk.out; omega
   subst hz
   go_wp2_with fail
   go_ret2
   exact ⟨rfl, _, rfl⟩
  | succ k =>
   have hk' := hk.out
   have hc := ((show Holds encB w1 blk 0 dk from hrow) k (by rw [show dk.size = nd from hsz]; omega)).1
   rw [Nat.zero_add] at hc
   have c1 : decide ((0 : Int) < ((k + 1 : Nat) : Int)) = true := by simp
   have c0 : ((k + 1 : Nat) : Int) - 1 = (k : Int) := by omega
   have c2 : wrap64 (((k + 1 : Nat) : Int) - 1) = (k : Int) := by rw [c0]; exact w64 (by omega)
   have c3 : (k : Int) < 32 := by omega
   by_cases hb : dk[k]! = 48
   ·have hb1 : encB dk[k]! = .int .u8 48 := by rw [hb]; rfl
    rw [hb1] at hc
    have hkk : kz ≤ k := by
     rcases (show _ ∧ _ ∧ _ from hkz).2.2 with h | h
     ·omega
     ·rcases Nat.lt_or_ge k kz with h3 | h3
      ·exact absurd (by rw [show kz - 1 = k by omega]; exact hb) h
      ·exact h3
    go_wp2_with fail
    exact ⟨⟨k, ⟨hkk, by omega⟩, rfl, _, rfl⟩, by simp [intOf]⟩
   ·obtain ⟨y, hy⟩ : ∃ y : Int, y = (dk[k]!.toNat : Int) := ⟨_, rfl⟩
    have hy48 : (y == 48) = false := by
     simp only [beq_eq_false_iff_ne, ne_eq]
     intro h; apply hb
     apply UInt8.toNat_inj.mp
     have : dk[k]!.toNat = 48 := by omega
     simpa using this
    have hb1 : encB dk[k]! = .int .u8 y := by rw [hy]
    rw [hb1] at hc
    have hkk : kz = k + 1 := by
     have h3 := (show _ ∧ _ ∧ _ from hkz).2.1 k
     rcases Nat.lt_or_ge k kz with h | h
     ·omega
     ·exact absurd (h3 h (by omega)) hb
    subst hkk
    go_wp2_with fail
    go_ret2
    exact ⟨by rw [← hq']; rfl, _, rfl⟩
theorem ndig_pos (x : Nat) : 1 ≤ ndig x := by unfold ndig; split <;> omega
theorem ndig_spec : ∀ x : Nat, x < 10 ^ ndig x ∧ (1 ≤ x → 10 ^ (ndig x - 1) ≤ x) := by
 intro x
 induction x using ndig.induct with
 | case1 x h => rw [show ndig x = 1 by unfold ndig; simp [h]]; simp; omega
 | case2 x h ih =>
  have e : ndig x = ndig (x / 10) + 1 := by rw [ndig]; simp [h]
  have h1 := ndig_pos (x / 10)
  rw [e, Nat.pow_succ]
  obtain ⟨i1, i2⟩ := ih
  have i3 := i2 (by omega)
  refine ⟨by omega, fun _ => ?_⟩
  rw [show ndig (x / 10) + 1 - 1 = ndig (x / 10) - 1 + 1 by omega, Nat.pow_succ]
  omega
theorem ndig_le' (x n : Nat) (h : x < 10 ^ n) (hn : 1 ≤ n) : ndig x ≤ n := by
 rcases Nat.eq_zero_or_pos x with h0 | h0
 ·subst h0; rw [show ndig 0 = 1 by unfold ndig; simp]; exact hn
 ·have h2 := (ndig_spec x).2 h0
  rcases Nat.lt_or_ge n (ndig x) with h3 | h3
  ·have := Nat.pow_le_pow_right (n := 10) (by decide) (show n ≤ ndig x - 1 by omega)
   omega
  ·exact h3
theorem stripAt (f : Nat → Prop) [DecidablePred f] : ∀ n : Nat, ∃ k, k ≤ n ∧ (∀ t, k ≤ t → t < n → f t) ∧ (k = 0 ∨ ¬ f (k - 1))
 | 0 => ⟨0, Nat.le_refl _, fun t h1 h2 => by omega, .inl rfl⟩
 | n + 1 => by
  by_cases h : f n
  ·obtain ⟨k, h1, h2, h3⟩ := stripAt f n
   refine ⟨k, by omega, fun t g1 g2 => ?_, h3⟩
   rcases Nat.lt_or_ge t n with g | g
   ·exact h2 t g1 g
   ·rw [show t = n by omega]; exact h
  ·exact ⟨n + 1, Nat.le_refl _, fun t g1 g2 => by omega, .inr (by simpa using h)⟩
theorem setDigits_any (blk d : Nat) (p : Int) (w : World) (D0 : Array UInt8) (h32 : Holds encB w blk 0 D0) (hs32 : D0.size = 32) (hd1 : 1 ≤ d) (hd : d < 18446744073709551616) (hp : -10000 ≤ p ∧ p ≤ 10000) :
  Calls Tryz.prog 201 #[.slice (some ⟨blk, 0, none⟩) 32 32, .int .u64 (d : Int), .int .i64 p, .int .i64 (ndig d : Int)] w fun e w' =>
   ∃ (kz : Nat) (dk : Array UInt8), 1 ≤ kz ∧ kz ≤ ndig d ∧ dk.size = ndig d ∧ (∀ t, t < ndig d → dk[t]! = dg d (ndig d - 1 - t)) ∧ (∀ t, kz ≤ t → t < ndig d → dk[t]! = 48) ∧ dk[kz - 1]! ≠ 48 ∧
    e = .returned (.tuple #[.int .i64 ((ndig d : Int) + p), .int .i64 (kz : Int)]) ∧ Holds encB w' blk 0 dk ∧ Below blk w w' := by
 have hn := ndig_le' d 20 (by omega) (by decide)
 have hn1 := ndig_pos d
 obtain ⟨hu, hl⟩ := ndig_spec d
 have hH : Holds encB w blk 0 (D0.extract 0 (ndig d)) := by
  intro j hj
  simp at hj
  have := h32 j (by omega)
  rw [show (D0.extract 0 (ndig d))[j]! = D0[j]! by rw [getElem!_pos _ j (by simp; omega), getElem!_pos D0 j (by omega)]; simp]
  exact this
 have hsz : (D0.extract 0 (ndig d)).size = ndig d := by simp; omega
 have hF := Tryz.internal_strconv_formatBase10 blk 0 32 d (D0.extract 0 (ndig d)) w hH (by rw [hsz]; exact hu) hd (by omega)
 rw [hsz] at hF
 obtain ⟨DK, hDK⟩ : ∃ DK : Array UInt8, DK = (Array.range (ndig d)).map fun t => dg d (ndig d - 1 - t) := ⟨_, rfl⟩
 have hDs : DK.size = ndig d := by rw [hDK]; simp
 have hDt : ∀ t, t < ndig d → DK[t]! = dg d (ndig d - 1 - t) := by
  intro t ht
  rw [getElem!_pos DK t (by omega)]
  simp [hDK]
 have hDu : ∀ dk v, FmtInv (ndig d) d 0 v dk → dk = DK := by
  intro dk v h
  apply Array.ext
  ·rw [h.size, hDs]
  ·intro i h1 h2
   have := h.done i (Nat.zero_le _) (by rw [h.size] at h1; exact h1)
   rw [getElem!_pos dk i h1] at this
   have h3 := hDt i (by omega)
   rw [getElem!_pos DK i h2] at h3
   rw [this, h3]
 have hF' : Calls Tryz.prog 167 #[.slice (some ⟨blk, 0, none⟩) (ndig d) 32, .int .u64 (d : Int)] w fun e w' => e = .returned (.tuple #[]) ∧ ∃ n, w' = (putRow encB w blk 0 DK).drewN n := by
  refine hF.mono ?_
  rintro e w' ⟨rfl, n, v, dk, rfl, hv⟩
  exact ⟨rfl, n, by rw [hDu dk v hv]⟩
 have hrow : Holds encB (putRow encB w blk 0 DK) blk 0 DK := holds_putRow encB w blk 0 _ DK hH (by rw [hDs, hsz])
 obtain ⟨kz, hk1, hk2, hk3⟩ := stripAt (fun t => DK[t]! = 48) (ndig d)
 have hkz : 1 ≤ kz := by
  rcases Nat.eq_zero_or_pos kz with h0 | h0
  ·exfalso
   have h4 : DK[0]! = 48 := hk2 0 (by omega) (by omega)
   rw [hDt 0 (by omega)] at h4
   have h5 : d / 10 ^ (ndig d - 1 - 0) % 10 = d / 10 ^ (ndig d - 1) := by
    rw [Nat.sub_zero]
    apply Nat.mod_eq_of_lt
    apply Nat.div_lt_of_lt_mul
    have : 10 ^ ndig d = 10 ^ (ndig d - 1) * 10 := by rw [← Nat.pow_succ]; congr 1; omega
    omega
   have h6 : 1 ≤ d / 10 ^ (ndig d - 1) := Nat.div_pos (hl hd1) (Nat.pow_pos (by decide))
   unfold dg at h4
   rw [h5] at h4
   have h7 : d / 10 ^ (ndig d - 1) < 10 := by rw [← h5]; exact Nat.mod_lt _ (by decide)
   have h8 := congrArg UInt8.toNat h4
   simp at h8
   omega
  ·exact h0
 have hW : wrap64 ((ndig d : Int) + p) = (ndig d : Int) + p := w64 (by omega)
 refine (setDigits_1 blk d (ndig d) p ((ndig d : Int) + p) DK w _ (show ((ndig d : Nat) : Int) ≤ 20 by omega) hW hF' hrow hDs kz ⟨hk1, hk2, hk3⟩).mono ?_
 rintro e w' ⟨rfl, n, rfl⟩
 refine ⟨kz, DK, hkz, hk1, hDs, hDt, hk2, ?_, rfl, hrow, ?_⟩
 ·rcases hk3 with h | h
  ·omega
  ·exact h
 ·exact pw_below_drewN (below_putRow (q := 0) (Below.refl blk w) (Nat.le_refl _)) n
end
structure BufAt (w : World) (g c : Nat) (l : List UInt8) : Prop where
 room : ∀ j, j < c → (w.cell? ⟨g, j, none⟩).isSome = true ∧ w.frozen? ⟨g, j, none⟩ = false
 le : l.length ≤ c
 at_ : ∀ (j : Nat) (x : UInt8), l[j]? = some x → w.cell? ⟨g, j, none⟩ = some (encB x)
theorem BufAt.draw {w : World} {g c : Nat} {l : List UInt8} (h : BufAt w g c l) (n : Nat) : BufAt (w.drewN n) g c l := ⟨h.room, h.le, h.at_⟩
theorem BufAt.below {w w' : World} {g c : Nat} {l : List UInt8} (h : BufAt w g c l) (hg : g < w.heap.size) (hb : Below w.heap.size w w') : BufAt w' g c l :=
 ⟨fun j hj => by rw [hb.cell (p := ⟨g, j, none⟩) hg, hb.frozen (p := ⟨g, j, none⟩) hg]; exact h.room j hj, h.le, fun j x hx => by rw [hb.cell (p := ⟨g, j, none⟩) hg]; exact h.at_ j x hx⟩
theorem BufAt.app {w : World} {g c : Nat} {l : List UInt8} (h : BufAt w g c l) (m : List UInt8) (hm : l.length + m.length ≤ c) : BufAt (w.setCells g l.length (m.map encB)) g c (l ++ m) := by
 have hr : ∀ j, j < (m.map encB).length → (w.cell? ⟨g, l.length + j, none⟩).isSome = true := fun j hj => (h.room _ (by simp at hj; omega)).1
 have hin := World.cell?_setCells_in g (m.map encB) l.length w hr
 refine ⟨fun j hj => ⟨?_, by rw [World.frozen?_setCells]; exact (h.room j hj).2⟩, by simp; omega, fun j x hx => ?_⟩
 ·by_cases c1 : l.length ≤ j ∧ j < l.length + m.length
  ·obtain ⟨k, rfl⟩ : ∃ k, j = l.length + k := ⟨j - l.length, by omega⟩
   rw [hin k (by simp; omega)]; rfl
  ·rw [World.cell?_setCells_out g (m.map encB) l.length w ⟨g, j, none⟩ (fun _ _ => by simp; omega)]
   exact (h.room j hj).1
 ·rw [List.getElem?_append] at hx
  split at hx
  ·rename_i c1
   rw [World.cell?_setCells_out g (m.map encB) l.length w ⟨g, j, none⟩ (fun _ _ => by simp; omega)]
   exact h.at_ j x hx
  ·rename_i c1
   have hlt : j - l.length < m.length := (List.getElem?_eq_some_iff.1 hx).1
   obtain ⟨k, rfl⟩ : ∃ k, j = l.length + k := ⟨j - l.length, by omega⟩
   rw [show l.length + k - l.length = k by omega] at hx hlt
   rw [hin k (by simp; omega)]
   simp [List.getElem?_eq_some_iff] at hx
   obtain ⟨_, rfl⟩ := hx
   simp
theorem size_setCells' (b : Nat) : ∀ (vs : List Value) (o : Nat) (w : World), (w.setCells b o vs).heap.size = w.heap.size
 | [], _, _ => rfl
 | v :: r, o, w => by rw [World.setCells, size_setCells' b r (o + 1)]; simp
theorem wpList_buf (w : World) {ops : Array Oper} {rest : List Oper} {o : Oper} {a : Act} {Q : Exit → Act → World → Prop}
  (hg : o.guard = none) (s x : Operand) (hop : o.op = Op.call { callee := Callee.builtin Builtin.append, args := #[s, x], argTypes := #[58, 58] })
  (g c : Nat) (l m : List UInt8) (hs : a.eval s = .slice (some ⟨g, 0, none⟩) l.length c) (B : BufAt w g c l)
  (A : Addr) (c2 : Nat) (hx : a.eval x = .slice (some A) m.length c2) (hm : ∀ j u, (m.map encB)[j]? = some u → w.cell? (A.add j) = some u) (hroom : l.length + m.length ≤ c)
  (hK : ∀ w', BufAt w' g c (l ++ m) → Below g w w' → (w'.heap.size = w.heap.size ∧ ∀ a : Addr, a.block ≠ g → w'.cell? a = w.cell? a) → wpList Tryz.prog ops Q rest (a.put o.dst (.slice (some ⟨g, 0, none⟩) (l.length + m.length) c)) w') :
  wpList Tryz.prog ops Q (o :: rest) a w := by
 refine wpList_append_room1 w hg s x 58 58 hop 5 (.int .u8 0) 1 (by kernel_rfl) (by kernel_rfl) g 0 l.length c hs _ hx m.length (m.map encB)
  (Src.ofSlice w (size := 1) (e' := 5) (by kernel_rfl) A m.length c2 (m.map encB) (by simp) hm (fun u hu => by obtain ⟨_, _, rfl⟩ := List.mem_map.1 hu; rfl)) hroom ?_ ?_ ?_
 ·intro j hj; simp at hj; rw [Nat.zero_add]; exact (B.room _ (by omega)).1
 ·intro j hj; simp at hj; rw [Nat.zero_add]; exact (B.room _ (by omega)).2
 ·rw [Nat.zero_add]
  exact hK _ (B.app m hroom) (below_setCells (b := g) (Nat.le_refl _) _ _ _ (Below.refl _ _)) ⟨size_setCells' _ _ _ _, fun a ha => World.cell?_setCells_out g _ _ w a (fun h => absurd h ha)⟩
theorem wpList_new (w0 : World) {ops : Array Oper} {rest : List Oper} {o : Oper} {a : Act} {Q : Exit → Act → World → Prop}
  (hg : o.guard = none) (s x : Operand) (hop : o.op = Op.call { callee := Callee.builtin Builtin.append, args := #[s, x], argTypes := #[58, 58] })
  (g c : Nat) (l xs : List UInt8) (vs : Array Value) (hv : xs.map encB = vs.toList) (n : Nat) (hn : n = l.length) (hs : a.eval s = .slice (some ⟨g, 0, none⟩) n c) (B : BufAt w0 g c l) (hgw : g < w0.heap.size)
  (k : Nat) (hk : k = xs.length) (hx : a.eval x = .slice (some ⟨w0.heap.size, 0, none⟩) k k) (hroom : l.length + xs.length ≤ c)
  (hK : ∀ w', BufAt w' g c (l ++ xs) → Below g w0 w' → g < w'.heap.size → w0.heap.size ≤ w'.heap.size → (∀ a : Addr, a.block < w0.heap.size → a.block ≠ g → w'.cell? a = w0.cell? a) →
   wpList Tryz.prog ops Q rest (a.put o.dst (.slice (some ⟨g, 0, none⟩) (n + k) c)) w') :
  wpList Tryz.prog ops Q (o :: rest) a (w0.alloc (.cells vs 5)) := by
 subst hn; subst hk
 have hb : Below w0.heap.size w0 (w0.alloc (.cells vs 5)) := (Below.refl _ _).alloc (Nat.le_refl _) _
 refine wpList_buf _ hg s x hop g c l xs hs (B.below hgw hb) ⟨w0.heap.size, 0, none⟩ _ hx ?_ hroom ?_
 ·intro j u hj
  have hj' : vs[j]? = some u := by
   rw [hv] at hj; simpa using hj
  rw [show (⟨w0.heap.size, 0, none⟩ : Addr).add j = ⟨w0.heap.size, j, none⟩ by cases j <;> simp [Addr.add]]
  simpa using hj'
 ·intro w' B' L' hS
  have hz : w'.heap.size = w0.heap.size + 1 := by rw [hS.1]; simp
  exact hK w' B' (((Below.refl g w0).alloc (Nat.le_of_lt hgw) _).trans L') (by omega) (by omega) (fun a h1 h2 => by rw [hS.2 a h2]; exact World.cell?_alloc_lt w0 _ a h1)
theorem wpList_old (w : World) {ops : Array Oper} {rest : List Oper} {o : Oper} {a : Act} {Q : Exit → Act → World → Prop}
  (hg : o.guard = none) (s x : Operand) (hop : o.op = Op.call { callee := Callee.builtin Builtin.append, args := #[s, x], argTypes := #[58, 58] })
  (g c : Nat) (l m : List UInt8) (n : Nat) (hn : n = l.length) (hs : a.eval s = .slice (some ⟨g, 0, none⟩) n c) (B : BufAt w g c l) (hgw : g < w.heap.size)
  (blk off k c2 : Nat) (hk : k = m.length) (hx : a.eval x = .slice (some ⟨blk, off, none⟩) k c2) (hm : ∀ j u, (m.map encB)[j]? = some u → w.cell? ⟨blk, off + j, none⟩ = some u) (hroom : l.length + m.length ≤ c)
  (hK : ∀ w', BufAt w' g c (l ++ m) → Below g w w' → g < w'.heap.size → w.heap.size ≤ w'.heap.size → (∀ a : Addr, a.block < w.heap.size → a.block ≠ g → w'.cell? a = w.cell? a) →
   wpList Tryz.prog ops Q rest (a.put o.dst (.slice (some ⟨g, 0, none⟩) (n + k) c)) w') :
  wpList Tryz.prog ops Q (o :: rest) a w := by
 subst hn; subst hk
 refine wpList_buf _ hg s x hop g c l m hs B ⟨blk, off, none⟩ _ hx ?_ hroom ?_
 ·intro j u hj
  rw [show (⟨blk, off, none⟩ : Addr).add j = ⟨blk, off + j, none⟩ by cases j <;> simp [Addr.add]]
  exact hm j u hj
 ·intro w' B' L' hS
  exact hK w' B' L' (by omega) (by omega) (fun a _ h2 => hS.2 a h2)
end Go.Proofs.YtepfodmbjojdbaaGreatDoor.Num
