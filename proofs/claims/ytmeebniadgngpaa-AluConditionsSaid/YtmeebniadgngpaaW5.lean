/- Words, the fifth part: the reference's division, bit by bit. No conditions but those that each names. -/
import Derived.Test.YtmeebniadgngpaaW4
namespace Go.Proofs.Ytmeebniadgngpaa
open Go.RowKit
set_option linter.unusedVariables false
set_option linter.unusedSimpArgs false

structure DivRel (a b : BitVec 64) (k : Nat) (q r : BitVec 64) : Prop where
  q : q.toNat = (a.toNat / 2 ^ (64 - k) / b.toNat) * 2 ^ (64 - k)
  r : r.toNat = a.toNat / 2 ^ (64 - k) % b.toNat
theorem DivRel.zero (a b : BitVec 64) : DivRel a b 0 0#64 0#64 := by
  have h := a.isLt
  constructor
  · simp [Nat.div_eq_of_lt h]
  · simp [Nat.div_eq_of_lt h]
theorem half (a k : Nat) (hk : k < 64) : a / 2 ^ (64 - (k + 1)) = 2 * (a / 2 ^ (64 - k)) + if a.testBit (63 - k) then 1 else 0 := by
  have e : 64 - k = (63 - k) + 1 := by omega
  rw [e, Nat.pow_succ, ← Nat.div_div_eq_div_mul, Nat.testBit_eq_decide_div_mod_eq, show 64 - (k + 1) = 63 - k by omega]
  have := Nat.div_add_mod (a / 2 ^ (63 - k)) 2
  rcases Nat.mod_two_eq_zero_or_one (a / 2 ^ (63 - k)) with h | h <;> rw [h] at this ⊢ <;> simp <;> omega
def rot (a r : BitVec 64) (i : Nat) : BitVec 64 := r <<< 1 ||| (a >>> i &&& 1#64)
theorem rot_nat (a r : BitVec 64) (i : Nat) : (rot a r i).toNat = (2 * r.toNat + if a.toNat.testBit i then 1 else 0) % 2 ^ 64 := by
  have h := r.isLt
  unfold rot
  rw [bit1]
  have hb : a.getLsbD i = a.toNat.testBit i := rfl
  rw [hb]
  have o : (1#64).toNat = 1 := by decide
  have e : r <<< 1 ||| (if a.toNat.testBit i = true then 1#64 else 0#64) = r <<< 1 + (if a.toNat.testBit i = true then 1#64 else 0#64) := by
    apply (BitVec.add_eq_or_of_and_eq_zero _ _ _).symm
    apply BitVec.eq_of_getLsbD_eq
    intro j hj
    rw [BitVec.getLsbD_and, BitVec.getLsbD_shiftLeft]
    by_cases hz : j = 0
    · subst hz; simp
    · split <;> simp [BitVec.getLsbD_one, hz]
  rw [e]
  split <;> simp only [BitVec.toNat_add, BitVec.toNat_shiftLeft, Nat.shiftLeft_eq, o, BitVec.toNat_ofNat] <;> omega
theorem or_bit (q : BitVec 64) (x j : Nat) (hj : j < 64) (h : q.toNat = x * 2 ^ (j + 1)) : (q ||| 1#64 <<< j).toNat = q.toNat + 2 ^ j := by
  have hq := q.isLt
  have o : (1#64).toNat = 1 := by decide
  have e : q ||| 1#64 <<< j = q + 1#64 <<< j := by
    apply (BitVec.add_eq_or_of_and_eq_zero _ _ _).symm
    apply BitVec.eq_of_getLsbD_eq
    intro i hi
    rw [BitVec.getLsbD_and, BitVec.getLsbD_shiftLeft]
    by_cases hz : i = j
    · subst hz
      have : q.getLsbD i = false := by
        show q.toNat.testBit i = false
        rw [h, Nat.testBit_mul_two_pow]; simp; omega
      simp [this]
    · by_cases hl : i < j
      · simp [hl]
      · simp [BitVec.getLsbD_one, show ¬ i - j = 0 by omega]
  have hp : 2 ^ j < 2 ^ 64 := Nat.pow_lt_pow_right (by omega) hj
  have hd : q.toNat + 2 ^ j < 2 ^ 64 := by
    have e2 : (2 : Nat) ^ 64 = 2 ^ (63 - j) * 2 ^ (j + 1) := by rw [← Nat.pow_add]; congr 1; omega
    have hx : x + 1 ≤ 2 ^ (63 - j) := by
      rw [h, e2] at hq
      exact Nat.lt_of_mul_lt_mul_right hq
    have := Nat.mul_le_mul_right (2 ^ (j + 1)) hx
    rw [← e2, Nat.add_mul, Nat.one_mul, Nat.pow_succ] at this
    have : 0 < 2 ^ j := Nat.two_pow_pos j
    rw [h, Nat.pow_succ]
    omega
  rw [e, BitVec.toNat_add, BitVec.toNat_shiftLeft, Nat.shiftLeft_eq, o, Nat.one_mul, Nat.mod_eq_of_lt hp, Nat.mod_eq_of_lt hd]
theorem DivRel.step {a b : BitVec 64} {k : Nat} {q r : BitVec 64} (H : DivRel a b k q r) (hk : k < 64) (hb : (b == 0#64) = false) :
    ∃ R2 : Nat, R2 = 2 * r.toNat + (if a.toNat.testBit (63 - k) then 1 else 0) ∧ R2 < 2 * b.toNat ∧ r.toNat < b.toNat ∧ 0 < b.toNat ∧
      a.toNat / 2 ^ (64 - (k + 1)) / b.toNat = 2 * (a.toNat / 2 ^ (64 - k) / b.toNat) + (if b.toNat ≤ R2 then 1 else 0) ∧
      a.toNat / 2 ^ (64 - (k + 1)) % b.toNat = if b.toNat ≤ R2 then R2 - b.toNat else R2 := by
  have b0 : 0 < b.toNat := by
    rcases Nat.eq_zero_or_pos b.toNat with h | h
    · have : b = 0#64 := BitVec.eq_of_toNat_eq (by simpa using h)
      simp [this] at hb
    · exact h
  refine ⟨_, rfl, ?_⟩
  rw [half _ _ hk]
  have hr := H.r
  have hlt := Nat.mod_lt (a.toNat / 2 ^ (64 - k)) b0
  rw [← hr] at hlt
  have hdm := Nat.div_add_mod (a.toNat / 2 ^ (64 - k)) b.toNat
  rw [← hr] at hdm
  have hβ : (if a.toNat.testBit (63 - k) = true then 1 else 0) ≤ 1 := by split <;> omega
  generalize a.toNat / 2 ^ (64 - k) = A at *
  generalize A / b.toNat = Q at *
  generalize (if a.toNat.testBit (63 - k) = true then 1 else 0) = β at *
  have uniq : ∀ x c d : Nat, x = b.toNat * c + d → d < b.toNat → x / b.toNat = c ∧ x % b.toNat = d := by
    intro x c d e hd
    subst e
    exact ⟨by rw [Nat.mul_add_div b0, Nat.div_eq_of_lt hd, Nat.add_zero], by rw [Nat.mul_add_mod, Nat.mod_eq_of_lt hd]⟩
  refine ⟨by omega, hlt, b0, ?_⟩
  by_cases h : b.toNat ≤ 2 * r.toNat + β
  · rw [if_pos h, if_pos h]
    exact uniq _ _ _ (by rw [Nat.mul_add, ← Nat.mul_assoc, Nat.mul_comm b.toNat 2, Nat.mul_assoc]; omega) (by omega)
  · rw [if_neg h, if_neg h]
    exact uniq _ _ _ (by rw [Nat.add_zero, ← Nat.mul_assoc, Nat.mul_comm b.toNat 2, Nat.mul_assoc]; omega) (by omega)
theorem rot_over {a b : BitVec 64} {k : Nat} {q r : BitVec 64} (H : DivRel a b k q r) (hk : k < 64) (hb : (b == 0#64) = false) :
    ((r >>> 63 == 1#64) = true ∨ b.toNat ≤ (rot a r (63 - k)).toNat) ↔ b.toNat ≤ 2 * r.toNat + (if a.toNat.testBit (63 - k) then 1 else 0) := by
  obtain ⟨R2, e2, h2, hr, hb0, _, _⟩ := H.step hk hb
  have h1 := r.isLt
  have h3 := b.isLt
  rw [rot_nat, ← e2]
  have e3 : (r >>> 63 == 1#64) = decide (2 ^ 63 ≤ r.toNat) := by
    rw [Bool.eq_iff_iff, decide_eq_true_iff, beq_iff_eq, ← BitVec.toNat_inj, BitVec.toNat_ushiftRight, Nat.shiftRight_eq_div_pow]
    have o : (1#64).toNat = 1 := by decide
    rw [o]; omega
  rw [e3, decide_eq_true_iff]
  have : (if a.toNat.testBit (63 - k) = true then 1 else 0) ≤ 1 := by split <;> omega
  omega
theorem DivRel.yes {a b : BitVec 64} {k : Nat} {q r : BitVec 64} (H : DivRel a b k q r) (hk : k < 64) (hb : (b == 0#64) = false)
    (h : (r >>> 63 == 1#64) = true ∨ b.toNat ≤ (rot a r (63 - k)).toNat) : DivRel a b (k + 1) (q ||| 1#64 <<< (63 - k)) (rot a r (63 - k) - b) := by
  have h' := (rot_over H hk hb).1 h
  obtain ⟨R2, e2, h2, hr, hb0, hq, hm⟩ := H.step hk hb
  rw [← e2] at h'
  rw [if_pos h'] at hq hm
  have hj : 64 - k = (63 - k) + 1 := by omega
  have hj' : 64 - (k + 1) = 63 - k := by omega
  constructor
  · rw [or_bit q _ (63 - k) (by omega) (by rw [H.q, hj]), H.q, hq, hj', hj, Nat.pow_succ, Nat.add_mul, Nat.one_mul]
    congr 1
    rw [Nat.mul_comm 2, Nat.mul_assoc, Nat.mul_comm 2]
  · have h1 := r.isLt
    have h3 := b.isLt
    rw [hm, BitVec.toNat_sub, rot_nat, ← e2]
    clear hm hq h e2 H
    rcases Nat.lt_or_ge R2 (2 ^ 64) with hh | hh
    · rw [Nat.mod_eq_of_lt hh, show 2 ^ 64 - b.toNat + R2 = R2 - b.toNat + 2 ^ 64 by omega, Nat.add_mod_right, Nat.mod_eq_of_lt (by omega)]
    · rw [show R2 % 2 ^ 64 = R2 - 2 ^ 64 by omega, show 2 ^ 64 - b.toNat + (R2 - 2 ^ 64) = R2 - b.toNat by omega, Nat.mod_eq_of_lt (by omega)]
theorem DivRel.no {a b : BitVec 64} {k : Nat} {q r : BitVec 64} (H : DivRel a b k q r) (hk : k < 64) (hb : (b == 0#64) = false)
    (h : ¬ ((r >>> 63 == 1#64) = true ∨ b.toNat ≤ (rot a r (63 - k)).toNat)) : DivRel a b (k + 1) q (rot a r (63 - k)) := by
  have h' : ¬ _ := fun x => h ((rot_over H hk hb).2 x)
  obtain ⟨R2, e2, h2, hr, hb0, hq, hm⟩ := H.step hk hb
  rw [← e2] at h'
  rw [if_neg h'] at hq hm
  have hj : 64 - k = (63 - k) + 1 := by omega
  have hj' : 64 - (k + 1) = 63 - k := by omega
  constructor
  · rw [H.q, hq, hj', hj, Nat.pow_succ, Nat.add_zero]
    rw [Nat.mul_comm 2, Nat.mul_assoc, Nat.mul_comm 2]
  · have h3 := b.isLt
    rw [hm, rot_nat, ← e2]
    omega
theorem DivRel.done {a b q r : BitVec 64} (H : DivRel a b 64 q r) : q = a / b ∧ r = a % b := by
  constructor
  · apply BitVec.eq_of_toNat_eq; rw [H.q]; simp
  · apply BitVec.eq_of_toNat_eq; rw [H.r]; simp

set_option maxHeartbeats 1000000 in
theorem divide_any (a b : BitVec 64) (hb : (b == 0#64) = false) (w : World) :
    Calls Try.prog 74 #[U a, U b] w fun e w' => e = .returned (.tuple #[U (a / b), U (a % b)]) ∧ w = w' := by
  have hb' := Hd.mk hb
  clear hb
  go_enter Try.func74, Try.ntmps74
  go_wp2
  go_simp
  go_loop [6, 7, 8] (fun vq vr vi => ∃ k : Nat, ∃ q r : BitVec 64, k ≤ 64 ∧ vi = .int .i64 (63 - (k : Int)) ∧ vq = U q ∧ vr = U r ∧ Hd (DivRel a b k q r))
    (fun _ _ i => (1 + intOf i).toNat)
  case atStart => exact ⟨0, 0#64, 0#64, by omega, rfl, rfl, rfl, ⟨DivRel.zero a b⟩⟩
  case round =>
    obtain ⟨k, q, r, hk, rfl, rfl, rfl, H⟩ := hrel
    by_cases hlt : k < 64
    · have hi : (63 - (k : Int)).toNat = 63 - k := by omega
      have h0 : 0 ≤ 63 - (k : Int) := by omega
      have h0' : (k : Int) ≤ 63 := by omega
      have hi' := Hd.mk hi
      clear hi
      cases hov : (r >>> 63 == 1#64)
      · cases hge : leB b (r <<< 1 ||| (a >>> (63 - k) &&& 1#64))
        · have N := Hd.mk (H.out.no hlt hb'.out (by rw [hov]; simpa [rot, leB] using hge))
          go_wp2_with (go_at_call 33; refine (bit_any _ _ (by omega) _).mono ?_; rintro e w' ⟨rfl, rfl⟩)
          go_round
          case rel => exact ⟨k + 1, q, _, by omega, by go_num, rfl, rfl, N⟩
          case measure => simp [intOf]; omega
        · have N := Hd.mk (H.out.yes hlt hb'.out (.inr (by simpa [rot, leB] using hge)))
          go_wp2_with (go_at_call 33; refine (bit_any _ _ (by omega) _).mono ?_; rintro e w' ⟨rfl, rfl⟩)
          go_round
          case rel => exact ⟨k + 1, _, _, by omega, by go_num, rfl, rfl, N⟩
          case measure => simp [intOf]; omega
      · have N := Hd.mk (H.out.yes hlt hb'.out (.inl hov))
        go_wp2_with (go_at_call 33; refine (bit_any _ _ (by omega) _).mono ?_; rintro e w' ⟨rfl, rfl⟩)
        go_round
        case rel => exact ⟨k + 1, _, _, by omega, by go_num, rfl, rfl, N⟩
        case measure => simp [intOf]; omega
    · obtain rfl : k = 64 := by omega
      go_wp2
      go_ret2
      obtain ⟨e1, e2⟩ := H.out.done
      exact ⟨by rw [← e1, ← e2]; rfl, rfl⟩

theorem low_neg (a : BitVec 64) (w : World) : Calls Try.prog 73 #[U a] w fun e w' => e = .returned (.bool (neg a)) ∧ w = w' := low_any a w
theorem ret2U {x y x' y' : BitVec 64} (h : x = x') (h' : y = y') : Ending.returned (.tuple #[U x, U y]) = Ending.returned (.tuple #[U x', U y']) := by rw [h, h']

set_option maxHeartbeats 1000000 in
theorem both_any (a b : BitVec 64) (s : Bool) (w : World) :
    Calls Try.prog 69 #[U a, U b, .bool s] w fun e w' => e = .returned (.tuple #[U (quoF a b s), U (resF a b s)]) ∧ w = w' := by
  cases hb : (b == 0#64)
  · have hsz := sz_zero b hb
    cases s
    · go_enter Try.func69, Try.ntmps69
      go_wp2_with (go_at_call 74; refine (divide_any _ _ hb _).mono ?_; rintro e w' ⟨rfl, rfl⟩)
      go_ret2
      exact ⟨ret2U (by unfold quoF; simp [hb]) (by unfold resF; simp [hb]), rfl⟩
    · cases na : neg a <;> cases nb : neg b
      all_goals
        have hz : (-b == 0#64) = false ∨ neg b = false := by
          first | exact .inr nb | (unfold sz at hsz; rw [nb] at hsz; exact .inl hsz)
        have na' := Hd.mk na
        have nb' := Hd.mk nb
        have hz' := Hd.mk hz
        clear hz hsz
        go_enter Try.func69, Try.ntmps69
        go_wp2_with (first | (go_at_call 73; refine (low_neg _ _).mono ?_; rintro e w' ⟨rfl, rfl⟩) | (go_at_call 74; refine (divide_any _ _ (by first | exact hb | exact (hz'.out.resolve_right (by rw [nb'.out]; decide))) _).mono ?_; rintro e w' ⟨rfl, rfl⟩))
        go_ret2
        exact ⟨ret2U (by unfold quoF sz; simp [hb, na'.out, nb'.out]) (by unfold resF sz; simp [hb, na'.out, nb'.out]), rfl⟩
  · have hb' : b = 0#64 := by simpa using hb
    go_enter Try.func69, Try.ntmps69
    go_wp2
    go_ret2
    exact ⟨ret2U (x := 18446744073709551615#64) (by unfold quoF; simp [hb]) (by unfold resF; simp [hb]), rfl⟩

theorem rQuotient_any (a b : BitVec 64) (s : Bool) (w : World) :
    Calls Try.prog 42 #[U a, U b, .bool s] w fun e w' => e = .returned (U (quoF a b s)) ∧ w = w' := by
  go_enter Try.func42, Try.ntmps42
  go_wp2_with (go_at_call 69; refine (both_any _ _ _ _).mono ?_; rintro e w' ⟨rfl, rfl⟩)
  go_ret
  exact ⟨rfl, rfl⟩
theorem rRest_any (a b : BitVec 64) (s : Bool) (w : World) :
    Calls Try.prog 43 #[U a, U b, .bool s] w fun e w' => e = .returned (U (resF a b s)) ∧ w = w' := by
  go_enter Try.func43, Try.ntmps43
  go_wp2_with (go_at_call 69; refine (both_any _ _ _ _).mono ?_; rintro e w' ⟨rfl, rfl⟩)
  go_ret
  exact ⟨rfl, rfl⟩
end Go.Proofs.Ytmeebniadgngpaa
