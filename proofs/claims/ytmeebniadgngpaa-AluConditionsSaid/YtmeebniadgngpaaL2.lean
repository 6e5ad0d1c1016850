/- Plain laws of words for chapter 6: quotients and rests, 32 bits, moves, bits. No conditions but those that each names. -/
import Derived.Test.YtmeebniadgngpaaR1
namespace Go.Proofs.Ytmeebniadgngpaa
open Go.RowKit
set_option linter.unusedVariables false
set_option linter.unusedSimpArgs false

/-! ### quotients -/
theorem udiv_back (a b : BitVec 64) : a / b * b + a % b = a := by
  apply BitVec.eq_of_toNat_eq
  rw [BitVec.toNat_add, BitVec.toNat_mul, BitVec.toNat_udiv, BitVec.toNat_umod]
  have h := Nat.div_add_mod a.toNat b.toNat
  have ha := a.isLt
  rw [Nat.mul_comm] at h
  generalize a.toNat / b.toNat * b.toNat = x at *
  generalize a.toNat % b.toNat = y at *
  omega
theorem quo_back_u (a b : BitVec 64) : ruleF 15 a b * b + ruleF 17 a b = a := by
  show quoF a b false * b + resF a b false = a
  unfold quoF resF
  cases h : b == 0#64
  · simp only [if_false, Bool.false_eq_true, Bool.not_false, if_true]; exact udiv_back a b
  · have : b = 0#64 := by simpa using h
    simp [this]
theorem quoF_back (a b : BitVec 64) : quoF a b true * b + resF a b true = a := by
  unfold quoF resF
  cases h : b == 0#64
  · have k := udiv_back (sz a) (sz b)
    simp only [if_false, Bool.false_eq_true, Bool.not_true]
    cases ha : neg a <;> cases hb : neg b <;> simp only [sz, ha, hb, if_true, if_false, Bool.false_eq_true] at k ⊢
    · simpa using k
    · simp only [Bool.false_bne, if_true] at *
      rw [BitVec.neg_mul, ← BitVec.mul_neg]; exact k
    · simp only [Bool.true_bne, Bool.not_false, if_true]
      have k2 := congrArg (fun x => -x) k
      simp only [BitVec.neg_neg] at k2
      rw [BitVec.neg_add, BitVec.sub_eq_add_neg, ← BitVec.neg_mul] at k2
      exact k2
    · simp only [Bool.true_bne, Bool.not_true, if_false, Bool.false_eq_true]
      have k2 := congrArg (fun x => -x) k
      simp only [BitVec.neg_neg] at k2
      rw [BitVec.neg_add, ← BitVec.mul_neg, BitVec.neg_neg, BitVec.sub_eq_add_neg] at k2
      exact k2
  · have : b = 0#64 := by simpa using h
    simp [this]
theorem quo_back_s (a b : BitVec 64) : ruleF 14 a b * b + ruleF 16 a b = a := quoF_back a b

/-! ### 32 bits -/
def p32 (a : BitVec 64) : BitVec 32 := a.setWidth 32
theorem p32_add (a b : BitVec 64) : p32 (a + b) = p32 a + p32 b := BitVec.setWidth_add a b (by omega)
theorem p32_mul (a b : BitVec 64) : p32 (a * b) = p32 a * p32 b := BitVec.setWidth_mul a b (by omega)
theorem p32_sub (a b : BitVec 64) : p32 (a - b) = p32 a - p32 b := by
  have h : p32 (a - b) + p32 b = p32 a := by rw [← p32_add, BitVec.sub_add_cancel]
  rw [← h, BitVec.add_sub_cancel]
theorem sgn_p (a : BitVec 64) : sgn a 32 = (p32 a).signExtend 64 := by
  apply BitVec.eq_of_getLsbD_eq
  intro i hi
  rw [getLsbD_sgn a 32 i (by omega) (by omega) hi, BitVec.getLsbD_signExtend]
  unfold p32
  by_cases h : i < 32
  · simp [h, hi, show min i 31 = i by omega]
  · simp [h, hi, show min i 31 = 31 by omega, BitVec.msb_eq_getLsbD_last]
theorem p_sgn (a : BitVec 64) : p32 (sgn a 32) = p32 a := by
  apply BitVec.eq_of_getLsbD_eq
  intro i hi
  unfold p32
  rw [BitVec.getLsbD_setWidth, BitVec.getLsbD_setWidth, getLsbD_sgn a 32 i (by omega) (by omega) (by omega), show min i (32 - 1) = i by omega]
theorem p_lo (a : BitVec 64) : p32 (lo32 a) = p32 a := by
  rw [← lo32_eq]
  apply BitVec.eq_of_toNat_eq
  unfold p32
  rw [BitVec.toNat_setWidth, BitVec.toNat_setWidth, BitVec.toNat_umod]
  have : (4294967296#64).toNat = 4294967296 := by decide
  rw [this]; omega
theorem p_shl (a : BitVec 64) (n : Nat) : p32 (a <<< n) = p32 a <<< n := by
  unfold p32
  apply BitVec.eq_of_getLsbD_eq
  intro i hi
  rw [BitVec.getLsbD_setWidth, BitVec.getLsbD_shiftLeft, BitVec.getLsbD_shiftLeft, BitVec.getLsbD_setWidth]
  simp [hi, show i < 64 by omega, show i - n < 32 by omega]
theorem sgn_of_p {a b : BitVec 64} (h : p32 a = p32 b) : sgn a 32 = sgn b 32 := by rw [sgn_p, sgn_p, h]
theorem short_add (a b : BitVec 64) : shortF 0 a b = sgn (a + b) 32 := sgn_of_p (by rw [p32_add, p32_add, p_lo, p_lo])
theorem short_sub (a b : BitVec 64) : shortF 1 a b = sgn (a - b) 32 := sgn_of_p (by rw [p32_sub, p32_sub, p_lo, p_lo])
theorem short_mul (a b : BitVec 64) : shortF 5 a b = sgn (a * b) 32 := sgn_of_p (by rw [p32_mul, p32_mul, p_lo, p_lo])
theorem short_sll (a b : BitVec 64) : shortF 2 a b = sgn (ruleF 2 a (b % 32#64)) 32 := by
  refine sgn_of_p ?_
  show p32 (lo32 a <<< _) = p32 (a <<< ((b % 32#64) &&& 63#64).toNat)
  rw [p_shl, p_shl, p_lo, ← mod32]
  congr 1
  rw [BitVec.toNat_and]
  have h2 : (63#64).toNat = 2 ^ 6 - 1 := by decide
  rw [h2, Nat.and_two_pow_sub_one_eq_mod, BitVec.toNat_umod]
  have h3 : (32#64).toNat = 32 := by decide
  rw [h3]; omega
theorem quo_short (a b : BitVec 64) : shortF 0 (shortF 5 (shortF 6 a b) b) (shortF 8 a b) = shortF 0 a 0#64 := by
  rw [short_add, short_add, short_mul]
  refine sgn_of_p ?_
  rw [p32_add, p_sgn, p32_mul]
  show p32 (sgn (quoF _ _ true) 32) * p32 b + p32 (sgn (resF _ _ true) 32) = _
  rw [p_sgn, p_sgn, BitVec.add_zero]
  have k := congrArg p32 (quoF_back (sgn (lo32 a) 32) (sgn (lo32 b) 32))
  rw [p32_add, p32_mul, p_sgn, p_lo, p_sgn, p_lo] at k
  exact k
theorem quo_short_u (a b : BitVec 64) : shortF 0 (shortF 5 (shortF 7 a b) b) (shortF 9 a b) = shortF 0 a 0#64 := by
  rw [short_add, short_add, short_mul]
  refine sgn_of_p ?_
  rw [p32_add, p_sgn, p32_mul]
  show p32 (sgn (quoF _ _ false) 32) * p32 b + p32 (sgn (resF _ _ false) 32) = _
  rw [p_sgn, p_sgn, BitVec.add_zero]
  have k := congrArg p32 (quo_back_u (lo32 a) (lo32 b))
  rw [p32_add, p32_mul, p_lo, p_lo] at k
  exact k

/-! ### bits -/
theorem dis (x y : BitVec 64) (h : ∀ i, i < 64 → (x.getLsbD i && y.getLsbD i) = false) : x + y = x ||| y := by
  apply BitVec.add_eq_or_of_and_eq_zero
  apply BitVec.eq_of_getLsbD_eq
  intro i hi
  rw [BitVec.getLsbD_and, h i hi]; simp
theorem or_parts (a b : BitVec 64) : a ||| b = (a &&& b) + (a ^^^ b) := by
  rw [dis _ _ (fun i hi => by rw [BitVec.getLsbD_and, BitVec.getLsbD_xor]; cases a.getLsbD i <;> cases b.getLsbD i <;> rfl)]
  apply BitVec.eq_of_getLsbD_eq
  intro i hi
  rw [BitVec.getLsbD_or, BitVec.getLsbD_or, BitVec.getLsbD_and, BitVec.getLsbD_xor]
  cases a.getLsbD i <;> cases b.getLsbD i <;> rfl
theorem and_parts (a b : BitVec 64) : a = (a &&& b) + (a &&& ~~~b) := by
  rw [dis _ _ (fun i hi => by rw [BitVec.getLsbD_and, BitVec.getLsbD_and, BitVec.getLsbD_not]; cases a.getLsbD i <;> cases b.getLsbD i <;> simp)]
  apply BitVec.eq_of_getLsbD_eq
  intro i hi
  rw [BitVec.getLsbD_or, BitVec.getLsbD_and, BitVec.getLsbD_and, BitVec.getLsbD_not]
  cases a.getLsbD i <;> cases b.getLsbD i <;> simp [hi]
theorem or_parts2 (a b : BitVec 64) : a ||| b = b + (a &&& ~~~b) := by
  rw [dis _ _ (fun i hi => by rw [BitVec.getLsbD_and, BitVec.getLsbD_not]; cases a.getLsbD i <;> cases b.getLsbD i <;> simp)]
  apply BitVec.eq_of_getLsbD_eq
  intro i hi
  rw [BitVec.getLsbD_or, BitVec.getLsbD_or, BitVec.getLsbD_and, BitVec.getLsbD_not]
  cases a.getLsbD i <;> cases b.getLsbD i <;> simp [hi]
theorem and_add_or (a b : BitVec 64) : (a &&& b) + (a ||| b) = a + b := by
  have h := and_parts a b
  rw [or_parts2, BitVec.add_comm b, ← BitVec.add_assoc, ← h]
theorem or_sub_and (a b : BitVec 64) : (a ||| b) - (a &&& b) = a ^^^ b := by
  rw [or_parts, BitVec.add_comm, BitVec.add_sub_cancel]
theorem xor_back (a b : BitVec 64) : (a ^^^ b) ^^^ b = a := by rw [BitVec.xor_assoc, BitVec.xor_self, BitVec.xor_zero]

/-! ### moves -/
theorem n64 (n : BitVec 64) : (n % 64#64) &&& 63#64 = n % 64#64 := by
  apply BitVec.eq_of_toNat_eq
  rw [BitVec.toNat_and, BitVec.toNat_umod]
  have h2 : (63#64).toNat = 2 ^ 6 - 1 := by decide
  have h3 : (64#64).toNat = 64 := by decide
  rw [h2, Nat.and_two_pow_sub_one_eq_mod, h3]; omega
theorem n64_lt (n : BitVec 64) : (n % 64#64).toNat < 64 := by
  rw [BitVec.toNat_umod]
  have h3 : (64#64).toNat = 64 := by decide
  rw [h3]; omega
theorem move_down (a : BitVec 64) (k : Nat) (hk : k < 64) : (a >>> k) <<< k = a - a % (1#64 <<< k) := by
  have ha := a.isLt
  have o : (1#64).toNat = 1 := by decide
  have hp : 2 ^ k < 2 ^ 64 := Nat.pow_lt_pow_right (by omega) hk
  have e1 : (1#64 <<< k).toNat = 2 ^ k := by rw [BitVec.toNat_shiftLeft, o, Nat.shiftLeft_eq, Nat.one_mul, Nat.mod_eq_of_lt hp]
  apply BitVec.eq_of_toNat_eq
  rw [BitVec.toNat_shiftLeft, BitVec.toNat_ushiftRight, BitVec.toNat_sub, BitVec.toNat_umod, e1, Nat.shiftLeft_eq, Nat.shiftRight_eq_div_pow]
  have h := Nat.div_add_mod a.toNat (2 ^ k)
  have hm := Nat.mod_le a.toNat (2 ^ k)
  rw [Nat.mul_comm] at h
  generalize a.toNat / 2 ^ k * 2 ^ k = x at *
  generalize a.toNat % 2 ^ k = y at *
  omega
theorem move_sign (a : BitVec 64) (k : Nat) (hk : k < 64) : (a <<< k).sshiftRight k = sgn a (64 - k) := by
  rw [sgn_eq, show 64 - (64 - k) = k by omega]
theorem top_or (a : BitVec 64) (k : Nat) : (a >>> 63 == 1#64) = true ∨ a.sshiftRight k = a >>> k := by
  cases h : a.msb
  · right; exact BitVec.sshiftRight_eq_of_msb_false h
  · left
    have e : a >>> 63 = 1#64 := by
      have := bit1 a 63
      rw [BitVec.msb_eq_getLsbD_last] at h
      rw [h] at this
      simp only [if_true] at this
      rw [← this]
      apply BitVec.eq_of_getLsbD_eq
      intro j hj
      rw [BitVec.getLsbD_and, BitVec.getLsbD_ushiftRight, BitVec.getLsbD_one]
      by_cases hz : j = 0
      · subst hz; simp
      · simp [hz, show 64 ≤ 63 + j by omega]
    rw [e]; rfl
end Go.Proofs.Ytmeebniadgngpaa
