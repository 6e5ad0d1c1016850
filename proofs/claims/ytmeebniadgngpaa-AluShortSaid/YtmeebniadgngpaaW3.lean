/- Words, the third part: the product's upper half and long division, as the program and as the reference of chapter 1 reckon them. No conditions but those that each names. -/
import Derived.Test.YtmeebniadgngpaaW2
namespace Go.Proofs.Ytmeebniadgngpaa
open Go.RowKit
set_option linter.unusedVariables false
set_option linter.unusedSimpArgs false

theorem mulhi_words (a b : BitVec 64) :
    (a >>> 32) * (b >>> 32) + (((a >>> 32) * (b &&& 4294967295#64) + ((a &&& 4294967295#64) * (b &&& 4294967295#64)) >>> 32) >>> 32) +
      ((((a >>> 32) * (b &&& 4294967295#64) + ((a &&& 4294967295#64) * (b &&& 4294967295#64)) >>> 32) &&& 4294967295#64) + (a &&& 4294967295#64) * (b >>> 32)) >>> 32 = mulhi a b := by
  have m : (4294967295#64).toNat = 2 ^ 32 - 1 := by decide
  have ha := a.isLt
  have hb := b.isLt
  have e := mul64_eq a.toNat b.toNat ha hb
  apply BitVec.eq_of_toNat_eq
  unfold mulhi
  simp only [BitVec.toNat_add, BitVec.toNat_mul, BitVec.toNat_ushiftRight, BitVec.toNat_and, m, Nat.and_two_pow_sub_one_eq_mod, Nat.shiftRight_eq_div_pow, BitVec.toNat_ofNat]
  have h1 : a.toNat / 2 ^ 32 ≤ 2 ^ 32 - 1 := by omega
  have h2 : b.toNat / 2 ^ 32 ≤ 2 ^ 32 - 1 := by omega
  have h3 : a.toNat % 2 ^ 32 ≤ 2 ^ 32 - 1 := by omega
  have h4 : b.toNat % 2 ^ 32 ≤ 2 ^ 32 - 1 := by omega
  have p1 := Nat.mul_le_mul h1 h2
  have p2 := Nat.mul_le_mul h1 h4
  have p3 := Nat.mul_le_mul h3 h2
  have p4 := Nat.mul_le_mul h3 h4
  have e64 : (18446744073709551616 : Nat) = 2 ^ 64 := by decide
  rw [e64, ← e]
  generalize a.toNat / 2 ^ 32 * (b.toNat / 2 ^ 32) = x1 at *
  generalize a.toNat / 2 ^ 32 * (b.toNat % 2 ^ 32) = x2 at *
  generalize a.toNat % 2 ^ 32 * (b.toNat / 2 ^ 32) = x3 at *
  generalize a.toNat % 2 ^ 32 * (b.toNat % 2 ^ 32) = x4 at *
  omega

theorem Mul64_any (a b : BitVec 64) (w : World) :
    Calls Try.prog 71 #[U a, U b] w fun e w' => e = .returned (.tuple #[U (mulhi a b), U (a * b)]) ∧ w = w' := by
  have e := Hd.mk (mulhi_words a b)
  go_enter Try.func71, Try.ntmps71
  go_wp2
  go_ret2
  exact ⟨by rw [← e.out]; rfl, rfl⟩

theorem val_neg (s : Bool) (a : BitVec 64) : val s a = if (s && neg a) = true then (a.toNat : Int) - 18446744073709551616 else a.toNat := rfl
theorem highF_eq (a b : BitVec 64) (s t : Bool) :
    highF a b s t = (mulhi a b - (if s && neg a then b else 0#64)) - (if t && neg b then a else 0#64) := by
  unfold highF val mulhi
  have e0 : BitVec.ofNat 64 (a.toNat * b.toNat / 18446744073709551616) = BitVec.ofInt 64 ((a.toNat : Int) * b.toNat / 18446744073709551616) := by
    rw [← BitVec.ofInt_natCast]; simp
  have fa : a = BitVec.ofInt 64 (a.toNat : Int) := (U_ofInt a).symm
  have fb : b = BitVec.ofInt 64 (b.toNat : Int) := (U_ofInt b).symm
  have M0 : BitVec.ofInt 64 18446744073709551616 = 0#64 := by decide
  rw [e0]
  generalize (a.toNat : Int) = A at *
  generalize (b.toNat : Int) = B at *
  cases s && neg a <;> cases t && neg b <;> simp only [if_true, if_false, Bool.false_eq_true, BitVec.sub_zero]
  · have q : A * (B - 18446744073709551616) / 18446744073709551616 = A * B / 18446744073709551616 - A := by
      rw [Int.mul_sub]; generalize A * B = p; omega
    rw [q, Int.sub_eq_add_neg, BitVec.ofInt_add, BitVec.ofInt_neg, ← fa, BitVec.sub_eq_add_neg]
  · have q : (A - 18446744073709551616) * B / 18446744073709551616 = A * B / 18446744073709551616 - B := by
      rw [Int.sub_mul]; generalize A * B = p; omega
    rw [q, Int.sub_eq_add_neg, BitVec.ofInt_add, BitVec.ofInt_neg, ← fb, BitVec.sub_eq_add_neg]
  · have q : (A - 18446744073709551616) * (B - 18446744073709551616) / 18446744073709551616 = A * B / 18446744073709551616 - B - A + 18446744073709551616 := by
      rw [Int.sub_mul, Int.mul_sub]; generalize A * B = p; omega
    rw [q, BitVec.ofInt_add, M0, BitVec.add_zero, Int.sub_eq_add_neg, BitVec.ofInt_add, BitVec.ofInt_neg, ← fa, Int.sub_eq_add_neg, BitVec.ofInt_add, BitVec.ofInt_neg, ← fb, BitVec.sub_eq_add_neg, BitVec.sub_eq_add_neg]

theorem High_any (a b : BitVec 64) (s t : Bool) (w : World) :
    Calls Try.prog 59 #[U a, U b, .bool s, .bool t] w fun e w' => e = .returned (U (highF a b s t)) ∧ w = w' := by
  have hf := Hd.mk (highF_eq a b s t)
  cases s <;> cases t <;> cases na : neg a <;> cases nb : neg b
  all_goals
    have ha := (si_neg a).trans na
    have hc := (si_neg b).trans nb
    have na' := Hd.mk na
    have nb' := Hd.mk nb
    clear na nb
    go_enter Try.func59, Try.ntmps59
    go_wp2_with (go_at_call 71; refine (Mul64_any _ _ _).mono ?_; rintro e w' ⟨rfl, rfl⟩)
    go_ret
    exact ⟨retU (by rw [hf.out]; simp [na'.out, nb'.out]), rfl⟩

/-! ### by adding up -/
def v2 (h l : BitVec 64) : Int := (h.toNat : Int) * 18446744073709551616 + l.toNat
theorem v2_add (ah al bh bl : BitVec 64) :
    v2 (if ltB (al + bl) al then ah + bh + 1#64 else ah + bh) (al + bl) = (v2 ah al + v2 bh bl) % 340282366920938463463374607431768211456 := by
  have h1 := ah.isLt
  have h2 := al.isLt
  have h3 := bh.isLt
  have h4 := bl.isLt
  have o : (1#64).toNat = 1 := by decide
  unfold v2 ltB
  simp only [decide_eq_true_eq]
  split
  · rename_i h
    simp only [BitVec.toNat_add, o] at h ⊢
    omega
  · rename_i h
    simp only [BitVec.toNat_add] at h ⊢
    omega
theorem v2_double (ah al : BitVec 64) : v2 (ah <<< 1 ||| al >>> 63) (al <<< 1) = (2 * v2 ah al) % 340282366920938463463374607431768211456 := by
  have h1 := ah.isLt
  have h2 := al.isLt
  have e : ah <<< 1 ||| al >>> 63 = ah <<< 1 + al >>> 63 := by
    apply (BitVec.add_eq_or_of_and_eq_zero _ _ _).symm
    apply BitVec.eq_of_getLsbD_eq
    intro i hi
    rw [BitVec.getLsbD_and, BitVec.getLsbD_shiftLeft, BitVec.getLsbD_ushiftRight]
    by_cases hz : i = 0
    · subst hz; simp
    · simp [show 64 ≤ 63 + i by omega]
  rw [e]
  unfold v2
  simp only [BitVec.toNat_add, BitVec.toNat_shiftLeft, BitVec.toNat_ushiftRight, Nat.shiftLeft_eq, Nat.shiftRight_eq_div_pow]
  omega
theorem v2_compl (ah al : BitVec 64) : v2 (~~~ah) (~~~al) = 340282366920938463463374607431768211455 - v2 ah al := by
  have h1 := ah.isLt
  have h2 := al.isLt
  unfold v2
  simp only [BitVec.toNat_not]
  omega
theorem v2_range (h l : BitVec 64) : 0 ≤ v2 h l ∧ v2 h l < 340282366920938463463374607431768211456 := by
  have h1 := h.isLt
  have h2 := l.isLt
  unfold v2
  omega
theorem v2_hi (h l : BitVec 64) (X : Int) (e : v2 h l = X % 340282366920938463463374607431768211456) : h = BitVec.ofInt 64 (X / 18446744073709551616) := by
  have h1 := h.isLt
  have h2 := l.isLt
  unfold v2 at e
  apply BitVec.eq_of_toNat_eq
  rw [BitVec.toNat_ofInt]
  omega
end Go.Proofs.Ytmeebniadgngpaa
