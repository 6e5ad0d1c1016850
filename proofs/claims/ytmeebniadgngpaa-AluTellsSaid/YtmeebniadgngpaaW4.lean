/- Words, the fourth part: the reference's product and quotient, bit by bit. No conditions but those that each names. -/
import Derived.Test.YtmeebniadgngpaaW3
namespace Go.Proofs.Ytmeebniadgngpaa
open Go.RowKit
set_option linter.unusedVariables false
set_option linter.unusedSimpArgs false

theorem mod_step (b k : Nat) : b % 2 ^ (k + 1) = b % 2 ^ k + if b.testBit k then 2 ^ k else 0 := by
  rw [Nat.pow_succ, Nat.mod_mul, Nat.testBit_eq_decide_div_mod_eq]
  rcases Nat.mod_two_eq_zero_or_one (b / 2 ^ k) with h | h <;> rw [h] <;> simp
theorem neg_bit (a : BitVec 64) : a.getLsbD 63 = neg a := by
  have h := a.isLt
  unfold neg
  rw [Bool.eq_iff_iff, decide_eq_true_iff, BitVec.getLsbD]
  rw [Nat.testBit_eq_decide_div_mod_eq, decide_eq_true_iff]
  omega
theorem bit_eq1 (a : BitVec 64) (i : Nat) : ((a >>> i &&& 1#64) == 1#64) = a.getLsbD i := by
  rw [bit1]; cases a.getLsbD i <;> decide

/-- What has been added up behind k rounds. -/
def accX (A : Int) (b : BitVec 64) (t : Bool) (k : Nat) : Int := if k ≤ 63 then A * (b.toNat % 2 ^ k : Nat) else A * val t b
theorem accX_step (A : Int) (b : BitVec 64) (t : Bool) (k : Nat) (h : k < 63) : accX A b t (k + 1) = accX A b t k + if b.getLsbD k then A * 2 ^ k else 0 := by
  unfold accX
  rw [if_pos (by omega), if_pos (by omega), mod_step]
  have : b.toNat.testBit k = b.getLsbD k := rfl
  rw [this]
  cases b.getLsbD k
  · simp
  · simp only [if_true]; rw [Int.natCast_add, Int.mul_add]; simp
theorem accX_last (A : Int) (b : BitVec 64) (t : Bool) : accX A b t 64 = accX A b t 63 + if b.getLsbD 63 then (if t then - (A * 2 ^ 63) else A * 2 ^ 63) else 0 := by
  unfold accX
  rw [if_neg (by omega), if_pos (by omega), neg_bit]
  have hb := b.isLt
  have hm : b.toNat % 2 ^ 64 = b.toNat := Nat.mod_eq_of_lt hb
  have hs := mod_step b.toNat 63
  rw [hm] at hs
  have : b.toNat.testBit 63 = neg b := neg_bit b
  rw [this] at hs
  unfold val
  cases hn : neg b <;> cases t <;> simp [hn] at hs ⊢
  · exact congrArg (A * ·) (by omega)
  · exact congrArg (A * ·) (by omega)
  · rw [← Int.mul_add]; exact congrArg (A * ·) (by omega)
  · rw [← Int.mul_neg, ← Int.mul_add]; exact congrArg (A * ·) (by omega)

abbrev MM : Int := 340282366920938463463374607431768211456
theorem acc_add (x X y Z : Int) (hx : x = X % MM) (hy : y = Z % MM) : (x + y) % MM = (X + Z) % MM := by
  subst hx; subst hy; unfold MM; omega
theorem acc_neg (y Z : Int) (hy : y = Z % MM) : (340282366920938463463374607431768211455 - y + 1) % MM = (-Z) % MM := by
  subst hy; unfold MM; omega
theorem acc_dbl (y Z : Int) (hy : y = Z % MM) : (2 * y) % MM = (2 * Z) % MM := by
  subst hy; unfold MM; omega

def addH (ah al bh bl : BitVec 64) : BitVec 64 := if ltB (al + bl) al then ah + bh + 1#64 else ah + bh
theorem add_any' (ah al bh bl : BitVec 64) (w : World) :
    Calls Try.prog 68 #[U ah, U al, U bh, U bl] w fun e w' => e = .returned (.tuple #[U (addH ah al bh bl), U (al + bl)]) ∧ w = w' := add_any ah al bh bl w
theorem addH_v2 (ah al bh bl : BitVec 64) : v2 (addH ah al bh bl) (al + bl) = (v2 ah al + v2 bh bl) % MM := v2_add ah al bh bl

structure HighRel (A : Int) (b : BitVec 64) (t : Bool) (k : Nat) (h l ah al : BitVec 64) : Prop where
  acc : v2 h l = accX A b t k % MM
  sh : v2 ah al = (A * 2 ^ k) % MM
theorem HighRel.zero (A : Int) (b : BitVec 64) (t : Bool) {ah al : BitVec 64} (h : v2 ah al = A % MM) : HighRel A b t 0 0#64 0#64 ah al :=
  ⟨by simp [accX, v2, Nat.mod_one], by simpa using h⟩
theorem HighRel.sh' {A : Int} {b : BitVec 64} {t : Bool} {k : Nat} {h l ah al : BitVec 64} (H : HighRel A b t k h l ah al) :
    v2 (ah <<< 1 ||| al >>> 63) (al <<< 1) = (A * 2 ^ (k + 1)) % MM := by
  rw [v2_double, acc_dbl _ _ H.sh, Int.pow_succ]
  congr 1
  rw [Int.mul_comm 2, Int.mul_assoc]
theorem HighRel.no {A : Int} {b : BitVec 64} {t : Bool} {k : Nat} {h l ah al : BitVec 64} (H : HighRel A b t k h l ah al) (hk : k < 64) (hb : b.getLsbD k = false) :
    HighRel A b t (k + 1) h l (ah <<< 1 ||| al >>> 63) (al <<< 1) := by
  refine ⟨?_, H.sh'⟩
  rw [H.acc]
  rcases Nat.lt_or_ge k 63 with h1 | h1
  · rw [accX_step _ _ _ _ h1, hb]; simp
  · obtain rfl : k = 63 := by omega
    rw [accX_last, hb]; simp
theorem HighRel.yes {A : Int} {b : BitVec 64} {t : Bool} {k : Nat} {h l ah al : BitVec 64} (H : HighRel A b t k h l ah al) (hk : k < 64) (hb : b.getLsbD k = true) (ht : k = 63 → t = false) :
    HighRel A b t (k + 1) (addH h l ah al) (l + al) (ah <<< 1 ||| al >>> 63) (al <<< 1) := by
  refine ⟨?_, H.sh'⟩
  rw [addH_v2, acc_add _ _ _ _ H.acc H.sh]
  rcases Nat.lt_or_ge k 63 with h1 | h1
  · rw [accX_step _ _ _ _ h1, hb]; simp
  · obtain rfl : k = 63 := by omega
    rw [accX_last, hb, ht rfl]; simp
theorem HighRel.minus {A : Int} {b : BitVec 64} {h l ah al : BitVec 64} (H : HighRel A b true 63 h l ah al) (hb : b.getLsbD 63 = true) :
    HighRel A b true 64 (addH h l (addH (~~~ah) (~~~al) 0#64 1#64) (~~~al + 1#64)) (l + (~~~al + 1#64)) (ah <<< 1 ||| al >>> 63) (al <<< 1) := by
  refine ⟨?_, H.sh'⟩
  have e1 : v2 0#64 1#64 = 1 := by decide
  have e : v2 (addH (~~~ah) (~~~al) 0#64 1#64) (~~~al + 1#64) = (-(A * 2 ^ 63)) % MM := by
    rw [addH_v2, v2_compl, e1]; exact acc_neg _ _ H.sh
  rw [addH_v2, acc_add _ _ _ _ H.acc e, accX_last, hb]; simp
theorem HighRel.done {A : Int} {b : BitVec 64} {t : Bool} {h l ah al : BitVec 64} (H : HighRel A b t 64 h l ah al) : h = BitVec.ofInt 64 (A * val t b / 18446744073709551616) := by
  refine v2_hi h l _ ?_
  rw [H.acc]; unfold accX; rw [if_neg (by omega)]

set_option maxHeartbeats 1000000 in
theorem rHigh_loop (A : Int) (a b ah0 : BitVec 64) (s t : Bool) (h0 : v2 ah0 a = A % MM) (w : World)
    (hs : (s && neg a) = false ∧ ah0 = 0#64 ∨ (s && neg a) = true ∧ ah0 = 18446744073709551615#64) :
    Calls Try.prog 41 #[U a, U b, .bool s, .bool t] w fun e w' => e = .returned (U (BitVec.ofInt 64 (A * val t b / 18446744073709551616))) ∧ w = w' := by
  have e63 := bit_eq1 a 63
  rw [neg_bit] at e63
  have H0 := Hd.mk h0
  clear h0
  have g : ∀ w, Calls Try.prog 41 #[U a, U b, .bool s, .bool t] w fun e w' => e = .returned (U (BitVec.ofInt 64 (A * val t b / 18446744073709551616))) ∧ w = w' := by
    intro w
    rcases hs with ⟨hs, rfl⟩ | ⟨hs, rfl⟩
    all_goals
      cases s <;> cases hn : neg a <;> rw [hn] at hs e63 <;> simp only [Bool.false_and, Bool.true_and, Bool.false_eq_true, Bool.true_eq_false] at hs
    all_goals
      have hn' := Hd.mk hn
      clear hn hs
      have e63' := e63
      clear e63
      go_enter Try.func41, Try.ntmps41
      go_wp2_with (go_at_call 33; refine (bit_any _ _ (by omega) _).mono ?_; rintro e w' ⟨rfl, rfl⟩)
      go_simp
      go_loop [9, 10, 11, 12, 13] (fun vh vl vah val_ vi => ∃ k : Nat, ∃ h l ah al : BitVec 64, k ≤ 64 ∧ vi = .int .i64 k ∧ vh = U h ∧ vl = U l ∧ vah = U ah ∧ val_ = U al ∧ Hd (HighRel A b t k h l ah al))
        (fun _ _ _ _ i => 64 - (intOf i).toNat)
      case atStart => exact ⟨0, 0#64, 0#64, _, _, by omega, rfl, rfl, rfl, rfl, rfl, ⟨HighRel.zero A b t H0.out⟩⟩
      case round =>
        obtain ⟨k, h, l, ah, al, hk, rfl, rfl, rfl, rfl, rfl, H⟩ := hrel
        by_cases hlt : k < 64
        · have eb := bit_eq1 b k
          cases hb : b.getLsbD k <;> rw [hb] at eb
          · have hb' := Hd.mk hb
            clear hb
            go_wp2_with (go_at_call 33; refine (bit_any _ _ (by omega) _).mono ?_; rintro e w' ⟨rfl, rfl⟩)
            go_round
            case rel => exact ⟨k + 1, _, _, _, _, by omega, by go_num, rfl, rfl, rfl, rfl, ⟨H.out.no hlt hb'.out⟩⟩
            case measure => simp [intOf]; omega
          · have hb' := Hd.mk hb
            clear hb
            by_cases h63 : k = 63
            · subst h63
              cases t
              · go_wp2_with (first | (go_at_call 33; refine (bit_any _ _ (by omega) _).mono ?_; rintro e w' ⟨rfl, rfl⟩) | (go_at_call 68; refine (add_any' _ _ _ _ _).mono ?_; rintro e w' ⟨rfl, rfl⟩))
                go_round
                case rel => exact ⟨64, _, _, _, _, by omega, by go_num, rfl, rfl, rfl, rfl, ⟨H.out.yes hlt hb'.out (fun _ => rfl)⟩⟩
                case measure => simp [intOf]
              · go_wp2_with (first | (go_at_call 33; refine (bit_any _ _ (by omega) _).mono ?_; rintro e w' ⟨rfl, rfl⟩) | (go_at_call 68; refine (add_any' _ _ _ _ _).mono ?_; rintro e w' ⟨rfl, rfl⟩))
                go_round
                case rel => exact ⟨64, _, _, _, _, by omega, by go_num, rfl, rfl, rfl, rfl, ⟨H.out.minus hb'.out⟩⟩
                case measure => simp [intOf]
            · have h63' : ((k : Int) == 63) = false := by simp; omega
              go_wp2_with (first | (go_at_call 33; refine (bit_any _ _ (by omega) _).mono ?_; rintro e w' ⟨rfl, rfl⟩) | (go_at_call 68; refine (add_any' _ _ _ _ _).mono ?_; rintro e w' ⟨rfl, rfl⟩))
              go_round
              case rel => exact ⟨k + 1, _, _, _, _, by omega, by go_num, rfl, rfl, rfl, rfl, ⟨H.out.yes hlt hb'.out (fun e => absurd e h63)⟩⟩
              case measure => simp [intOf]; omega
        · obtain rfl : k = 64 := by omega
          go_wp2
          go_ret
          exact ⟨retU H.out.done, rfl⟩
  exact g w
theorem rHigh_any (a b : BitVec 64) (s t : Bool) (w : World) :
    Calls Try.prog 41 #[U a, U b, .bool s, .bool t] w fun e w' => e = .returned (U (highF a b s t)) ∧ w = w' := by
  have ha := a.isLt
  unfold highF
  cases hs : (s && neg a)
  · refine rHigh_loop (val s a) a b 0#64 s t ?_ w (.inl ⟨hs, rfl⟩)
    rw [val_neg, hs]
    unfold v2 MM
    simp
    omega
  · refine rHigh_loop (val s a) a b 18446744073709551615#64 s t ?_ w (.inr ⟨hs, rfl⟩)
    rw [val_neg, hs]
    unfold v2 MM
    have : (18446744073709551615#64).toNat = 18446744073709551615 := by decide
    rw [this]
    simp only [if_true]
    omega
end Go.Proofs.Ytmeebniadgngpaa
