/- Words: what the functions of package word and of the reference of chapter 1 give, as bit vectors. No conditions but those that each names. -/
import Derived.Test.YtmeebniadgngpaaB
namespace Go.Proofs.Ytmeebniadgngpaa
open Go.RowKit
set_option linter.unusedVariables false
set_option linter.unusedSimpArgs false

/-! ### plain words -/
def sgn (a : BitVec 64) (m : Nat) : BitVec 64 := BitVec.ofInt 64 (si (a <<< (64 - m)) / 2 ^ (64 - m))
theorem asr_of (x : BitVec 64) (k : Nat) : BitVec.ofInt 64 (si x / 2 ^ k) = x.sshiftRight k := by
  apply BitVec.eq_of_toInt_eq
  rw [BitVec.toInt_sshiftRight, BitVec.toInt_ofInt, Int.shiftRight_eq_div_pow]
  unfold si
  have e : ((2 ^ k : Nat) : Int) = 2 ^ k := by simp
  rw [e]
  have h1 := BitVec.le_toInt x
  have h2 := BitVec.toInt_lt (x := x)
  have hp : (0 : Int) < 2 ^ k := Int.pow_pos (by decide)
  have hp1 : (1 : Int) ≤ 2 ^ k := hp
  have a1 : -(2 ^ 63) ≤ x.toInt / 2 ^ k := by
    apply (Int.le_ediv_iff_mul_le hp).2
    have : -(2 ^ 63) * (2 ^ k : Int) ≤ -(2 ^ 63) * 1 := Int.mul_le_mul_of_nonpos_left (by decide) hp1
    simp at h1; omega
  have a2 : x.toInt / 2 ^ k < 2 ^ 63 := by
    apply (Int.ediv_lt_iff_lt_mul hp).2
    have : (2 ^ 63 : Int) * 1 ≤ 2 ^ 63 * 2 ^ k := Int.mul_le_mul_of_nonneg_left hp1 (by decide)
    simp at h2; omega
  exact Int.bmod_eq_of_le (by simpa using a1) (by simpa using a2)
theorem sgn_eq (a : BitVec 64) (m : Nat) : sgn a m = (a <<< (64 - m)).sshiftRight (64 - m) := asr_of _ _
theorem getLsbD_sgn (a : BitVec 64) (m i : Nat) (h1 : 1 ≤ m) (h2 : m ≤ 64) (hi : i < 64) : (sgn a m).getLsbD i = a.getLsbD (min i (m - 1)) := by
  rw [sgn_eq, BitVec.getLsbD_sshiftRight]
  by_cases h : 64 - m + i < 64
  · rw [if_pos h, BitVec.getLsbD_shiftLeft]
    simp [show ¬ 64 ≤ i by omega, h, show min i (m - 1) = i by omega, show 64 - m + i - (64 - m) = i by omega]
  · rw [if_neg h, BitVec.msb_eq_getLsbD_last, BitVec.getLsbD_shiftLeft]
    simp [show ¬ 64 ≤ i by omega, show min i (m - 1) = m - 1 by omega, show 63 - (64 - m) = m - 1 by omega]
    omega

/-! ### bits -/
theorem bit_any (a : BitVec 64) (i : Int) (h : 0 ≤ i) (w : World) :
    Calls Try.prog 33 #[U a, .int .i64 i] w fun e w' => e = .returned (U ((a >>> i.toNat) &&& 1#64)) ∧ w = w' := by
  go_enter Try.func33, Try.ntmps33
  go_wp2
  go_ret
  exact ⟨rfl, rfl⟩

theorem add_any (ah al bh bl : BitVec 64) (w : World) :
    Calls Try.prog 68 #[U ah, U al, U bh, U bl] w fun e w' =>
      e = .returned (.tuple #[U (if ltB (al + bl) al then ah + bh + 1#64 else ah + bh), U (al + bl)]) ∧ w = w' := by
  go_enter Try.func68, Try.ntmps68
  go_wp2
  all_goals
    go_ret2
    exact ⟨by simp [*], rfl⟩

theorem low_any (a : BitVec 64) (w : World) :
    Calls Try.prog 73 #[U a] w fun e w' => e = .returned (.bool (leB 9223372036854775808#64 a)) ∧ w = w' := by
  go_enter Try.func73, Try.ntmps73
  go_wp2
  go_ret
  exact ⟨rfl, rfl⟩

theorem bit1 (a : BitVec 64) (i : Nat) : (a >>> i) &&& 1#64 = if a.getLsbD i then 1#64 else 0#64 := by
  apply BitVec.eq_of_getLsbD_eq
  intro j hj
  rw [BitVec.getLsbD_and, BitVec.getLsbD_ushiftRight]
  by_cases hz : j = 0
  · subst hz; cases h : a.getLsbD i <;> simp [h]
  · cases h : a.getLsbD i <;> simp [h, BitVec.getLsbD_one, hz]

theorem Sign_any (a : BitVec 64) (m : Int) (h1 : 1 ≤ m) (h2 : m ≤ 64) (w : World) :
    Calls Try.prog 40 #[U a, .int .i64 m] w fun e w' => e = .returned (U (sgn a m.toNat)) ∧ w = w' := by
  have hs : (64 - m).toNat = 64 - m.toNat := by omega
  have hs' := Hd.mk hs
  clear hs
  go_enter Try.func40, Try.ntmps40
  go_wp2
  go_ret
  exact ⟨by show Ending.returned (U (BitVec.ofInt 64 (si (a <<< (64 - m).toNat) / 2 ^ (64 - m).toNat))) = _; rw [hs'.out]; rfl, rfl⟩

theorem rSign_any (a : BitVec 64) (m : Int) (h1 : 1 ≤ m) (h2 : m ≤ 64) (w : World) :
    Calls Try.prog 15 #[U a, .int .i64 m] w fun e w' => e = .returned (U (sgn a m.toNat)) ∧ w = w' := by
  go_enter Try.func15, Try.ntmps15
  go_wp2
  go_loop [5, 6] (fun o i => ∃ k : Nat, ∃ x : BitVec 64, k ≤ 64 ∧ i = .int .i64 k ∧ o = U x ∧ Hd (∀ j, j < 64 → x.getLsbD j = (decide (j < k) && a.getLsbD (min j (m.toNat - 1)))))
    (fun _ i => 64 - (intOf i).toNat)
  case atStart => exact ⟨0, 0#64, by omega, rfl, rfl, ⟨by intro j hj; simp⟩⟩
  case round =>
    obtain ⟨k, x, hk, rfl, rfl, H⟩ := hrel
    by_cases hlt : k < 64
    · go_wp2_with (go_at_call 33; refine (bit_any _ _ (by split <;> omega) _).mono ?_; rintro e w' ⟨rfl, rfl⟩)
      go_round
      case rel =>
        refine ⟨k + 1, _, by omega, by go_num, rfl, ⟨?_⟩⟩
        intro j hj
        have hm : (if m - 1 < (k : Int) then m - 1 else (k : Int)).toNat = min k (m.toNat - 1) := by split <;> omega
        rw [hm, bit1, BitVec.getLsbD_or, H.out j hj]
        by_cases hjk : j = k
        · subst hjk
          cases hb : a.getLsbD (min j (m.toNat - 1)) <;> simp [hb, hlt]
        · have e1 : decide (j < k + 1) = decide (j < k) := decide_eq_decide.2 (by omega)
          rw [e1]
          have e2 : ((if a.getLsbD (min k (m.toNat - 1)) = true then 1#64 else 0#64) <<< k).getLsbD j = false := by
            split
            · rw [BitVec.getLsbD_shiftLeft]
              by_cases hh : j < k
              · simp [hh]
              · simp [hj, hh, BitVec.getLsbD_one, show ¬ j - k = 0 by omega]
            · simp
          rw [e2, Bool.or_false]
      case measure => simp [intOf]; omega
    · go_wp2
      go_ret
      have hk64 : k = 64 := by omega
      subst hk64
      refine ⟨?_, rfl⟩
      show Ending.returned (U x) = _
      congr 2
      apply BitVec.eq_of_getLsbD_eq
      intro j hj
      rw [H.out j hj, getLsbD_sgn _ _ _ (by omega) (by omega) hj]
      simp [hj]
end Go.Proofs.Ytmeebniadgngpaa
