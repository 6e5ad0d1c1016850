/- What each rule of package alu reckons. No conditions. -/
import Derived.Test.YtmeebniadgngpaaA2
import Derived.Test.YtmeebniadgngpaaW6
namespace Go.Proofs.Ytmeebniadgngpaa
open Go.RowKit
set_option linter.unusedVariables false
set_option linter.unusedSimpArgs false

def bitW (b : Bool) : BitVec 64 := if b then 1#64 else 0#64
def ruleF (k : Nat) (a b : BitVec 64) : BitVec 64 := match k with
  | 0 => a + b
  | 1 => a - b
  | 2 => a <<< (b &&& 63#64).toNat
  | 3 => bitW (below a b)
  | 4 => bitW (ltB a b)
  | 5 => a ^^^ b
  | 6 => a >>> (b &&& 63#64).toNat
  | 7 => a.sshiftRight (b &&& 63#64).toNat
  | 8 => a ||| b
  | 9 => a &&& b
  | 10 => a * b
  | 11 => highF a b true true
  | 12 => highF a b true false
  | 13 => highF a b false false
  | 14 => quoF a b true
  | 15 => quoF a b false
  | 16 => resF a b true
  | _ => resF a b false
theorem truth_any (b : Bool) (w : World) : Calls Try.prog 50 #[.bool b] w fun e w' => e = .returned (U (bitW b)) ∧ w = w' := by
  cases b
  all_goals
    go_enter Try.func50, Try.ntmps50
    go_wp2
    go_ret
    exact ⟨rfl, rfl⟩
theorem and63 (b : BitVec 64) : (b &&& 63#64).toNat < 64 := by
  rw [BitVec.toNat_and]
  have : (63#64).toNat = 2 ^ 6 - 1 := by decide
  rw [this, Nat.and_two_pow_sub_one_eq_mod]
  omega
theorem asr_min (a b : BitVec 64) : BitVec.ofInt 64 (si a / 2 ^ min (b &&& 63#64).toNat 64) = a.sshiftRight (b &&& 63#64).toNat := by
  rw [Nat.min_eq_left (by have := and63 b; omega)]; exact asr_of _ _
theorem rule_1 (a b : BitVec 64) (w : World) : Calls Try.prog 46 #[U a, U b] w fun e w' => e = .returned (U (ruleF (1 - 1) a b)) ∧ w = w' := by
  go_enter Try.func46, Try.ntmps46
  go_wp2
  go_ret
  exact ⟨rfl, rfl⟩
theorem rule_2 (a b : BitVec 64) (w : World) : Calls Try.prog 47 #[U a, U b] w fun e w' => e = .returned (U (ruleF (2 - 1) a b)) ∧ w = w' := by
  go_enter Try.func47, Try.ntmps47
  go_wp2
  go_ret
  exact ⟨rfl, rfl⟩
theorem rule_3 (a b : BitVec 64) (w : World) : Calls Try.prog 48 #[U a, U b] w fun e w' => e = .returned (U (ruleF (3 - 1) a b)) ∧ w = w' := by
  go_enter Try.func48, Try.ntmps48
  go_wp2
  go_ret
  exact ⟨rfl, rfl⟩
theorem rule_6 (a b : BitVec 64) (w : World) : Calls Try.prog 52 #[U a, U b] w fun e w' => e = .returned (U (ruleF (6 - 1) a b)) ∧ w = w' := by
  go_enter Try.func52, Try.ntmps52
  go_wp2
  go_ret
  exact ⟨rfl, rfl⟩
theorem rule_7 (a b : BitVec 64) (w : World) : Calls Try.prog 53 #[U a, U b] w fun e w' => e = .returned (U (ruleF (7 - 1) a b)) ∧ w = w' := by
  go_enter Try.func53, Try.ntmps53
  go_wp2
  go_ret
  exact ⟨rfl, rfl⟩
theorem rule_9 (a b : BitVec 64) (w : World) : Calls Try.prog 55 #[U a, U b] w fun e w' => e = .returned (U (ruleF (9 - 1) a b)) ∧ w = w' := by
  go_enter Try.func55, Try.ntmps55
  go_wp2
  go_ret
  exact ⟨rfl, rfl⟩
theorem rule_10 (a b : BitVec 64) (w : World) : Calls Try.prog 56 #[U a, U b] w fun e w' => e = .returned (U (ruleF (10 - 1) a b)) ∧ w = w' := by
  go_enter Try.func56, Try.ntmps56
  go_wp2
  go_ret
  exact ⟨rfl, rfl⟩
theorem rule_11 (a b : BitVec 64) (w : World) : Calls Try.prog 57 #[U a, U b] w fun e w' => e = .returned (U (ruleF (11 - 1) a b)) ∧ w = w' := by
  go_enter Try.func57, Try.ntmps57
  go_wp2
  go_ret
  exact ⟨rfl, rfl⟩
theorem rule_4 (a b : BitVec 64) (w : World) : Calls Try.prog 49 #[U a, U b] w fun e w' => e = .returned (U (ruleF (4 - 1) a b)) ∧ w = w' := by
  go_enter Try.func49, Try.ntmps49
  go_wp2_with (go_at_call 50; refine (truth_any _ _).mono ?_; rintro e w' ⟨rfl, rfl⟩)
  go_ret
  exact ⟨rfl, rfl⟩
theorem rule_5 (a b : BitVec 64) (w : World) : Calls Try.prog 51 #[U a, U b] w fun e w' => e = .returned (U (ruleF (5 - 1) a b)) ∧ w = w' := by
  go_enter Try.func51, Try.ntmps51
  go_wp2_with (go_at_call 50; refine (truth_any _ _).mono ?_; rintro e w' ⟨rfl, rfl⟩)
  go_ret
  exact ⟨rfl, rfl⟩
theorem rule_8 (a b : BitVec 64) (w : World) : Calls Try.prog 54 #[U a, U b] w fun e w' => e = .returned (U (ruleF (8 - 1) a b)) ∧ w = w' := by
  have h := Hd.mk (asr_min a b)
  go_enter Try.func54, Try.ntmps54
  go_wp2
  go_ret
  exact ⟨retU h.out, rfl⟩
theorem rule_12 (a b : BitVec 64) (w : World) : Calls Try.prog 58 #[U a, U b] w fun e w' => e = .returned (U (ruleF (12 - 1) a b)) ∧ w = w' := by
  go_enter Try.func58, Try.ntmps58
  go_wp2_with (go_at_call 59; refine (High_any _ _ _ _ _).mono ?_; rintro e w' ⟨rfl, rfl⟩)
  go_ret
  exact ⟨rfl, rfl⟩
theorem rule_13 (a b : BitVec 64) (w : World) : Calls Try.prog 60 #[U a, U b] w fun e w' => e = .returned (U (ruleF (13 - 1) a b)) ∧ w = w' := by
  go_enter Try.func60, Try.ntmps60
  go_wp2_with (go_at_call 59; refine (High_any _ _ _ _ _).mono ?_; rintro e w' ⟨rfl, rfl⟩)
  go_ret
  exact ⟨rfl, rfl⟩
theorem rule_14 (a b : BitVec 64) (w : World) : Calls Try.prog 61 #[U a, U b] w fun e w' => e = .returned (U (ruleF (14 - 1) a b)) ∧ w = w' := by
  go_enter Try.func61, Try.ntmps61
  go_wp2_with (go_at_call 59; refine (High_any _ _ _ _ _).mono ?_; rintro e w' ⟨rfl, rfl⟩)
  go_ret
  exact ⟨rfl, rfl⟩
theorem rule_15 (a b : BitVec 64) (w : World) : Calls Try.prog 62 #[U a, U b] w fun e w' => e = .returned (U (ruleF (15 - 1) a b)) ∧ w = w' := by
  go_enter Try.func62, Try.ntmps62
  go_wp2_with (go_at_call 63; refine (Quotient_any _ _ _ _).mono ?_; rintro e w' ⟨rfl, rfl⟩)
  go_ret
  exact ⟨rfl, rfl⟩
theorem rule_16 (a b : BitVec 64) (w : World) : Calls Try.prog 64 #[U a, U b] w fun e w' => e = .returned (U (ruleF (16 - 1) a b)) ∧ w = w' := by
  go_enter Try.func64, Try.ntmps64
  go_wp2_with (go_at_call 63; refine (Quotient_any _ _ _ _).mono ?_; rintro e w' ⟨rfl, rfl⟩)
  go_ret
  exact ⟨rfl, rfl⟩
theorem rule_17 (a b : BitVec 64) (w : World) : Calls Try.prog 65 #[U a, U b] w fun e w' => e = .returned (U (ruleF (17 - 1) a b)) ∧ w = w' := by
  go_enter Try.func65, Try.ntmps65
  go_wp2_with (go_at_call 66; refine (Rest_any _ _ _ _).mono ?_; rintro e w' ⟨rfl, rfl⟩)
  go_ret
  exact ⟨rfl, rfl⟩
theorem rule_18 (a b : BitVec 64) (w : World) : Calls Try.prog 67 #[U a, U b] w fun e w' => e = .returned (U (ruleF (18 - 1) a b)) ∧ w = w' := by
  go_enter Try.func67, Try.ntmps67
  go_wp2_with (go_at_call 66; refine (Rest_any _ _ _ _).mono ?_; rintro e w' ⟨rfl, rfl⟩)
  go_ret
  exact ⟨rfl, rfl⟩
theorem rule_any (k : Nat) (hk : k < 18) (a b : BitVec 64) (w : World) : Calls Try.prog (ruleAt k).fn #[U a, U b] w fun e w' => e = .returned (U (ruleF k a b)) ∧ w = w' := by
  have hc : k = 0 ∨ k = 1 ∨ k = 2 ∨ k = 3 ∨ k = 4 ∨ k = 5 ∨ k = 6 ∨ k = 7 ∨ k = 8 ∨ k = 9 ∨ k = 10 ∨ k = 11 ∨ k = 12 ∨ k = 13 ∨ k = 14 ∨ k = 15 ∨ k = 16 ∨ k = 17 := by omega
  rcases hc with rfl | rfl | rfl | rfl | rfl | rfl | rfl | rfl | rfl | rfl | rfl | rfl | rfl | rfl | rfl | rfl | rfl | rfl
  · exact rule_1 a b w
  · exact rule_2 a b w
  · exact rule_3 a b w
  · exact rule_4 a b w
  · exact rule_5 a b w
  · exact rule_6 a b w
  · exact rule_7 a b w
  · exact rule_8 a b w
  · exact rule_9 a b w
  · exact rule_10 a b w
  · exact rule_11 a b w
  · exact rule_12 a b w
  · exact rule_13 a b w
  · exact rule_14 a b w
  · exact rule_15 a b w
  · exact rule_16 a b w
  · exact rule_17 a b w
  · exact rule_18 a b w
end Go.Proofs.Ytmeebniadgngpaa
