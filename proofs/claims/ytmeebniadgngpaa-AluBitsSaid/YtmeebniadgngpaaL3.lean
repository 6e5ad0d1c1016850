/- The walks of AluDivides, AluShort, AluBits, AluMoves. No conditions. -/
import Derived.Test.YtmeebniadgngpaaL1
import Derived.Test.YtmeebniadgngpaaL2
namespace Go.Proofs.Ytmeebniadgngpaa
open Go.RowKit
set_option linter.unusedVariables false
set_option linter.unusedSimpArgs false


theorem AluDivides_walk (a b : BitVec 64) (w : World) : Calls Try.prog 4 #[U a, U b] w fun e w' => e = .returned (.bool true) ∧ Below w.heap.size w w' := by
  have f0 : (ruleF 14 a b * b + ruleF 16 a b == a) = true := by rw [quo_back_s]; simp
  have f1 : (ruleF 15 a b * b + ruleF 17 a b == a) = true := by rw [quo_back_u]; simp
  have f2 : (shortF 0 (shortF 5 (shortF 6 a b) b) (shortF 8 a b) == shortF 0 a 0#64) = true := by rw [quo_short]; simp
  have f3 : (shortF 0 (shortF 5 (shortF 7 a b) b) (shortF 9 a b) == shortF 0 a 0#64) = true := by rw [quo_short_u]; simp
  go_enter Try.func4, Try.ntmps4
  go_wp2_with fail
  refine (awake_any _).mono ?_; rintro e w1 ⟨rfl, b1⟩
  go_wp2_with fail
  refine (of_div _ _ _).mono ?_; rintro e w2 ⟨rfl, b2⟩
  go_wp2_with fail
  refine (of_rem _ _ _).mono ?_; rintro e w3 ⟨rfl, b3⟩
  go_wp2_with fail
  refine (of_divu _ _ _).mono ?_; rintro e w4 ⟨rfl, b4⟩
  go_wp2_with fail
  refine (of_remu _ _ _).mono ?_; rintro e w5 ⟨rfl, b5⟩
  go_wp2_with fail
  refine (of_divw _ _ _).mono ?_; rintro e w6 ⟨rfl, b6⟩
  go_wp2_with fail
  refine (of_mulw _ _ _).mono ?_; rintro e w7 ⟨rfl, b7⟩
  go_wp2_with fail
  refine (of_remw _ _ _).mono ?_; rintro e w8 ⟨rfl, b8⟩
  go_wp2_with fail
  refine (of_addw _ _ _).mono ?_; rintro e w9 ⟨rfl, b9⟩
  go_wp2_with fail
  refine (of_divuw _ _ _).mono ?_; rintro e w10 ⟨rfl, b10⟩
  go_wp2_with fail
  refine (of_mulw _ _ _).mono ?_; rintro e w11 ⟨rfl, b11⟩
  go_wp2_with fail
  refine (of_remuw _ _ _).mono ?_; rintro e w12 ⟨rfl, b12⟩
  go_wp2_with fail
  refine (of_addw _ _ _).mono ?_; rintro e w13 ⟨rfl, b13⟩
  go_wp2_with fail
  refine (of_addiw _ _ _).mono ?_; rintro e w14 ⟨rfl, b14⟩
  go_wp2_with fail
  go_ret
  exact ⟨rfl, below2 (below2 (below2 (below2 (below2 (below2 (below2 (below2 (below2 (below2 (below2 (below2 (below2 b1 b2) b3) b4) b5) b6) b7) b8) b9) b10) b11) b12) b13) b14⟩

theorem AluShort_walk (a b : BitVec 64) (w : World) : Calls Try.prog 5 #[U a, U b] w fun e w' => e = .returned (.bool true) ∧ Below w.heap.size w w' := by
  have f0 : (shortF 0 a b == sgn (ruleF 0 a b) 32) = true := by rw [short_add]; simp [ruleF]
  have f1 : (shortF 1 a b == sgn (ruleF 1 a b) 32) = true := by rw [short_sub]; simp [ruleF]
  have f2 : (shortF 5 a b == sgn (ruleF 10 a b) 32) = true := by rw [short_mul]; simp [ruleF]
  have f3 : (shortF 2 a b == sgn (ruleF 2 a (b % 32#64)) 32) = true := by rw [short_sll]; simp
  go_enter Try.func5, Try.ntmps5
  go_wp2_with fail
  refine (awake_any _).mono ?_; rintro e w1 ⟨rfl, b1⟩
  go_wp2_with fail
  refine (of_addw _ _ _).mono ?_; rintro e w2 ⟨rfl, b2⟩
  go_wp2_with fail
  refine (of_add _ _ _).mono ?_; rintro e w3 ⟨rfl, b3⟩
  go_wp2_with fail
  refine (rSign_any _ 32 (by omega) (by omega) _).mono ?_; rintro e w' ⟨rfl, rfl⟩
  go_wp2_with fail
  refine (of_subw _ _ _).mono ?_; rintro e w5 ⟨rfl, b5⟩
  go_wp2_with fail
  refine (of_sub _ _ _).mono ?_; rintro e w6 ⟨rfl, b6⟩
  go_wp2_with fail
  refine (rSign_any _ 32 (by omega) (by omega) _).mono ?_; rintro e w' ⟨rfl, rfl⟩
  go_wp2_with fail
  refine (of_mulw _ _ _).mono ?_; rintro e w8 ⟨rfl, b8⟩
  go_wp2_with fail
  refine (of_mul _ _ _).mono ?_; rintro e w9 ⟨rfl, b9⟩
  go_wp2_with fail
  refine (rSign_any _ 32 (by omega) (by omega) _).mono ?_; rintro e w' ⟨rfl, rfl⟩
  go_wp2_with fail
  refine (of_sllw _ _ _).mono ?_; rintro e w11 ⟨rfl, b11⟩
  go_wp2_with fail
  refine (of_sll _ _ _).mono ?_; rintro e w12 ⟨rfl, b12⟩
  go_wp2_with fail
  refine (rSign_any _ 32 (by omega) (by omega) _).mono ?_; rintro e w' ⟨rfl, rfl⟩
  go_wp2_with fail
  refine (of_addiw _ _ _).mono ?_; rintro e w14 ⟨rfl, b14⟩
  go_wp2_with fail
  refine (of_addw _ _ _).mono ?_; rintro e w15 ⟨rfl, b15⟩
  go_wp2_with fail
  go_ret
  exact ⟨rfl, below2 (below2 (below2 (below2 (below2 (below2 (below2 (below2 (below2 (below2 b1 b2) b3) b5) b6) b8) b9) b11) b12) b14) b15⟩

theorem AluBits_walk (a b : BitVec 64) (w : World) : Calls Try.prog 8 #[U a, U b] w fun e w' => e = .returned (.bool true) ∧ Below w.heap.size w w' := by
  have f0 : (ruleF 0 (ruleF 9 a b) (ruleF 8 a b) == ruleF 0 a b) = true := by simp [ruleF, and_add_or]
  have f1 : (ruleF 1 (ruleF 8 a b) (ruleF 9 a b) == ruleF 5 a b) = true := by simp [ruleF, or_sub_and]
  have f2 : (ruleF 5 (ruleF 5 a b) b == a) = true := by simp [ruleF, xor_back]
  go_enter Try.func8, Try.ntmps8
  go_wp2_with fail
  refine (awake_any _).mono ?_; rintro e w1 ⟨rfl, b1⟩
  go_wp2_with fail
  refine (of_and _ _ _).mono ?_; rintro e w2 ⟨rfl, b2⟩
  go_wp2_with fail
  refine (of_or _ _ _).mono ?_; rintro e w3 ⟨rfl, b3⟩
  go_wp2_with fail
  refine (of_xor _ _ _).mono ?_; rintro e w4 ⟨rfl, b4⟩
  go_wp2_with fail
  refine (of_xor _ _ _).mono ?_; rintro e w5 ⟨rfl, b5⟩
  go_wp2_with fail
  refine (of_add _ _ _).mono ?_; rintro e w6 ⟨rfl, b6⟩
  go_wp2_with fail
  refine (of_sub _ _ _).mono ?_; rintro e w7 ⟨rfl, b7⟩
  go_wp2_with fail
  refine (of_andi _ _ _).mono ?_; rintro e w8 ⟨rfl, b8⟩
  go_wp2_with fail
  refine (of_ori _ _ _).mono ?_; rintro e w9 ⟨rfl, b9⟩
  go_wp2_with fail
  refine (of_xori _ _ _).mono ?_; rintro e w10 ⟨rfl, b10⟩
  go_wp2_with fail
  refine (of_add _ _ _).mono ?_; rintro e w11 ⟨rfl, b11⟩
  go_wp2_with fail
  go_ret
  exact ⟨rfl, below2 (below2 (below2 (below2 (below2 (below2 (below2 (below2 (below2 (below2 b1 b2) b3) b4) b5) b6) b7) b8) b9) b10) b11⟩

end Go.Proofs.Ytmeebniadgngpaa
