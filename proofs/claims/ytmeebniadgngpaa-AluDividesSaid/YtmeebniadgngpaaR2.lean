/- What the reference of chapter 6 reckons, by the program's own functions. No conditions. -/
import Derived.Test.YtmeebniadgngpaaR1
namespace Go.Proofs.Ytmeebniadgngpaa
open Go.RowKit
set_option linter.unusedVariables false
set_option linter.unusedSimpArgs false


theorem more_mul (a b : BitVec 64) (w : World) : Calls Try.prog 32 #[.string ⟨#[109, 117, 108]⟩, U a, U b] w fun e w' => e = .returned (.tuple #[U (ruleF 10 a b), .bool true]) ∧ w = w' := by
  go_enter Try.func32, Try.ntmps32
  go_wp2
  go_ret2
  exact ⟨rfl, rfl⟩
theorem more_mulh (a b : BitVec 64) (w : World) : Calls Try.prog 32 #[.string ⟨#[109, 117, 108, 104]⟩, U a, U b] w fun e w' => e = .returned (.tuple #[U (ruleF 11 a b), .bool true]) ∧ w = w' := by
  go_enter Try.func32, Try.ntmps32
  go_wp2_with (go_at_call 41; refine (rHigh_any _ _ _ _ _).mono ?_; rintro e w' ⟨rfl, rfl⟩)
  go_ret2
  exact ⟨rfl, rfl⟩
theorem more_mulhsu (a b : BitVec 64) (w : World) : Calls Try.prog 32 #[.string ⟨#[109, 117, 108, 104, 115, 117]⟩, U a, U b] w fun e w' => e = .returned (.tuple #[U (ruleF 12 a b), .bool true]) ∧ w = w' := by
  go_enter Try.func32, Try.ntmps32
  go_wp2_with (go_at_call 41; refine (rHigh_any _ _ _ _ _).mono ?_; rintro e w' ⟨rfl, rfl⟩)
  go_ret2
  exact ⟨rfl, rfl⟩
theorem more_mulhu (a b : BitVec 64) (w : World) : Calls Try.prog 32 #[.string ⟨#[109, 117, 108, 104, 117]⟩, U a, U b] w fun e w' => e = .returned (.tuple #[U (ruleF 13 a b), .bool true]) ∧ w = w' := by
  go_enter Try.func32, Try.ntmps32
  go_wp2_with (go_at_call 41; refine (rHigh_any _ _ _ _ _).mono ?_; rintro e w' ⟨rfl, rfl⟩)
  go_ret2
  exact ⟨rfl, rfl⟩
theorem more_div (a b : BitVec 64) (w : World) : Calls Try.prog 32 #[.string ⟨#[100, 105, 118]⟩, U a, U b] w fun e w' => e = .returned (.tuple #[U (ruleF 14 a b), .bool true]) ∧ w = w' := by
  go_enter Try.func32, Try.ntmps32
  go_wp2_with (go_at_call 42; refine (rQuotient_any _ _ _ _).mono ?_; rintro e w' ⟨rfl, rfl⟩)
  go_ret2
  exact ⟨rfl, rfl⟩
theorem more_divu (a b : BitVec 64) (w : World) : Calls Try.prog 32 #[.string ⟨#[100, 105, 118, 117]⟩, U a, U b] w fun e w' => e = .returned (.tuple #[U (ruleF 15 a b), .bool true]) ∧ w = w' := by
  go_enter Try.func32, Try.ntmps32
  go_wp2_with (go_at_call 42; refine (rQuotient_any _ _ _ _).mono ?_; rintro e w' ⟨rfl, rfl⟩)
  go_ret2
  exact ⟨rfl, rfl⟩
theorem more_rem (a b : BitVec 64) (w : World) : Calls Try.prog 32 #[.string ⟨#[114, 101, 109]⟩, U a, U b] w fun e w' => e = .returned (.tuple #[U (ruleF 16 a b), .bool true]) ∧ w = w' := by
  go_enter Try.func32, Try.ntmps32
  go_wp2_with (go_at_call 43; refine (rRest_any _ _ _ _).mono ?_; rintro e w' ⟨rfl, rfl⟩)
  go_ret2
  exact ⟨rfl, rfl⟩
theorem more_remu (a b : BitVec 64) (w : World) : Calls Try.prog 32 #[.string ⟨#[114, 101, 109, 117]⟩, U a, U b] w fun e w' => e = .returned (.tuple #[U (ruleF 17 a b), .bool true]) ∧ w = w' := by
  go_enter Try.func32, Try.ntmps32
  go_wp2_with (go_at_call 43; refine (rRest_any _ _ _ _).mono ?_; rintro e w' ⟨rfl, rfl⟩)
  go_ret2
  exact ⟨rfl, rfl⟩
def moreNames : List ByteArray := [⟨#[109, 117, 108]⟩, ⟨#[109, 117, 108, 104]⟩, ⟨#[109, 117, 108, 104, 115, 117]⟩, ⟨#[109, 117, 108, 104, 117]⟩, ⟨#[100, 105, 118]⟩, ⟨#[100, 105, 118, 117]⟩, ⟨#[114, 101, 109]⟩, ⟨#[114, 101, 109, 117]⟩]
theorem more_not (s : ByteArray) (H : ∀ t ∈ moreNames, (s.toList == t.data.toList) = false) (v : BitVec 64) (ok : Bool) (a b : BitVec 64)
    (hs : ∀ w, Calls Try.prog 44 #[.string s, U a, U b] w fun e w' => e = .returned (.tuple #[U v, .bool ok]) ∧ w = w') (w : World) :
    Calls Try.prog 32 #[.string s, U a, U b] w fun e w' => e = .returned (.tuple #[U v, .bool ok]) ∧ w = w' := by
  have h_mul : (s.toList == [109, 117, 108]) = false := H ⟨#[109, 117, 108]⟩ (by simp [moreNames])
  have h_mulh : (s.toList == [109, 117, 108, 104]) = false := H ⟨#[109, 117, 108, 104]⟩ (by simp [moreNames])
  have h_mulhsu : (s.toList == [109, 117, 108, 104, 115, 117]) = false := H ⟨#[109, 117, 108, 104, 115, 117]⟩ (by simp [moreNames])
  have h_mulhu : (s.toList == [109, 117, 108, 104, 117]) = false := H ⟨#[109, 117, 108, 104, 117]⟩ (by simp [moreNames])
  have h_div : (s.toList == [100, 105, 118]) = false := H ⟨#[100, 105, 118]⟩ (by simp [moreNames])
  have h_divu : (s.toList == [100, 105, 118, 117]) = false := H ⟨#[100, 105, 118, 117]⟩ (by simp [moreNames])
  have h_rem : (s.toList == [114, 101, 109]) = false := H ⟨#[114, 101, 109]⟩ (by simp [moreNames])
  have h_remu : (s.toList == [114, 101, 109, 117]) = false := H ⟨#[114, 101, 109, 117]⟩ (by simp [moreNames])
  clear H
  go_enter Try.func32, Try.ntmps32
  go_wp2_with (go_at_call 44; refine (hs _).mono ?_; rintro e w' ⟨rfl, rfl⟩)
  go_ret2
  exact ⟨rfl, rfl⟩
theorem rreck_add (a b : BitVec 64) (w : World) : Calls Try.prog 13 #[.string ⟨#[97, 100, 100]⟩, U a, U b] w fun e w' => e = .returned (.tuple #[U (ruleF 0 a b), .bool true]) ∧ w = w' := by
  go_enter Try.func13, Try.ntmps13
  go_wp2
  go_ret2
  exact ⟨rfl, rfl⟩
theorem rreck_addi (a b : BitVec 64) (w : World) : Calls Try.prog 13 #[.string ⟨#[97, 100, 100, 105]⟩, U a, U b] w fun e w' => e = .returned (.tuple #[U (ruleF 0 a b), .bool true]) ∧ w = w' := by
  go_enter Try.func13, Try.ntmps13
  go_wp2
  go_ret2
  exact ⟨rfl, rfl⟩
theorem rreck_sub (a b : BitVec 64) (w : World) : Calls Try.prog 13 #[.string ⟨#[115, 117, 98]⟩, U a, U b] w fun e w' => e = .returned (.tuple #[U (ruleF 1 a b), .bool true]) ∧ w = w' := by
  go_enter Try.func13, Try.ntmps13
  go_wp2
  go_ret2
  exact ⟨rfl, rfl⟩
theorem rreck_sll (a b : BitVec 64) (w : World) : Calls Try.prog 13 #[.string ⟨#[115, 108, 108]⟩, U a, U b] w fun e w' => e = .returned (.tuple #[U (ruleF 2 a b), .bool true]) ∧ w = w' := by
  go_enter Try.func13, Try.ntmps13
  go_wp2_with (first
    | (go_at_call 27; refine (up64 _ _ _).mono ?_; rintro e w' ⟨rfl, rfl⟩))
  go_ret2
  exact ⟨rfl, rfl⟩
theorem rreck_slli (a b : BitVec 64) (w : World) : Calls Try.prog 13 #[.string ⟨#[115, 108, 108, 105]⟩, U a, U b] w fun e w' => e = .returned (.tuple #[U (ruleF 2 a b), .bool true]) ∧ w = w' := by
  go_enter Try.func13, Try.ntmps13
  go_wp2_with (first
    | (go_at_call 27; refine (up64 _ _ _).mono ?_; rintro e w' ⟨rfl, rfl⟩))
  go_ret2
  exact ⟨rfl, rfl⟩
theorem rreck_slt (a b : BitVec 64) (w : World) : Calls Try.prog 13 #[.string ⟨#[115, 108, 116]⟩, U a, U b] w fun e w' => e = .returned (.tuple #[U (ruleF 3 a b), .bool true]) ∧ w = w' := by
  go_enter Try.func13, Try.ntmps13
  go_wp2_with (first
    | (go_at_call 29; refine (below_any _ _ _).mono ?_; rintro e w' ⟨rfl, rfl⟩)
    | (go_at_call 28; refine (one_bit _ _).mono ?_; rintro e w' ⟨rfl, rfl⟩))
  go_ret2
  exact ⟨rfl, rfl⟩
theorem rreck_slti (a b : BitVec 64) (w : World) : Calls Try.prog 13 #[.string ⟨#[115, 108, 116, 105]⟩, U a, U b] w fun e w' => e = .returned (.tuple #[U (ruleF 3 a b), .bool true]) ∧ w = w' := by
  go_enter Try.func13, Try.ntmps13
  go_wp2_with (first
    | (go_at_call 29; refine (below_any _ _ _).mono ?_; rintro e w' ⟨rfl, rfl⟩)
    | (go_at_call 28; refine (one_bit _ _).mono ?_; rintro e w' ⟨rfl, rfl⟩))
  go_ret2
  exact ⟨rfl, rfl⟩
theorem rreck_sltu (a b : BitVec 64) (w : World) : Calls Try.prog 13 #[.string ⟨#[115, 108, 116, 117]⟩, U a, U b] w fun e w' => e = .returned (.tuple #[U (ruleF 4 a b), .bool true]) ∧ w = w' := by
  go_enter Try.func13, Try.ntmps13
  go_wp2_with (first
    | (go_at_call 28; refine (one_bit _ _).mono ?_; rintro e w' ⟨rfl, rfl⟩))
  go_ret2
  exact ⟨rfl, rfl⟩
theorem rreck_sltiu (a b : BitVec 64) (w : World) : Calls Try.prog 13 #[.string ⟨#[115, 108, 116, 105, 117]⟩, U a, U b] w fun e w' => e = .returned (.tuple #[U (ruleF 4 a b), .bool true]) ∧ w = w' := by
  go_enter Try.func13, Try.ntmps13
  go_wp2_with (first
    | (go_at_call 28; refine (one_bit _ _).mono ?_; rintro e w' ⟨rfl, rfl⟩))
  go_ret2
  exact ⟨rfl, rfl⟩
theorem rreck_xor (a b : BitVec 64) (w : World) : Calls Try.prog 13 #[.string ⟨#[120, 111, 114]⟩, U a, U b] w fun e w' => e = .returned (.tuple #[U (ruleF 5 a b), .bool true]) ∧ w = w' := by
  go_enter Try.func13, Try.ntmps13
  go_wp2_with (first
    | (go_at_call 30; refine (bits_xor _ _ _).mono ?_; rintro e w' ⟨rfl, rfl⟩))
  go_ret2
  exact ⟨rfl, rfl⟩
theorem rreck_xori (a b : BitVec 64) (w : World) : Calls Try.prog 13 #[.string ⟨#[120, 111, 114, 105]⟩, U a, U b] w fun e w' => e = .returned (.tuple #[U (ruleF 5 a b), .bool true]) ∧ w = w' := by
  go_enter Try.func13, Try.ntmps13
  go_wp2_with (first
    | (go_at_call 30; refine (bits_xor _ _ _).mono ?_; rintro e w' ⟨rfl, rfl⟩))
  go_ret2
  exact ⟨rfl, rfl⟩
theorem rreck_srl (a b : BitVec 64) (w : World) : Calls Try.prog 13 #[.string ⟨#[115, 114, 108]⟩, U a, U b] w fun e w' => e = .returned (.tuple #[U (ruleF 6 a b), .bool true]) ∧ w = w' := by
  go_enter Try.func13, Try.ntmps13
  go_wp2_with (first
    | (go_at_call 31; refine (down64 _ _ _).mono ?_; rintro e w' ⟨rfl, rfl⟩))
  go_ret2
  exact ⟨rfl, rfl⟩
theorem rreck_srli (a b : BitVec 64) (w : World) : Calls Try.prog 13 #[.string ⟨#[115, 114, 108, 105]⟩, U a, U b] w fun e w' => e = .returned (.tuple #[U (ruleF 6 a b), .bool true]) ∧ w = w' := by
  go_enter Try.func13, Try.ntmps13
  go_wp2_with (first
    | (go_at_call 31; refine (down64 _ _ _).mono ?_; rintro e w' ⟨rfl, rfl⟩))
  go_ret2
  exact ⟨rfl, rfl⟩
theorem rreck_sra (a b : BitVec 64) (w : World) : Calls Try.prog 13 #[.string ⟨#[115, 114, 97]⟩, U a, U b] w fun e w' => e = .returned (.tuple #[U (ruleF 7 a b), .bool true]) ∧ w = w' := by
  go_enter Try.func13, Try.ntmps13
  go_wp2_with (first
    | (go_at_call 31; refine (downs64 _ _ _).mono ?_; rintro e w' ⟨rfl, rfl⟩))
  go_ret2
  exact ⟨rfl, rfl⟩
theorem rreck_srai (a b : BitVec 64) (w : World) : Calls Try.prog 13 #[.string ⟨#[115, 114, 97, 105]⟩, U a, U b] w fun e w' => e = .returned (.tuple #[U (ruleF 7 a b), .bool true]) ∧ w = w' := by
  go_enter Try.func13, Try.ntmps13
  go_wp2_with (first
    | (go_at_call 31; refine (downs64 _ _ _).mono ?_; rintro e w' ⟨rfl, rfl⟩))
  go_ret2
  exact ⟨rfl, rfl⟩
theorem rreck_or (a b : BitVec 64) (w : World) : Calls Try.prog 13 #[.string ⟨#[111, 114]⟩, U a, U b] w fun e w' => e = .returned (.tuple #[U (ruleF 8 a b), .bool true]) ∧ w = w' := by
  go_enter Try.func13, Try.ntmps13
  go_wp2_with (first
    | (go_at_call 30; refine (bits_or _ _ _).mono ?_; rintro e w' ⟨rfl, rfl⟩))
  go_ret2
  exact ⟨rfl, rfl⟩
theorem rreck_ori (a b : BitVec 64) (w : World) : Calls Try.prog 13 #[.string ⟨#[111, 114, 105]⟩, U a, U b] w fun e w' => e = .returned (.tuple #[U (ruleF 8 a b), .bool true]) ∧ w = w' := by
  go_enter Try.func13, Try.ntmps13
  go_wp2_with (first
    | (go_at_call 30; refine (bits_or _ _ _).mono ?_; rintro e w' ⟨rfl, rfl⟩))
  go_ret2
  exact ⟨rfl, rfl⟩
theorem rreck_and (a b : BitVec 64) (w : World) : Calls Try.prog 13 #[.string ⟨#[97, 110, 100]⟩, U a, U b] w fun e w' => e = .returned (.tuple #[U (ruleF 9 a b), .bool true]) ∧ w = w' := by
  go_enter Try.func13, Try.ntmps13
  go_wp2_with (first
    | (go_at_call 30; refine (bits_and _ _ _).mono ?_; rintro e w' ⟨rfl, rfl⟩))
  go_ret2
  exact ⟨rfl, rfl⟩
theorem rreck_andi (a b : BitVec 64) (w : World) : Calls Try.prog 13 #[.string ⟨#[97, 110, 100, 105]⟩, U a, U b] w fun e w' => e = .returned (.tuple #[U (ruleF 9 a b), .bool true]) ∧ w = w' := by
  go_enter Try.func13, Try.ntmps13
  go_wp2_with (first
    | (go_at_call 30; refine (bits_and _ _ _).mono ?_; rintro e w' ⟨rfl, rfl⟩))
  go_ret2
  exact ⟨rfl, rfl⟩
def firstNames : List ByteArray := [⟨#[97, 100, 100]⟩, ⟨#[97, 100, 100, 105]⟩, ⟨#[115, 117, 98]⟩, ⟨#[115, 108, 108]⟩, ⟨#[115, 108, 108, 105]⟩, ⟨#[115, 108, 116]⟩, ⟨#[115, 108, 116, 105]⟩, ⟨#[115, 108, 116, 117]⟩, ⟨#[115, 108, 116, 105, 117]⟩, ⟨#[120, 111, 114]⟩, ⟨#[120, 111, 114, 105]⟩, ⟨#[115, 114, 108]⟩, ⟨#[115, 114, 108, 105]⟩, ⟨#[115, 114, 97]⟩, ⟨#[115, 114, 97, 105]⟩, ⟨#[111, 114]⟩, ⟨#[111, 114, 105]⟩, ⟨#[97, 110, 100]⟩, ⟨#[97, 110, 100, 105]⟩]
set_option maxRecDepth 20000 in
theorem rreck_not (s : ByteArray) (H : ∀ t ∈ firstNames, (s.toList == t.data.toList) = false) (v : BitVec 64) (ok : Bool) (a b : BitVec 64)
    (hs : ∀ w, Calls Try.prog 32 #[.string s, U a, U b] w fun e w' => e = .returned (.tuple #[U v, .bool ok]) ∧ w = w') (w : World) :
    Calls Try.prog 13 #[.string s, U a, U b] w fun e w' => e = .returned (.tuple #[U v, .bool ok]) ∧ w = w' := by
  have h_add : (s.toList == [97, 100, 100]) = false := H ⟨#[97, 100, 100]⟩ (by simp [firstNames])
  have h_addi : (s.toList == [97, 100, 100, 105]) = false := H ⟨#[97, 100, 100, 105]⟩ (by simp [firstNames])
  have h_sub : (s.toList == [115, 117, 98]) = false := H ⟨#[115, 117, 98]⟩ (by simp [firstNames])
  have h_sll : (s.toList == [115, 108, 108]) = false := H ⟨#[115, 108, 108]⟩ (by simp [firstNames])
  have h_slli : (s.toList == [115, 108, 108, 105]) = false := H ⟨#[115, 108, 108, 105]⟩ (by simp [firstNames])
  have h_slt : (s.toList == [115, 108, 116]) = false := H ⟨#[115, 108, 116]⟩ (by simp [firstNames])
  have h_slti : (s.toList == [115, 108, 116, 105]) = false := H ⟨#[115, 108, 116, 105]⟩ (by simp [firstNames])
  have h_sltu : (s.toList == [115, 108, 116, 117]) = false := H ⟨#[115, 108, 116, 117]⟩ (by simp [firstNames])
  have h_sltiu : (s.toList == [115, 108, 116, 105, 117]) = false := H ⟨#[115, 108, 116, 105, 117]⟩ (by simp [firstNames])
  have h_xor : (s.toList == [120, 111, 114]) = false := H ⟨#[120, 111, 114]⟩ (by simp [firstNames])
  have h_xori : (s.toList == [120, 111, 114, 105]) = false := H ⟨#[120, 111, 114, 105]⟩ (by simp [firstNames])
  have h_srl : (s.toList == [115, 114, 108]) = false := H ⟨#[115, 114, 108]⟩ (by simp [firstNames])
  have h_srli : (s.toList == [115, 114, 108, 105]) = false := H ⟨#[115, 114, 108, 105]⟩ (by simp [firstNames])
  have h_sra : (s.toList == [115, 114, 97]) = false := H ⟨#[115, 114, 97]⟩ (by simp [firstNames])
  have h_srai : (s.toList == [115, 114, 97, 105]) = false := H ⟨#[115, 114, 97, 105]⟩ (by simp [firstNames])
  have h_or : (s.toList == [111, 114]) = false := H ⟨#[111, 114]⟩ (by simp [firstNames])
  have h_ori : (s.toList == [111, 114, 105]) = false := H ⟨#[111, 114, 105]⟩ (by simp [firstNames])
  have h_and : (s.toList == [97, 110, 100]) = false := H ⟨#[97, 110, 100]⟩ (by simp [firstNames])
  have h_andi : (s.toList == [97, 110, 100, 105]) = false := H ⟨#[97, 110, 100, 105]⟩ (by simp [firstNames])
  clear H
  go_enter Try.func13, Try.ntmps13
  go_wp2_with (go_at_call 32; refine (hs _).mono ?_; rintro e w' ⟨rfl, rfl⟩)
  go_ret2
  exact ⟨rfl, rfl⟩
theorem other_none (s : ByteArray) (H : ∀ t ∈ firstNames, (s.toList == t.data.toList) = false) (H2 : ∀ t ∈ moreNames, (s.toList == t.data.toList) = false) (H3 : ∀ t ∈ rshortNames, (s.toList == t.data.toList) = false) (a b : BitVec 64) :
    aluP (plainF s) a b = none := by
  have all : ∀ t ∈ firstNames ++ moreNames ++ rshortNames, s ≠ t := by
    intro t ht e
    rw [List.mem_append, List.mem_append] at ht
    have : (s.toList == t.data.toList) = false := by first | (rcases ht with (h | h) | h; exact H t h; exact H2 t h; exact H3 t h)
    rw [e, ByteArray.toList_eq] at this
    simp at this
  have ep : plainF s = s := by
    unfold plainF
    have ne : ∀ t ∈ plainNames, s ≠ t := fun t ht => all t (by
      simp only [plainNames, firstNames, moreNames, rshortNames, List.mem_cons, List.mem_append, List.not_mem_nil, or_false] at ht ⊢
      rcases ht with h | h | h | h | h | h | h | h | h | h | h | h | h <;> simp [h])
    simp only [plainNames, List.mem_cons, List.not_mem_nil, or_false, forall_eq_or_imp, forall_eq] at ne
    obtain ⟨n_addi, n_slti, n_xori, n_ori, n_andi, n_slli, n_srli, n_srai, n_sltiu, n_addiw, n_slliw, n_srliw, n_sraiw⟩ := ne
    rw [if_neg n_sltiu, if_neg n_addi, if_neg n_slti, if_neg n_xori, if_neg n_ori, if_neg n_andi, if_neg n_slli, if_neg n_srli, if_neg n_srai, if_neg n_addiw, if_neg n_slliw, if_neg n_srliw, if_neg n_sraiw]
  rw [ep]
  have e1 : ruleFind s = none := ruleFind_no s fun t ht => by
    have := all t (by
      simp only [ruleNames, firstNames, moreNames, rshortNames, List.mem_cons, List.mem_append, List.not_mem_nil, or_false] at ht ⊢
      rcases ht with h | h | h | h | h | h | h | h | h | h | h | h | h | h | h | h | h | h <;> simp [h])
    rw [Bool.eq_false_iff]; intro e; exact this (bytes_ext (by rw [← ByteArray.toList_eq s]; simpa using e))
  have e2 : shortFind s = none := shortFind_no s fun t ht => by
    have := all t (by
      simp only [shortNames, firstNames, moreNames, rshortNames, List.mem_cons, List.mem_append, List.not_mem_nil, or_false] at ht ⊢
      rcases ht with h | h | h | h | h | h | h | h | h | h <;> simp [h])
    rw [Bool.eq_false_iff]; intro e; exact this (bytes_ext (by rw [← ByteArray.toList_eq s]; simpa using e))
  unfold aluP
  rw [e1, e2]; rfl
theorem okV_not : (okV none : Value) = .tuple #[U 0#64, .bool false] := rfl
/-- The reference reckons what the program does, of every name. -/
theorem rReckon_any (s : ByteArray) (a b : BitVec 64) (w : World) : Calls Try.prog 13 #[.string s, U a, U b] w fun e w' => e = .returned (okV (aluP (plainF s) a b)) ∧ w = w' := by
  rcases str_cases s firstNames with ⟨t, ht, rfl⟩ | H
  · simp only [firstNames, List.mem_cons, List.not_mem_nil, or_false] at ht
    rcases ht with rfl | rfl | rfl | rfl | rfl | rfl | rfl | rfl | rfl | rfl | rfl | rfl | rfl | rfl | rfl | rfl | rfl | rfl | rfl
    · exact rreck_add a b w
    · exact rreck_addi a b w
    · exact rreck_sub a b w
    · exact rreck_sll a b w
    · exact rreck_slli a b w
    · exact rreck_slt a b w
    · exact rreck_slti a b w
    · exact rreck_sltu a b w
    · exact rreck_sltiu a b w
    · exact rreck_xor a b w
    · exact rreck_xori a b w
    · exact rreck_srl a b w
    · exact rreck_srli a b w
    · exact rreck_sra a b w
    · exact rreck_srai a b w
    · exact rreck_or a b w
    · exact rreck_ori a b w
    · exact rreck_and a b w
    · exact rreck_andi a b w
  · rcases str_cases s moreNames with ⟨t, ht, rfl⟩ | H2
    · have hm := ht
      simp only [moreNames, List.mem_cons, List.not_mem_nil, or_false] at ht
      rcases ht with rfl | rfl | rfl | rfl | rfl | rfl | rfl | rfl
      · exact rreck_not _ H _ _ a b (more_mul a b) w
      · exact rreck_not _ H _ _ a b (more_mulh a b) w
      · exact rreck_not _ H _ _ a b (more_mulhsu a b) w
      · exact rreck_not _ H _ _ a b (more_mulhu a b) w
      · exact rreck_not _ H _ _ a b (more_div a b) w
      · exact rreck_not _ H _ _ a b (more_divu a b) w
      · exact rreck_not _ H _ _ a b (more_rem a b) w
      · exact rreck_not _ H _ _ a b (more_remu a b) w
    · rcases str_cases s rshortNames with ⟨t, ht, rfl⟩ | H3
      · have hm := ht
        simp only [rshortNames, List.mem_cons, List.not_mem_nil, or_false] at ht
        rcases ht with rfl | rfl | rfl | rfl | rfl | rfl | rfl | rfl | rfl | rfl | rfl | rfl | rfl | rfl
        · exact rreck_not _ H _ _ a b (more_not _ H2 _ _ a b (rshort_addw a b)) w
        · exact rreck_not _ H _ _ a b (more_not _ H2 _ _ a b (rshort_subw a b)) w
        · exact rreck_not _ H _ _ a b (more_not _ H2 _ _ a b (rshort_sllw a b)) w
        · exact rreck_not _ H _ _ a b (more_not _ H2 _ _ a b (rshort_srlw a b)) w
        · exact rreck_not _ H _ _ a b (more_not _ H2 _ _ a b (rshort_sraw a b)) w
        · exact rreck_not _ H _ _ a b (more_not _ H2 _ _ a b (rshort_mulw a b)) w
        · exact rreck_not _ H _ _ a b (more_not _ H2 _ _ a b (rshort_divw a b)) w
        · exact rreck_not _ H _ _ a b (more_not _ H2 _ _ a b (rshort_divuw a b)) w
        · exact rreck_not _ H _ _ a b (more_not _ H2 _ _ a b (rshort_remw a b)) w
        · exact rreck_not _ H _ _ a b (more_not _ H2 _ _ a b (rshort_remuw a b)) w
        · exact rreck_not _ H _ _ a b (more_not _ H2 _ _ a b (rshort_addiw a b)) w
        · exact rreck_not _ H _ _ a b (more_not _ H2 _ _ a b (rshort_slliw a b)) w
        · exact rreck_not _ H _ _ a b (more_not _ H2 _ _ a b (rshort_srliw a b)) w
        · exact rreck_not _ H _ _ a b (more_not _ H2 _ _ a b (rshort_sraiw a b)) w
      · have e : aluP (plainF s) a b = none := other_none s H H2 H3 a b
        rw [e, okV_not]
        exact rreck_not s H _ _ a b (more_not s H2 _ _ a b (fun w => rshort_not' s H3 a b w)) w
end Go.Proofs.Ytmeebniadgngpaa
