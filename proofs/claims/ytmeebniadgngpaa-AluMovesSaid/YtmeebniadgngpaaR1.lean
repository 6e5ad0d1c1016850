/- What the reference of chapter 6 reckons with 32 bits, by the program's own functions. No conditions. -/
import Derived.Test.YtmeebniadgngpaaA6
namespace Go.Proofs.Ytmeebniadgngpaa
open Go.RowKit
set_option linter.unusedVariables false
set_option linter.unusedSimpArgs false


theorem lo32_eq (a : BitVec 64) : a % 4294967296#64 = lo32 a := by
  unfold lo32 bfx
  apply BitVec.eq_of_toNat_eq
  rw [BitVec.toNat_umod, BitVec.toNat_ushiftRight, BitVec.toNat_shiftLeft, Nat.shiftLeft_eq, Nat.shiftRight_eq_div_pow]
  have : (4294967296#64).toNat = 2 ^ 32 := by decide
  rw [this]
  have := a.isLt
  simp only [Nat.sub_zero, Nat.reduceSub]
  omega
theorem mod32 (b : BitVec 64) : (b % 32#64).toNat = ((lo32 b &&& 31#64) &&& 63#64).toNat := by
  rw [← lo32_eq, BitVec.toNat_umod, BitVec.toNat_and, BitVec.toNat_and, BitVec.toNat_umod]
  have h4 : (4294967296#64).toNat = 4294967296 := by decide
  rw [h4]
  have h1 : (31#64).toNat = 2 ^ 5 - 1 := by decide
  have h2 : (63#64).toNat = 2 ^ 6 - 1 := by decide
  have h3 : (32#64).toNat = 32 := by decide
  rw [h1, h2, h3, Nat.and_two_pow_sub_one_eq_mod, Nat.and_two_pow_sub_one_eq_mod]
  omega
theorem mod64 (b : BitVec 64) : (b % 64#64).toNat = (b &&& 63#64).toNat := by
  rw [BitVec.toNat_umod, BitVec.toNat_and]
  have h2 : (63#64).toNat = 2 ^ 6 - 1 := by decide
  have h3 : (64#64).toNat = 64 := by decide
  rw [h2, h3, Nat.and_two_pow_sub_one_eq_mod]
theorem one_bit (b : Bool) (w : World) : Calls Try.prog 28 #[.bool b] w fun e w' => e = .returned (U (bitW b)) ∧ w = w' := one_any b w
theorem down0' (a n : BitVec 64) (w : World) : Calls Try.prog 31 #[U a, U n, .int .u64 0] w fun e w' => e = .returned (U (a >>> n.toNat)) ∧ w = w' := down0_any a n w
theorem up32 (a b : BitVec 64) (w : World) : Calls Try.prog 27 #[U a, U (b % 32#64)] w fun e w' => e = .returned (U (a <<< ((lo32 b &&& 31#64) &&& 63#64).toNat)) ∧ w = w' := by
  have h := up_any a (b % 32#64) w; rw [mod32] at h; exact h
theorem down32 (a b : BitVec 64) (w : World) : Calls Try.prog 31 #[U a, U (b % 32#64), U 0#64] w fun e w' => e = .returned (U (a >>> ((lo32 b &&& 31#64) &&& 63#64).toNat)) ∧ w = w' := by
  have h := down0_any a (b % 32#64) w; rw [mod32] at h; exact h
theorem downs32 (a b : BitVec 64) (w : World) : Calls Try.prog 31 #[U a, U (b % 32#64), U (a >>> 63)] w fun e w' => e = .returned (U (a.sshiftRight ((lo32 b &&& 31#64) &&& 63#64).toNat)) ∧ w = w' := by
  have h := down1_any a (b % 32#64) w; rw [mod32] at h; exact h
theorem up64 (a b : BitVec 64) (w : World) : Calls Try.prog 27 #[U a, U (b % 64#64)] w fun e w' => e = .returned (U (a <<< (b &&& 63#64).toNat)) ∧ w = w' := by
  have h := up_any a (b % 64#64) w; rw [mod64] at h; exact h
theorem down64 (a b : BitVec 64) (w : World) : Calls Try.prog 31 #[U a, U (b % 64#64), U 0#64] w fun e w' => e = .returned (U (a >>> (b &&& 63#64).toNat)) ∧ w = w' := by
  have h := down0_any a (b % 64#64) w; rw [mod64] at h; exact h
theorem downs64 (a b : BitVec 64) (w : World) : Calls Try.prog 31 #[U a, U (b % 64#64), U (a >>> 63)] w fun e w' => e = .returned (U (a.sshiftRight (b &&& 63#64).toNat)) ∧ w = w' := by
  have h := down1_any a (b % 64#64) w; rw [mod64] at h; exact h

set_option maxRecDepth 20000 in
theorem rshort_addw (a b : BitVec 64) (w : World) : Calls Try.prog 44 #[.string ⟨#[97, 100, 100, 119]⟩, U a, U b] w fun e w' => e = .returned (.tuple #[U (shortF 0 a b), .bool true]) ∧ w = w' := by
  have la := lo32_eq a
  have lb := lo32_eq b
  go_enter Try.func44, Try.ntmps44
  go_wp2_with (first
    | (go_at_call 15; refine (rSign_any _ 32 (by omega) (by omega) _).mono ?_; rintro e w' ⟨rfl, rfl⟩))
  go_ret2
  exact ⟨rfl, rfl⟩
set_option maxRecDepth 20000 in
theorem rshort_subw (a b : BitVec 64) (w : World) : Calls Try.prog 44 #[.string ⟨#[115, 117, 98, 119]⟩, U a, U b] w fun e w' => e = .returned (.tuple #[U (shortF 1 a b), .bool true]) ∧ w = w' := by
  have la := lo32_eq a
  have lb := lo32_eq b
  go_enter Try.func44, Try.ntmps44
  go_wp2_with (first
    | (go_at_call 15; refine (rSign_any _ 32 (by omega) (by omega) _).mono ?_; rintro e w' ⟨rfl, rfl⟩))
  go_ret2
  exact ⟨rfl, rfl⟩
set_option maxRecDepth 20000 in
theorem rshort_sllw (a b : BitVec 64) (w : World) : Calls Try.prog 44 #[.string ⟨#[115, 108, 108, 119]⟩, U a, U b] w fun e w' => e = .returned (.tuple #[U (shortF 2 a b), .bool true]) ∧ w = w' := by
  have la := lo32_eq a
  have lb := lo32_eq b
  go_enter Try.func44, Try.ntmps44
  go_wp2_with (first
    | (go_at_call 15; refine (rSign_any _ 32 (by omega) (by omega) _).mono ?_; rintro e w' ⟨rfl, rfl⟩)
    | (go_at_call 27; refine (up32 _ _ _).mono ?_; rintro e w' ⟨rfl, rfl⟩))
  go_ret2
  exact ⟨rfl, rfl⟩
set_option maxRecDepth 20000 in
theorem rshort_srlw (a b : BitVec 64) (w : World) : Calls Try.prog 44 #[.string ⟨#[115, 114, 108, 119]⟩, U a, U b] w fun e w' => e = .returned (.tuple #[U (shortF 3 a b), .bool true]) ∧ w = w' := by
  have la := lo32_eq a
  have lb := lo32_eq b
  go_enter Try.func44, Try.ntmps44
  go_wp2_with (first
    | (go_at_call 15; refine (rSign_any _ 32 (by omega) (by omega) _).mono ?_; rintro e w' ⟨rfl, rfl⟩)
    | (go_at_call 31; refine (down32 _ _ _).mono ?_; rintro e w' ⟨rfl, rfl⟩))
  go_ret2
  exact ⟨rfl, rfl⟩
set_option maxRecDepth 20000 in
theorem rshort_sraw (a b : BitVec 64) (w : World) : Calls Try.prog 44 #[.string ⟨#[115, 114, 97, 119]⟩, U a, U b] w fun e w' => e = .returned (.tuple #[U (shortF 4 a b), .bool true]) ∧ w = w' := by
  have la := lo32_eq a
  have lb := lo32_eq b
  go_enter Try.func44, Try.ntmps44
  go_wp2_with (first
    | (go_at_call 15; refine (rSign_any _ 32 (by omega) (by omega) _).mono ?_; rintro e w' ⟨rfl, rfl⟩)
    | (go_at_call 31; refine (downs32 _ _ _).mono ?_; rintro e w' ⟨rfl, rfl⟩))
  go_ret2
  exact ⟨rfl, rfl⟩
set_option maxRecDepth 20000 in
theorem rshort_mulw (a b : BitVec 64) (w : World) : Calls Try.prog 44 #[.string ⟨#[109, 117, 108, 119]⟩, U a, U b] w fun e w' => e = .returned (.tuple #[U (shortF 5 a b), .bool true]) ∧ w = w' := by
  have la := lo32_eq a
  have lb := lo32_eq b
  go_enter Try.func44, Try.ntmps44
  go_wp2_with (first
    | (go_at_call 15; refine (rSign_any _ 32 (by omega) (by omega) _).mono ?_; rintro e w' ⟨rfl, rfl⟩))
  go_ret2
  exact ⟨rfl, rfl⟩
set_option maxRecDepth 20000 in
theorem rshort_divw (a b : BitVec 64) (w : World) : Calls Try.prog 44 #[.string ⟨#[100, 105, 118, 119]⟩, U a, U b] w fun e w' => e = .returned (.tuple #[U (shortF 6 a b), .bool true]) ∧ w = w' := by
  have la := lo32_eq a
  have lb := lo32_eq b
  go_enter Try.func44, Try.ntmps44
  go_wp2_with (first
    | (go_at_call 15; refine (rSign_any _ 32 (by omega) (by omega) _).mono ?_; rintro e w' ⟨rfl, rfl⟩)
    | (go_at_call 42; refine (rQuotient_any _ _ _ _).mono ?_; rintro e w' ⟨rfl, rfl⟩))
  go_ret2
  exact ⟨rfl, rfl⟩
set_option maxRecDepth 20000 in
theorem rshort_divuw (a b : BitVec 64) (w : World) : Calls Try.prog 44 #[.string ⟨#[100, 105, 118, 117, 119]⟩, U a, U b] w fun e w' => e = .returned (.tuple #[U (shortF 7 a b), .bool true]) ∧ w = w' := by
  have la := lo32_eq a
  have lb := lo32_eq b
  go_enter Try.func44, Try.ntmps44
  go_wp2_with (first
    | (go_at_call 15; refine (rSign_any _ 32 (by omega) (by omega) _).mono ?_; rintro e w' ⟨rfl, rfl⟩)
    | (go_at_call 42; refine (rQuotient_any _ _ _ _).mono ?_; rintro e w' ⟨rfl, rfl⟩))
  go_ret2
  exact ⟨rfl, rfl⟩
set_option maxRecDepth 20000 in
theorem rshort_remw (a b : BitVec 64) (w : World) : Calls Try.prog 44 #[.string ⟨#[114, 101, 109, 119]⟩, U a, U b] w fun e w' => e = .returned (.tuple #[U (shortF 8 a b), .bool true]) ∧ w = w' := by
  have la := lo32_eq a
  have lb := lo32_eq b
  go_enter Try.func44, Try.ntmps44
  go_wp2_with (first
    | (go_at_call 15; refine (rSign_any _ 32 (by omega) (by omega) _).mono ?_; rintro e w' ⟨rfl, rfl⟩)
    | (go_at_call 43; refine (rRest_any _ _ _ _).mono ?_; rintro e w' ⟨rfl, rfl⟩))
  go_ret2
  exact ⟨rfl, rfl⟩
set_option maxRecDepth 20000 in
theorem rshort_remuw (a b : BitVec 64) (w : World) : Calls Try.prog 44 #[.string ⟨#[114, 101, 109, 117, 119]⟩, U a, U b] w fun e w' => e = .returned (.tuple #[U (shortF 9 a b), .bool true]) ∧ w = w' := by
  have la := lo32_eq a
  have lb := lo32_eq b
  go_enter Try.func44, Try.ntmps44
  go_wp2_with (first
    | (go_at_call 15; refine (rSign_any _ 32 (by omega) (by omega) _).mono ?_; rintro e w' ⟨rfl, rfl⟩)
    | (go_at_call 43; refine (rRest_any _ _ _ _).mono ?_; rintro e w' ⟨rfl, rfl⟩))
  go_ret2
  exact ⟨rfl, rfl⟩
set_option maxRecDepth 20000 in
theorem rshort_addiw (a b : BitVec 64) (w : World) : Calls Try.prog 44 #[.string ⟨#[97, 100, 100, 105, 119]⟩, U a, U b] w fun e w' => e = .returned (.tuple #[U (shortF 0 a b), .bool true]) ∧ w = w' := by
  have la := lo32_eq a
  have lb := lo32_eq b
  go_enter Try.func44, Try.ntmps44
  go_wp2_with (first
    | (go_at_call 15; refine (rSign_any _ 32 (by omega) (by omega) _).mono ?_; rintro e w' ⟨rfl, rfl⟩))
  go_ret2
  exact ⟨rfl, rfl⟩
set_option maxRecDepth 20000 in
theorem rshort_slliw (a b : BitVec 64) (w : World) : Calls Try.prog 44 #[.string ⟨#[115, 108, 108, 105, 119]⟩, U a, U b] w fun e w' => e = .returned (.tuple #[U (shortF 2 a b), .bool true]) ∧ w = w' := by
  have la := lo32_eq a
  have lb := lo32_eq b
  go_enter Try.func44, Try.ntmps44
  go_wp2_with (first
    | (go_at_call 15; refine (rSign_any _ 32 (by omega) (by omega) _).mono ?_; rintro e w' ⟨rfl, rfl⟩)
    | (go_at_call 27; refine (up32 _ _ _).mono ?_; rintro e w' ⟨rfl, rfl⟩))
  go_ret2
  exact ⟨rfl, rfl⟩
set_option maxRecDepth 20000 in
theorem rshort_srliw (a b : BitVec 64) (w : World) : Calls Try.prog 44 #[.string ⟨#[115, 114, 108, 105, 119]⟩, U a, U b] w fun e w' => e = .returned (.tuple #[U (shortF 3 a b), .bool true]) ∧ w = w' := by
  have la := lo32_eq a
  have lb := lo32_eq b
  go_enter Try.func44, Try.ntmps44
  go_wp2_with (first
    | (go_at_call 15; refine (rSign_any _ 32 (by omega) (by omega) _).mono ?_; rintro e w' ⟨rfl, rfl⟩)
    | (go_at_call 31; refine (down32 _ _ _).mono ?_; rintro e w' ⟨rfl, rfl⟩))
  go_ret2
  exact ⟨rfl, rfl⟩
set_option maxRecDepth 20000 in
theorem rshort_sraiw (a b : BitVec 64) (w : World) : Calls Try.prog 44 #[.string ⟨#[115, 114, 97, 105, 119]⟩, U a, U b] w fun e w' => e = .returned (.tuple #[U (shortF 4 a b), .bool true]) ∧ w = w' := by
  have la := lo32_eq a
  have lb := lo32_eq b
  go_enter Try.func44, Try.ntmps44
  go_wp2_with (first
    | (go_at_call 15; refine (rSign_any _ 32 (by omega) (by omega) _).mono ?_; rintro e w' ⟨rfl, rfl⟩)
    | (go_at_call 31; refine (downs32 _ _ _).mono ?_; rintro e w' ⟨rfl, rfl⟩))
  go_ret2
  exact ⟨rfl, rfl⟩
def rshortNames : List ByteArray := [⟨#[97, 100, 100, 119]⟩, ⟨#[115, 117, 98, 119]⟩, ⟨#[115, 108, 108, 119]⟩, ⟨#[115, 114, 108, 119]⟩, ⟨#[115, 114, 97, 119]⟩, ⟨#[109, 117, 108, 119]⟩, ⟨#[100, 105, 118, 119]⟩, ⟨#[100, 105, 118, 117, 119]⟩, ⟨#[114, 101, 109, 119]⟩, ⟨#[114, 101, 109, 117, 119]⟩, ⟨#[97, 100, 100, 105, 119]⟩, ⟨#[115, 108, 108, 105, 119]⟩, ⟨#[115, 114, 108, 105, 119]⟩, ⟨#[115, 114, 97, 105, 119]⟩]
set_option maxRecDepth 20000 in
theorem rshort_not (s : ByteArray) (H : ∀ t ∈ rshortNames, (s.toList == t.data.toList) = false) (a b : BitVec 64) (w : World) :
    Calls Try.prog 44 #[.string s, U a, U b] w fun e w' => e = .returned (.tuple #[.int .u64 0, .bool false]) ∧ w = w' := by
  have h_addw : (s.toList == [97, 100, 100, 119]) = false := H ⟨#[97, 100, 100, 119]⟩ (by simp [rshortNames])
  have h_subw : (s.toList == [115, 117, 98, 119]) = false := H ⟨#[115, 117, 98, 119]⟩ (by simp [rshortNames])
  have h_sllw : (s.toList == [115, 108, 108, 119]) = false := H ⟨#[115, 108, 108, 119]⟩ (by simp [rshortNames])
  have h_srlw : (s.toList == [115, 114, 108, 119]) = false := H ⟨#[115, 114, 108, 119]⟩ (by simp [rshortNames])
  have h_sraw : (s.toList == [115, 114, 97, 119]) = false := H ⟨#[115, 114, 97, 119]⟩ (by simp [rshortNames])
  have h_mulw : (s.toList == [109, 117, 108, 119]) = false := H ⟨#[109, 117, 108, 119]⟩ (by simp [rshortNames])
  have h_divw : (s.toList == [100, 105, 118, 119]) = false := H ⟨#[100, 105, 118, 119]⟩ (by simp [rshortNames])
  have h_divuw : (s.toList == [100, 105, 118, 117, 119]) = false := H ⟨#[100, 105, 118, 117, 119]⟩ (by simp [rshortNames])
  have h_remw : (s.toList == [114, 101, 109, 119]) = false := H ⟨#[114, 101, 109, 119]⟩ (by simp [rshortNames])
  have h_remuw : (s.toList == [114, 101, 109, 117, 119]) = false := H ⟨#[114, 101, 109, 117, 119]⟩ (by simp [rshortNames])
  have h_addiw : (s.toList == [97, 100, 100, 105, 119]) = false := H ⟨#[97, 100, 100, 105, 119]⟩ (by simp [rshortNames])
  have h_slliw : (s.toList == [115, 108, 108, 105, 119]) = false := H ⟨#[115, 108, 108, 105, 119]⟩ (by simp [rshortNames])
  have h_srliw : (s.toList == [115, 114, 108, 105, 119]) = false := H ⟨#[115, 114, 108, 105, 119]⟩ (by simp [rshortNames])
  have h_sraiw : (s.toList == [115, 114, 97, 105, 119]) = false := H ⟨#[115, 114, 97, 105, 119]⟩ (by simp [rshortNames])
  clear H
  go_enter Try.func44, Try.ntmps44
  go_wp2_with (first
    | (go_at_call 15; refine (rSign_any _ 32 (by omega) (by omega) _).mono ?_; rintro e w' ⟨rfl, rfl⟩))
  go_ret2
  exact ⟨rfl, rfl⟩
theorem rshort_not' (s : ByteArray) (H : ∀ t ∈ rshortNames, (s.toList == t.data.toList) = false) (a b : BitVec 64) (w : World) :
    Calls Try.prog 44 #[.string s, U a, U b] w fun e w' => e = .returned (.tuple #[U 0#64, .bool false]) ∧ w = w' := rshort_not s H a b w
end Go.Proofs.Ytmeebniadgngpaa
