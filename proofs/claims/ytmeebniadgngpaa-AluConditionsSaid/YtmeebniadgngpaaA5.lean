/- What package alu reckons: short and Reckon. No conditions. -/
import Derived.Test.YtmeebniadgngpaaA3
import Derived.Test.YtmeebniadgngpaaA4
import Derived.Test.YtmeebniadgngpaaO7
namespace Go.Proofs.Ytmeebniadgngpaa
open Go.RowKit
set_option linter.unusedVariables false
set_option linter.unusedSimpArgs false


/-- The words that a short operation reckons with. -/
def lo32 (a : BitVec 64) : BitVec 64 := bfx a 0 32
def shortF (n : Nat) (a b : BitVec 64) : BitVec 64 := match n with
  | 0 => sgn (lo32 a + lo32 b) 32
  | 1 => sgn (lo32 a - lo32 b) 32
  | 2 => sgn (lo32 a <<< ((lo32 b &&& 31#64) &&& 63#64).toNat) 32
  | 3 => sgn (lo32 a >>> ((lo32 b &&& 31#64) &&& 63#64).toNat) 32
  | 4 => sgn ((sgn (lo32 a) 32).sshiftRight ((lo32 b &&& 31#64) &&& 63#64).toNat) 32
  | 5 => sgn (lo32 a * lo32 b) 32
  | 6 => sgn (quoF (sgn (lo32 a) 32) (sgn (lo32 b) 32) true) 32
  | 7 => sgn (quoF (lo32 a) (lo32 b) false) 32
  | 8 => sgn (resF (sgn (lo32 a) 32) (sgn (lo32 b) 32) true) 32
  | _ => sgn (resF (lo32 a) (lo32 b) false) 32
theorem ruleVal_some {s : ByteArray} {k : Nat} (h : ruleFind s = some k) : ruleVal s = .tuple #[.agg #[.string (ruleAt k).name, .func (.func (ruleAt k).fn) #[] #[]], .bool true] := by unfold ruleVal; rw [h]
theorem ruleVal_none {s : ByteArray} (h : ruleFind s = none) : ruleVal s = .tuple #[.agg #[.string ⟨#[]⟩, .nilFunc], .bool false] := by unfold ruleVal; rw [h]

theorem find_add (w : World) : Calls Try.prog 25 #[.string ⟨#[97, 100, 100]⟩] w fun e w' => e = .returned (.tuple #[.agg #[.string ⟨#[97, 100, 100]⟩, .func (.func 46) #[] #[]], .bool true]) ∧ Below w.heap.size w w' := by
  have h := find_any ⟨#[97, 100, 100]⟩ w
  rw [ruleVal_some (k := 0) (by decide)] at h
  exact h
theorem find_sub (w : World) : Calls Try.prog 25 #[.string ⟨#[115, 117, 98]⟩] w fun e w' => e = .returned (.tuple #[.agg #[.string ⟨#[115, 117, 98]⟩, .func (.func 47) #[] #[]], .bool true]) ∧ Below w.heap.size w w' := by
  have h := find_any ⟨#[115, 117, 98]⟩ w
  rw [ruleVal_some (k := 1) (by decide)] at h
  exact h
theorem find_sll (w : World) : Calls Try.prog 25 #[.string ⟨#[115, 108, 108]⟩] w fun e w' => e = .returned (.tuple #[.agg #[.string ⟨#[115, 108, 108]⟩, .func (.func 48) #[] #[]], .bool true]) ∧ Below w.heap.size w w' := by
  have h := find_any ⟨#[115, 108, 108]⟩ w
  rw [ruleVal_some (k := 2) (by decide)] at h
  exact h
theorem find_slt (w : World) : Calls Try.prog 25 #[.string ⟨#[115, 108, 116]⟩] w fun e w' => e = .returned (.tuple #[.agg #[.string ⟨#[115, 108, 116]⟩, .func (.func 49) #[] #[]], .bool true]) ∧ Below w.heap.size w w' := by
  have h := find_any ⟨#[115, 108, 116]⟩ w
  rw [ruleVal_some (k := 3) (by decide)] at h
  exact h
theorem find_sltu (w : World) : Calls Try.prog 25 #[.string ⟨#[115, 108, 116, 117]⟩] w fun e w' => e = .returned (.tuple #[.agg #[.string ⟨#[115, 108, 116, 117]⟩, .func (.func 51) #[] #[]], .bool true]) ∧ Below w.heap.size w w' := by
  have h := find_any ⟨#[115, 108, 116, 117]⟩ w
  rw [ruleVal_some (k := 4) (by decide)] at h
  exact h
theorem find_xor (w : World) : Calls Try.prog 25 #[.string ⟨#[120, 111, 114]⟩] w fun e w' => e = .returned (.tuple #[.agg #[.string ⟨#[120, 111, 114]⟩, .func (.func 52) #[] #[]], .bool true]) ∧ Below w.heap.size w w' := by
  have h := find_any ⟨#[120, 111, 114]⟩ w
  rw [ruleVal_some (k := 5) (by decide)] at h
  exact h
theorem find_srl (w : World) : Calls Try.prog 25 #[.string ⟨#[115, 114, 108]⟩] w fun e w' => e = .returned (.tuple #[.agg #[.string ⟨#[115, 114, 108]⟩, .func (.func 53) #[] #[]], .bool true]) ∧ Below w.heap.size w w' := by
  have h := find_any ⟨#[115, 114, 108]⟩ w
  rw [ruleVal_some (k := 6) (by decide)] at h
  exact h
theorem find_sra (w : World) : Calls Try.prog 25 #[.string ⟨#[115, 114, 97]⟩] w fun e w' => e = .returned (.tuple #[.agg #[.string ⟨#[115, 114, 97]⟩, .func (.func 54) #[] #[]], .bool true]) ∧ Below w.heap.size w w' := by
  have h := find_any ⟨#[115, 114, 97]⟩ w
  rw [ruleVal_some (k := 7) (by decide)] at h
  exact h
theorem find_or (w : World) : Calls Try.prog 25 #[.string ⟨#[111, 114]⟩] w fun e w' => e = .returned (.tuple #[.agg #[.string ⟨#[111, 114]⟩, .func (.func 55) #[] #[]], .bool true]) ∧ Below w.heap.size w w' := by
  have h := find_any ⟨#[111, 114]⟩ w
  rw [ruleVal_some (k := 8) (by decide)] at h
  exact h
theorem find_and (w : World) : Calls Try.prog 25 #[.string ⟨#[97, 110, 100]⟩] w fun e w' => e = .returned (.tuple #[.agg #[.string ⟨#[97, 110, 100]⟩, .func (.func 56) #[] #[]], .bool true]) ∧ Below w.heap.size w w' := by
  have h := find_any ⟨#[97, 110, 100]⟩ w
  rw [ruleVal_some (k := 9) (by decide)] at h
  exact h
theorem find_mul (w : World) : Calls Try.prog 25 #[.string ⟨#[109, 117, 108]⟩] w fun e w' => e = .returned (.tuple #[.agg #[.string ⟨#[109, 117, 108]⟩, .func (.func 57) #[] #[]], .bool true]) ∧ Below w.heap.size w w' := by
  have h := find_any ⟨#[109, 117, 108]⟩ w
  rw [ruleVal_some (k := 10) (by decide)] at h
  exact h
theorem find_mulh (w : World) : Calls Try.prog 25 #[.string ⟨#[109, 117, 108, 104]⟩] w fun e w' => e = .returned (.tuple #[.agg #[.string ⟨#[109, 117, 108, 104]⟩, .func (.func 58) #[] #[]], .bool true]) ∧ Below w.heap.size w w' := by
  have h := find_any ⟨#[109, 117, 108, 104]⟩ w
  rw [ruleVal_some (k := 11) (by decide)] at h
  exact h
theorem find_mulhsu (w : World) : Calls Try.prog 25 #[.string ⟨#[109, 117, 108, 104, 115, 117]⟩] w fun e w' => e = .returned (.tuple #[.agg #[.string ⟨#[109, 117, 108, 104, 115, 117]⟩, .func (.func 60) #[] #[]], .bool true]) ∧ Below w.heap.size w w' := by
  have h := find_any ⟨#[109, 117, 108, 104, 115, 117]⟩ w
  rw [ruleVal_some (k := 12) (by decide)] at h
  exact h
theorem find_mulhu (w : World) : Calls Try.prog 25 #[.string ⟨#[109, 117, 108, 104, 117]⟩] w fun e w' => e = .returned (.tuple #[.agg #[.string ⟨#[109, 117, 108, 104, 117]⟩, .func (.func 61) #[] #[]], .bool true]) ∧ Below w.heap.size w w' := by
  have h := find_any ⟨#[109, 117, 108, 104, 117]⟩ w
  rw [ruleVal_some (k := 13) (by decide)] at h
  exact h
theorem find_div (w : World) : Calls Try.prog 25 #[.string ⟨#[100, 105, 118]⟩] w fun e w' => e = .returned (.tuple #[.agg #[.string ⟨#[100, 105, 118]⟩, .func (.func 62) #[] #[]], .bool true]) ∧ Below w.heap.size w w' := by
  have h := find_any ⟨#[100, 105, 118]⟩ w
  rw [ruleVal_some (k := 14) (by decide)] at h
  exact h
theorem find_divu (w : World) : Calls Try.prog 25 #[.string ⟨#[100, 105, 118, 117]⟩] w fun e w' => e = .returned (.tuple #[.agg #[.string ⟨#[100, 105, 118, 117]⟩, .func (.func 64) #[] #[]], .bool true]) ∧ Below w.heap.size w w' := by
  have h := find_any ⟨#[100, 105, 118, 117]⟩ w
  rw [ruleVal_some (k := 15) (by decide)] at h
  exact h
theorem find_rem (w : World) : Calls Try.prog 25 #[.string ⟨#[114, 101, 109]⟩] w fun e w' => e = .returned (.tuple #[.agg #[.string ⟨#[114, 101, 109]⟩, .func (.func 65) #[] #[]], .bool true]) ∧ Below w.heap.size w w' := by
  have h := find_any ⟨#[114, 101, 109]⟩ w
  rw [ruleVal_some (k := 16) (by decide)] at h
  exact h
theorem find_remu (w : World) : Calls Try.prog 25 #[.string ⟨#[114, 101, 109, 117]⟩] w fun e w' => e = .returned (.tuple #[.agg #[.string ⟨#[114, 101, 109, 117]⟩, .func (.func 67) #[] #[]], .bool true]) ∧ Below w.heap.size w w' := by
  have h := find_any ⟨#[114, 101, 109, 117]⟩ w
  rw [ruleVal_some (k := 17) (by decide)] at h
  exact h
theorem trimw_addw (w : World) : Calls Try.prog 35 #[.string ⟨#[97, 100, 100, 119]⟩, .string ⟨#[119]⟩] w fun e w' => e = .returned (.string ⟨#[97, 100, 100]⟩) ∧ w = w' := by
  have h := TrimSuffix_any ⟨#[97, 100, 100, 119]⟩ ⟨#[119]⟩ (by decide) (by decide) w
  rw [show trimF ⟨#[97, 100, 100, 119]⟩ ⟨#[119]⟩ = ⟨#[97, 100, 100]⟩ from trim_lit [97, 100, 100, 119] [119] [97, 100, 100] (by decide)] at h
  exact h
theorem short_addw (a b : BitVec 64) (w : World) : Calls Try.prog 26 #[.string ⟨#[97, 100, 100, 119]⟩, U a, U b] w fun e w' => e = .returned (.tuple #[U (shortF 0 a b), .bool true]) ∧ Below w.heap.size w w' := by
  have hB := Hd.mk (Below.refl w.heap.size w)
  go_enter Try.func26, Try.ntmps26
  go_wp2_with (first
    | (go_at_call 35; refine (trimw_addw _).mono ?_; rintro e w' ⟨rfl, rfl⟩)
    | (go_at_call 25; refine (find_add _).mono ?_; rintro e w1 ⟨rfl, hb⟩; obtain ⟨hc, hf⟩ := bcell hb)
    | (go_at_call 39; refine (Bits_any _ 0 32 (by omega) (by omega) (by omega) (by omega) _).mono ?_; rintro e w' ⟨rfl, rfl⟩)
    | (go_at_call 40; refine (Sign_any _ 32 (by omega) (by omega) _).mono ?_; rintro e w' ⟨rfl, rfl⟩)
    | (go_at_call 46; refine (rule_1 _ _ _).mono ?_; rintro e w' ⟨rfl, rfl⟩))
  go_ret2
  exact ⟨rfl, hb.alloc hb.size _⟩
theorem trimw_subw (w : World) : Calls Try.prog 35 #[.string ⟨#[115, 117, 98, 119]⟩, .string ⟨#[119]⟩] w fun e w' => e = .returned (.string ⟨#[115, 117, 98]⟩) ∧ w = w' := by
  have h := TrimSuffix_any ⟨#[115, 117, 98, 119]⟩ ⟨#[119]⟩ (by decide) (by decide) w
  rw [show trimF ⟨#[115, 117, 98, 119]⟩ ⟨#[119]⟩ = ⟨#[115, 117, 98]⟩ from trim_lit [115, 117, 98, 119] [119] [115, 117, 98] (by decide)] at h
  exact h
theorem short_subw (a b : BitVec 64) (w : World) : Calls Try.prog 26 #[.string ⟨#[115, 117, 98, 119]⟩, U a, U b] w fun e w' => e = .returned (.tuple #[U (shortF 1 a b), .bool true]) ∧ Below w.heap.size w w' := by
  have hB := Hd.mk (Below.refl w.heap.size w)
  go_enter Try.func26, Try.ntmps26
  go_wp2_with (first
    | (go_at_call 35; refine (trimw_subw _).mono ?_; rintro e w' ⟨rfl, rfl⟩)
    | (go_at_call 25; refine (find_sub _).mono ?_; rintro e w1 ⟨rfl, hb⟩; obtain ⟨hc, hf⟩ := bcell hb)
    | (go_at_call 39; refine (Bits_any _ 0 32 (by omega) (by omega) (by omega) (by omega) _).mono ?_; rintro e w' ⟨rfl, rfl⟩)
    | (go_at_call 40; refine (Sign_any _ 32 (by omega) (by omega) _).mono ?_; rintro e w' ⟨rfl, rfl⟩)
    | (go_at_call 47; refine (rule_2 _ _ _).mono ?_; rintro e w' ⟨rfl, rfl⟩))
  go_ret2
  exact ⟨rfl, hb.alloc hb.size _⟩
theorem trimw_sllw (w : World) : Calls Try.prog 35 #[.string ⟨#[115, 108, 108, 119]⟩, .string ⟨#[119]⟩] w fun e w' => e = .returned (.string ⟨#[115, 108, 108]⟩) ∧ w = w' := by
  have h := TrimSuffix_any ⟨#[115, 108, 108, 119]⟩ ⟨#[119]⟩ (by decide) (by decide) w
  rw [show trimF ⟨#[115, 108, 108, 119]⟩ ⟨#[119]⟩ = ⟨#[115, 108, 108]⟩ from trim_lit [115, 108, 108, 119] [119] [115, 108, 108] (by decide)] at h
  exact h
theorem short_sllw (a b : BitVec 64) (w : World) : Calls Try.prog 26 #[.string ⟨#[115, 108, 108, 119]⟩, U a, U b] w fun e w' => e = .returned (.tuple #[U (shortF 2 a b), .bool true]) ∧ Below w.heap.size w w' := by
  have hB := Hd.mk (Below.refl w.heap.size w)
  go_enter Try.func26, Try.ntmps26
  go_wp2_with (first
    | (go_at_call 35; refine (trimw_sllw _).mono ?_; rintro e w' ⟨rfl, rfl⟩)
    | (go_at_call 25; refine (find_sll _).mono ?_; rintro e w1 ⟨rfl, hb⟩; obtain ⟨hc, hf⟩ := bcell hb)
    | (go_at_call 39; refine (Bits_any _ 0 32 (by omega) (by omega) (by omega) (by omega) _).mono ?_; rintro e w' ⟨rfl, rfl⟩)
    | (go_at_call 40; refine (Sign_any _ 32 (by omega) (by omega) _).mono ?_; rintro e w' ⟨rfl, rfl⟩)
    | (go_at_call 48; refine (rule_3 _ _ _).mono ?_; rintro e w' ⟨rfl, rfl⟩))
  go_ret2
  exact ⟨rfl, hb.alloc hb.size _⟩
theorem trimw_srlw (w : World) : Calls Try.prog 35 #[.string ⟨#[115, 114, 108, 119]⟩, .string ⟨#[119]⟩] w fun e w' => e = .returned (.string ⟨#[115, 114, 108]⟩) ∧ w = w' := by
  have h := TrimSuffix_any ⟨#[115, 114, 108, 119]⟩ ⟨#[119]⟩ (by decide) (by decide) w
  rw [show trimF ⟨#[115, 114, 108, 119]⟩ ⟨#[119]⟩ = ⟨#[115, 114, 108]⟩ from trim_lit [115, 114, 108, 119] [119] [115, 114, 108] (by decide)] at h
  exact h
theorem short_srlw (a b : BitVec 64) (w : World) : Calls Try.prog 26 #[.string ⟨#[115, 114, 108, 119]⟩, U a, U b] w fun e w' => e = .returned (.tuple #[U (shortF 3 a b), .bool true]) ∧ Below w.heap.size w w' := by
  have hB := Hd.mk (Below.refl w.heap.size w)
  go_enter Try.func26, Try.ntmps26
  go_wp2_with (first
    | (go_at_call 35; refine (trimw_srlw _).mono ?_; rintro e w' ⟨rfl, rfl⟩)
    | (go_at_call 25; refine (find_srl _).mono ?_; rintro e w1 ⟨rfl, hb⟩; obtain ⟨hc, hf⟩ := bcell hb)
    | (go_at_call 39; refine (Bits_any _ 0 32 (by omega) (by omega) (by omega) (by omega) _).mono ?_; rintro e w' ⟨rfl, rfl⟩)
    | (go_at_call 40; refine (Sign_any _ 32 (by omega) (by omega) _).mono ?_; rintro e w' ⟨rfl, rfl⟩)
    | (go_at_call 53; refine (rule_7 _ _ _).mono ?_; rintro e w' ⟨rfl, rfl⟩))
  go_ret2
  exact ⟨rfl, hb.alloc hb.size _⟩
theorem trimw_sraw (w : World) : Calls Try.prog 35 #[.string ⟨#[115, 114, 97, 119]⟩, .string ⟨#[119]⟩] w fun e w' => e = .returned (.string ⟨#[115, 114, 97]⟩) ∧ w = w' := by
  have h := TrimSuffix_any ⟨#[115, 114, 97, 119]⟩ ⟨#[119]⟩ (by decide) (by decide) w
  rw [show trimF ⟨#[115, 114, 97, 119]⟩ ⟨#[119]⟩ = ⟨#[115, 114, 97]⟩ from trim_lit [115, 114, 97, 119] [119] [115, 114, 97] (by decide)] at h
  exact h
theorem short_sraw (a b : BitVec 64) (w : World) : Calls Try.prog 26 #[.string ⟨#[115, 114, 97, 119]⟩, U a, U b] w fun e w' => e = .returned (.tuple #[U (shortF 4 a b), .bool true]) ∧ Below w.heap.size w w' := by
  have hB := Hd.mk (Below.refl w.heap.size w)
  go_enter Try.func26, Try.ntmps26
  go_wp2_with (first
    | (go_at_call 35; refine (trimw_sraw _).mono ?_; rintro e w' ⟨rfl, rfl⟩)
    | (go_at_call 25; refine (find_sra _).mono ?_; rintro e w1 ⟨rfl, hb⟩; obtain ⟨hc, hf⟩ := bcell hb)
    | (go_at_call 39; refine (Bits_any _ 0 32 (by omega) (by omega) (by omega) (by omega) _).mono ?_; rintro e w' ⟨rfl, rfl⟩)
    | (go_at_call 40; refine (Sign_any _ 32 (by omega) (by omega) _).mono ?_; rintro e w' ⟨rfl, rfl⟩)
    | (go_at_call 54; refine (rule_8 _ _ _).mono ?_; rintro e w' ⟨rfl, rfl⟩))
  go_ret2
  exact ⟨rfl, hb.alloc hb.size _⟩
theorem trimw_mulw (w : World) : Calls Try.prog 35 #[.string ⟨#[109, 117, 108, 119]⟩, .string ⟨#[119]⟩] w fun e w' => e = .returned (.string ⟨#[109, 117, 108]⟩) ∧ w = w' := by
  have h := TrimSuffix_any ⟨#[109, 117, 108, 119]⟩ ⟨#[119]⟩ (by decide) (by decide) w
  rw [show trimF ⟨#[109, 117, 108, 119]⟩ ⟨#[119]⟩ = ⟨#[109, 117, 108]⟩ from trim_lit [109, 117, 108, 119] [119] [109, 117, 108] (by decide)] at h
  exact h
theorem short_mulw (a b : BitVec 64) (w : World) : Calls Try.prog 26 #[.string ⟨#[109, 117, 108, 119]⟩, U a, U b] w fun e w' => e = .returned (.tuple #[U (shortF 5 a b), .bool true]) ∧ Below w.heap.size w w' := by
  have hB := Hd.mk (Below.refl w.heap.size w)
  go_enter Try.func26, Try.ntmps26
  go_wp2_with (first
    | (go_at_call 35; refine (trimw_mulw _).mono ?_; rintro e w' ⟨rfl, rfl⟩)
    | (go_at_call 25; refine (find_mul _).mono ?_; rintro e w1 ⟨rfl, hb⟩; obtain ⟨hc, hf⟩ := bcell hb)
    | (go_at_call 39; refine (Bits_any _ 0 32 (by omega) (by omega) (by omega) (by omega) _).mono ?_; rintro e w' ⟨rfl, rfl⟩)
    | (go_at_call 40; refine (Sign_any _ 32 (by omega) (by omega) _).mono ?_; rintro e w' ⟨rfl, rfl⟩)
    | (go_at_call 57; refine (rule_11 _ _ _).mono ?_; rintro e w' ⟨rfl, rfl⟩))
  go_ret2
  exact ⟨rfl, hb.alloc hb.size _⟩
theorem trimw_divw (w : World) : Calls Try.prog 35 #[.string ⟨#[100, 105, 118, 119]⟩, .string ⟨#[119]⟩] w fun e w' => e = .returned (.string ⟨#[100, 105, 118]⟩) ∧ w = w' := by
  have h := TrimSuffix_any ⟨#[100, 105, 118, 119]⟩ ⟨#[119]⟩ (by decide) (by decide) w
  rw [show trimF ⟨#[100, 105, 118, 119]⟩ ⟨#[119]⟩ = ⟨#[100, 105, 118]⟩ from trim_lit [100, 105, 118, 119] [119] [100, 105, 118] (by decide)] at h
  exact h
theorem short_divw (a b : BitVec 64) (w : World) : Calls Try.prog 26 #[.string ⟨#[100, 105, 118, 119]⟩, U a, U b] w fun e w' => e = .returned (.tuple #[U (shortF 6 a b), .bool true]) ∧ Below w.heap.size w w' := by
  have hB := Hd.mk (Below.refl w.heap.size w)
  go_enter Try.func26, Try.ntmps26
  go_wp2_with (first
    | (go_at_call 35; refine (trimw_divw _).mono ?_; rintro e w' ⟨rfl, rfl⟩)
    | (go_at_call 25; refine (find_div _).mono ?_; rintro e w1 ⟨rfl, hb⟩; obtain ⟨hc, hf⟩ := bcell hb)
    | (go_at_call 39; refine (Bits_any _ 0 32 (by omega) (by omega) (by omega) (by omega) _).mono ?_; rintro e w' ⟨rfl, rfl⟩)
    | (go_at_call 40; refine (Sign_any _ 32 (by omega) (by omega) _).mono ?_; rintro e w' ⟨rfl, rfl⟩)
    | (go_at_call 62; refine (rule_15 _ _ _).mono ?_; rintro e w' ⟨rfl, rfl⟩))
  go_ret2
  exact ⟨rfl, hb.alloc hb.size _⟩
theorem trimw_divuw (w : World) : Calls Try.prog 35 #[.string ⟨#[100, 105, 118, 117, 119]⟩, .string ⟨#[119]⟩] w fun e w' => e = .returned (.string ⟨#[100, 105, 118, 117]⟩) ∧ w = w' := by
  have h := TrimSuffix_any ⟨#[100, 105, 118, 117, 119]⟩ ⟨#[119]⟩ (by decide) (by decide) w
  rw [show trimF ⟨#[100, 105, 118, 117, 119]⟩ ⟨#[119]⟩ = ⟨#[100, 105, 118, 117]⟩ from trim_lit [100, 105, 118, 117, 119] [119] [100, 105, 118, 117] (by decide)] at h
  exact h
theorem short_divuw (a b : BitVec 64) (w : World) : Calls Try.prog 26 #[.string ⟨#[100, 105, 118, 117, 119]⟩, U a, U b] w fun e w' => e = .returned (.tuple #[U (shortF 7 a b), .bool true]) ∧ Below w.heap.size w w' := by
  have hB := Hd.mk (Below.refl w.heap.size w)
  go_enter Try.func26, Try.ntmps26
  go_wp2_with (first
    | (go_at_call 35; refine (trimw_divuw _).mono ?_; rintro e w' ⟨rfl, rfl⟩)
    | (go_at_call 25; refine (find_divu _).mono ?_; rintro e w1 ⟨rfl, hb⟩; obtain ⟨hc, hf⟩ := bcell hb)
    | (go_at_call 39; refine (Bits_any _ 0 32 (by omega) (by omega) (by omega) (by omega) _).mono ?_; rintro e w' ⟨rfl, rfl⟩)
    | (go_at_call 40; refine (Sign_any _ 32 (by omega) (by omega) _).mono ?_; rintro e w' ⟨rfl, rfl⟩)
    | (go_at_call 64; refine (rule_16 _ _ _).mono ?_; rintro e w' ⟨rfl, rfl⟩))
  go_ret2
  exact ⟨rfl, hb.alloc hb.size _⟩
theorem trimw_remw (w : World) : Calls Try.prog 35 #[.string ⟨#[114, 101, 109, 119]⟩, .string ⟨#[119]⟩] w fun e w' => e = .returned (.string ⟨#[114, 101, 109]⟩) ∧ w = w' := by
  have h := TrimSuffix_any ⟨#[114, 101, 109, 119]⟩ ⟨#[119]⟩ (by decide) (by decide) w
  rw [show trimF ⟨#[114, 101, 109, 119]⟩ ⟨#[119]⟩ = ⟨#[114, 101, 109]⟩ from trim_lit [114, 101, 109, 119] [119] [114, 101, 109] (by decide)] at h
  exact h
theorem short_remw (a b : BitVec 64) (w : World) : Calls Try.prog 26 #[.string ⟨#[114, 101, 109, 119]⟩, U a, U b] w fun e w' => e = .returned (.tuple #[U (shortF 8 a b), .bool true]) ∧ Below w.heap.size w w' := by
  have hB := Hd.mk (Below.refl w.heap.size w)
  go_enter Try.func26, Try.ntmps26
  go_wp2_with (first
    | (go_at_call 35; refine (trimw_remw _).mono ?_; rintro e w' ⟨rfl, rfl⟩)
    | (go_at_call 25; refine (find_rem _).mono ?_; rintro e w1 ⟨rfl, hb⟩; obtain ⟨hc, hf⟩ := bcell hb)
    | (go_at_call 39; refine (Bits_any _ 0 32 (by omega) (by omega) (by omega) (by omega) _).mono ?_; rintro e w' ⟨rfl, rfl⟩)
    | (go_at_call 40; refine (Sign_any _ 32 (by omega) (by omega) _).mono ?_; rintro e w' ⟨rfl, rfl⟩)
    | (go_at_call 65; refine (rule_17 _ _ _).mono ?_; rintro e w' ⟨rfl, rfl⟩))
  go_ret2
  exact ⟨rfl, hb.alloc hb.size _⟩
theorem trimw_remuw (w : World) : Calls Try.prog 35 #[.string ⟨#[114, 101, 109, 117, 119]⟩, .string ⟨#[119]⟩] w fun e w' => e = .returned (.string ⟨#[114, 101, 109, 117]⟩) ∧ w = w' := by
  have h := TrimSuffix_any ⟨#[114, 101, 109, 117, 119]⟩ ⟨#[119]⟩ (by decide) (by decide) w
  rw [show trimF ⟨#[114, 101, 109, 117, 119]⟩ ⟨#[119]⟩ = ⟨#[114, 101, 109, 117]⟩ from trim_lit [114, 101, 109, 117, 119] [119] [114, 101, 109, 117] (by decide)] at h
  exact h
theorem short_remuw (a b : BitVec 64) (w : World) : Calls Try.prog 26 #[.string ⟨#[114, 101, 109, 117, 119]⟩, U a, U b] w fun e w' => e = .returned (.tuple #[U (shortF 9 a b), .bool true]) ∧ Below w.heap.size w w' := by
  have hB := Hd.mk (Below.refl w.heap.size w)
  go_enter Try.func26, Try.ntmps26
  go_wp2_with (first
    | (go_at_call 35; refine (trimw_remuw _).mono ?_; rintro e w' ⟨rfl, rfl⟩)
    | (go_at_call 25; refine (find_remu _).mono ?_; rintro e w1 ⟨rfl, hb⟩; obtain ⟨hc, hf⟩ := bcell hb)
    | (go_at_call 39; refine (Bits_any _ 0 32 (by omega) (by omega) (by omega) (by omega) _).mono ?_; rintro e w' ⟨rfl, rfl⟩)
    | (go_at_call 40; refine (Sign_any _ 32 (by omega) (by omega) _).mono ?_; rintro e w' ⟨rfl, rfl⟩)
    | (go_at_call 67; refine (rule_18 _ _ _).mono ?_; rintro e w' ⟨rfl, rfl⟩))
  go_ret2
  exact ⟨rfl, hb.alloc hb.size _⟩
end Go.Proofs.Ytmeebniadgngpaa
