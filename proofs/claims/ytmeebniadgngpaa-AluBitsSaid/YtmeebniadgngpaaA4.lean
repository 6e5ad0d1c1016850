/- A name and a list of names; package alu's plain. No conditions but those that each names. -/
import Derived.Test.YtmeebniadgngpaaA1
namespace Go.Proofs.Ytmeebniadgngpaa
open Go.RowKit
set_option linter.unusedVariables false
set_option linter.unusedSimpArgs false


theorem bytes_ext {s t : ByteArray} (h : s.data.toList = t.data.toList) : s = t := by
  cases s; cases t; congr 1; exact Array.toList_inj.1 h
theorem str_cases (s : ByteArray) : ∀ l : List ByteArray, (∃ t, t ∈ l ∧ s = t) ∨ (∀ t ∈ l, (s.toList == t.data.toList) = false)
  | [] => .inr (by simp)
  | t :: l => by
    rcases str_cases s l with ⟨u, hu, e⟩ | h
    · exact .inl ⟨u, List.mem_cons_of_mem _ hu, e⟩
    · cases hs : (s.toList == t.data.toList)
      · refine .inr fun u hu => ?_
        rcases List.mem_cons.1 hu with rfl | hu
        · exact hs
        · exact h u hu
      · refine .inl ⟨t, by simp, bytes_ext ?_⟩
        rw [← ByteArray.toList_eq s]; simpa using hs

def plainNames : List ByteArray := [⟨#[97, 100, 100, 105]⟩, ⟨#[115, 108, 116, 105]⟩, ⟨#[120, 111, 114, 105]⟩, ⟨#[111, 114, 105]⟩, ⟨#[97, 110, 100, 105]⟩, ⟨#[115, 108, 108, 105]⟩, ⟨#[115, 114, 108, 105]⟩, ⟨#[115, 114, 97, 105]⟩, ⟨#[115, 108, 116, 105, 117]⟩, ⟨#[97, 100, 100, 105, 119]⟩, ⟨#[115, 108, 108, 105, 119]⟩, ⟨#[115, 114, 108, 105, 119]⟩, ⟨#[115, 114, 97, 105, 119]⟩]
def plainF (s : ByteArray) : ByteArray :=
  if s = ⟨#[115, 108, 116, 105, 117]⟩ then ⟨#[115, 108, 116, 117]⟩ else if s = ⟨#[97, 100, 100, 105]⟩ then ⟨#[97, 100, 100]⟩ else
  if s = ⟨#[115, 108, 116, 105]⟩ then ⟨#[115, 108, 116]⟩ else
  if s = ⟨#[120, 111, 114, 105]⟩ then ⟨#[120, 111, 114]⟩ else
  if s = ⟨#[111, 114, 105]⟩ then ⟨#[111, 114]⟩ else
  if s = ⟨#[97, 110, 100, 105]⟩ then ⟨#[97, 110, 100]⟩ else
  if s = ⟨#[115, 108, 108, 105]⟩ then ⟨#[115, 108, 108]⟩ else
  if s = ⟨#[115, 114, 108, 105]⟩ then ⟨#[115, 114, 108]⟩ else
  if s = ⟨#[115, 114, 97, 105]⟩ then ⟨#[115, 114, 97]⟩ else
  if s = ⟨#[97, 100, 100, 105, 119]⟩ then ⟨#[97, 100, 100, 119]⟩ else
  if s = ⟨#[115, 108, 108, 105, 119]⟩ then ⟨#[115, 108, 108, 119]⟩ else
  if s = ⟨#[115, 114, 108, 105, 119]⟩ then ⟨#[115, 114, 108, 119]⟩ else
  if s = ⟨#[115, 114, 97, 105, 119]⟩ then ⟨#[115, 114, 97, 119]⟩ else s
theorem trim_lit (s t r : List UInt8) (h : (if endsB s t then s.take (s.length - t.length) else s) = r) : trimF ⟨s.toArray⟩ ⟨t.toArray⟩ = ⟨r.toArray⟩ := by
  unfold trimF
  subst h
  split <;> rfl

theorem trim_addi (w : World) : Calls Try.prog 35 #[.string ⟨#[97, 100, 100, 105]⟩, .string ⟨#[105]⟩] w fun e w' => e = .returned (.string ⟨#[97, 100, 100]⟩) ∧ w = w' := by
  have h := TrimSuffix_any ⟨#[97, 100, 100, 105]⟩ ⟨#[105]⟩ (by decide) (by decide) w
  rw [show trimF ⟨#[97, 100, 100, 105]⟩ ⟨#[105]⟩ = ⟨#[97, 100, 100]⟩ from trim_lit [97, 100, 100, 105] [105] [97, 100, 100] (by decide)] at h
  exact h
theorem trim_slti (w : World) : Calls Try.prog 35 #[.string ⟨#[115, 108, 116, 105]⟩, .string ⟨#[105]⟩] w fun e w' => e = .returned (.string ⟨#[115, 108, 116]⟩) ∧ w = w' := by
  have h := TrimSuffix_any ⟨#[115, 108, 116, 105]⟩ ⟨#[105]⟩ (by decide) (by decide) w
  rw [show trimF ⟨#[115, 108, 116, 105]⟩ ⟨#[105]⟩ = ⟨#[115, 108, 116]⟩ from trim_lit [115, 108, 116, 105] [105] [115, 108, 116] (by decide)] at h
  exact h
theorem trim_xori (w : World) : Calls Try.prog 35 #[.string ⟨#[120, 111, 114, 105]⟩, .string ⟨#[105]⟩] w fun e w' => e = .returned (.string ⟨#[120, 111, 114]⟩) ∧ w = w' := by
  have h := TrimSuffix_any ⟨#[120, 111, 114, 105]⟩ ⟨#[105]⟩ (by decide) (by decide) w
  rw [show trimF ⟨#[120, 111, 114, 105]⟩ ⟨#[105]⟩ = ⟨#[120, 111, 114]⟩ from trim_lit [120, 111, 114, 105] [105] [120, 111, 114] (by decide)] at h
  exact h
theorem trim_ori (w : World) : Calls Try.prog 35 #[.string ⟨#[111, 114, 105]⟩, .string ⟨#[105]⟩] w fun e w' => e = .returned (.string ⟨#[111, 114]⟩) ∧ w = w' := by
  have h := TrimSuffix_any ⟨#[111, 114, 105]⟩ ⟨#[105]⟩ (by decide) (by decide) w
  rw [show trimF ⟨#[111, 114, 105]⟩ ⟨#[105]⟩ = ⟨#[111, 114]⟩ from trim_lit [111, 114, 105] [105] [111, 114] (by decide)] at h
  exact h
theorem trim_andi (w : World) : Calls Try.prog 35 #[.string ⟨#[97, 110, 100, 105]⟩, .string ⟨#[105]⟩] w fun e w' => e = .returned (.string ⟨#[97, 110, 100]⟩) ∧ w = w' := by
  have h := TrimSuffix_any ⟨#[97, 110, 100, 105]⟩ ⟨#[105]⟩ (by decide) (by decide) w
  rw [show trimF ⟨#[97, 110, 100, 105]⟩ ⟨#[105]⟩ = ⟨#[97, 110, 100]⟩ from trim_lit [97, 110, 100, 105] [105] [97, 110, 100] (by decide)] at h
  exact h
theorem trim_slli (w : World) : Calls Try.prog 35 #[.string ⟨#[115, 108, 108, 105]⟩, .string ⟨#[105]⟩] w fun e w' => e = .returned (.string ⟨#[115, 108, 108]⟩) ∧ w = w' := by
  have h := TrimSuffix_any ⟨#[115, 108, 108, 105]⟩ ⟨#[105]⟩ (by decide) (by decide) w
  rw [show trimF ⟨#[115, 108, 108, 105]⟩ ⟨#[105]⟩ = ⟨#[115, 108, 108]⟩ from trim_lit [115, 108, 108, 105] [105] [115, 108, 108] (by decide)] at h
  exact h
theorem trim_srli (w : World) : Calls Try.prog 35 #[.string ⟨#[115, 114, 108, 105]⟩, .string ⟨#[105]⟩] w fun e w' => e = .returned (.string ⟨#[115, 114, 108]⟩) ∧ w = w' := by
  have h := TrimSuffix_any ⟨#[115, 114, 108, 105]⟩ ⟨#[105]⟩ (by decide) (by decide) w
  rw [show trimF ⟨#[115, 114, 108, 105]⟩ ⟨#[105]⟩ = ⟨#[115, 114, 108]⟩ from trim_lit [115, 114, 108, 105] [105] [115, 114, 108] (by decide)] at h
  exact h
theorem trim_srai (w : World) : Calls Try.prog 35 #[.string ⟨#[115, 114, 97, 105]⟩, .string ⟨#[105]⟩] w fun e w' => e = .returned (.string ⟨#[115, 114, 97]⟩) ∧ w = w' := by
  have h := TrimSuffix_any ⟨#[115, 114, 97, 105]⟩ ⟨#[105]⟩ (by decide) (by decide) w
  rw [show trimF ⟨#[115, 114, 97, 105]⟩ ⟨#[105]⟩ = ⟨#[115, 114, 97]⟩ from trim_lit [115, 114, 97, 105] [105] [115, 114, 97] (by decide)] at h
  exact h
theorem trim_addiw (w : World) : Calls Try.prog 35 #[.string ⟨#[97, 100, 100, 105, 119]⟩, .string ⟨#[105, 119]⟩] w fun e w' => e = .returned (.string ⟨#[97, 100, 100]⟩) ∧ w = w' := by
  have h := TrimSuffix_any ⟨#[97, 100, 100, 105, 119]⟩ ⟨#[105, 119]⟩ (by decide) (by decide) w
  rw [show trimF ⟨#[97, 100, 100, 105, 119]⟩ ⟨#[105, 119]⟩ = ⟨#[97, 100, 100]⟩ from trim_lit [97, 100, 100, 105, 119] [105, 119] [97, 100, 100] (by decide)] at h
  exact h
theorem trim_slliw (w : World) : Calls Try.prog 35 #[.string ⟨#[115, 108, 108, 105, 119]⟩, .string ⟨#[105, 119]⟩] w fun e w' => e = .returned (.string ⟨#[115, 108, 108]⟩) ∧ w = w' := by
  have h := TrimSuffix_any ⟨#[115, 108, 108, 105, 119]⟩ ⟨#[105, 119]⟩ (by decide) (by decide) w
  rw [show trimF ⟨#[115, 108, 108, 105, 119]⟩ ⟨#[105, 119]⟩ = ⟨#[115, 108, 108]⟩ from trim_lit [115, 108, 108, 105, 119] [105, 119] [115, 108, 108] (by decide)] at h
  exact h
theorem trim_srliw (w : World) : Calls Try.prog 35 #[.string ⟨#[115, 114, 108, 105, 119]⟩, .string ⟨#[105, 119]⟩] w fun e w' => e = .returned (.string ⟨#[115, 114, 108]⟩) ∧ w = w' := by
  have h := TrimSuffix_any ⟨#[115, 114, 108, 105, 119]⟩ ⟨#[105, 119]⟩ (by decide) (by decide) w
  rw [show trimF ⟨#[115, 114, 108, 105, 119]⟩ ⟨#[105, 119]⟩ = ⟨#[115, 114, 108]⟩ from trim_lit [115, 114, 108, 105, 119] [105, 119] [115, 114, 108] (by decide)] at h
  exact h
theorem trim_sraiw (w : World) : Calls Try.prog 35 #[.string ⟨#[115, 114, 97, 105, 119]⟩, .string ⟨#[105, 119]⟩] w fun e w' => e = .returned (.string ⟨#[115, 114, 97]⟩) ∧ w = w' := by
  have h := TrimSuffix_any ⟨#[115, 114, 97, 105, 119]⟩ ⟨#[105, 119]⟩ (by decide) (by decide) w
  rw [show trimF ⟨#[115, 114, 97, 105, 119]⟩ ⟨#[105, 119]⟩ = ⟨#[115, 114, 97]⟩ from trim_lit [115, 114, 97, 105, 119] [105, 119] [115, 114, 97] (by decide)] at h
  exact h
theorem plain_addi (w : World) : Calls Try.prog 23 #[.string ⟨#[97, 100, 100, 105]⟩] w fun e w' => e = .returned (.string ⟨#[97, 100, 100]⟩) ∧ w = w' := by
  go_enter Try.func23, Try.ntmps23
  go_wp2_with (go_at_call 35; refine (trim_addi _).mono ?_; rintro e w' ⟨rfl, rfl⟩)
  go_ret
  exact ⟨rfl, rfl⟩
theorem plain_slti (w : World) : Calls Try.prog 23 #[.string ⟨#[115, 108, 116, 105]⟩] w fun e w' => e = .returned (.string ⟨#[115, 108, 116]⟩) ∧ w = w' := by
  go_enter Try.func23, Try.ntmps23
  go_wp2_with (go_at_call 35; refine (trim_slti _).mono ?_; rintro e w' ⟨rfl, rfl⟩)
  go_ret
  exact ⟨rfl, rfl⟩
theorem plain_xori (w : World) : Calls Try.prog 23 #[.string ⟨#[120, 111, 114, 105]⟩] w fun e w' => e = .returned (.string ⟨#[120, 111, 114]⟩) ∧ w = w' := by
  go_enter Try.func23, Try.ntmps23
  go_wp2_with (go_at_call 35; refine (trim_xori _).mono ?_; rintro e w' ⟨rfl, rfl⟩)
  go_ret
  exact ⟨rfl, rfl⟩
theorem plain_ori (w : World) : Calls Try.prog 23 #[.string ⟨#[111, 114, 105]⟩] w fun e w' => e = .returned (.string ⟨#[111, 114]⟩) ∧ w = w' := by
  go_enter Try.func23, Try.ntmps23
  go_wp2_with (go_at_call 35; refine (trim_ori _).mono ?_; rintro e w' ⟨rfl, rfl⟩)
  go_ret
  exact ⟨rfl, rfl⟩
theorem plain_andi (w : World) : Calls Try.prog 23 #[.string ⟨#[97, 110, 100, 105]⟩] w fun e w' => e = .returned (.string ⟨#[97, 110, 100]⟩) ∧ w = w' := by
  go_enter Try.func23, Try.ntmps23
  go_wp2_with (go_at_call 35; refine (trim_andi _).mono ?_; rintro e w' ⟨rfl, rfl⟩)
  go_ret
  exact ⟨rfl, rfl⟩
theorem plain_slli (w : World) : Calls Try.prog 23 #[.string ⟨#[115, 108, 108, 105]⟩] w fun e w' => e = .returned (.string ⟨#[115, 108, 108]⟩) ∧ w = w' := by
  go_enter Try.func23, Try.ntmps23
  go_wp2_with (go_at_call 35; refine (trim_slli _).mono ?_; rintro e w' ⟨rfl, rfl⟩)
  go_ret
  exact ⟨rfl, rfl⟩
theorem plain_srli (w : World) : Calls Try.prog 23 #[.string ⟨#[115, 114, 108, 105]⟩] w fun e w' => e = .returned (.string ⟨#[115, 114, 108]⟩) ∧ w = w' := by
  go_enter Try.func23, Try.ntmps23
  go_wp2_with (go_at_call 35; refine (trim_srli _).mono ?_; rintro e w' ⟨rfl, rfl⟩)
  go_ret
  exact ⟨rfl, rfl⟩
theorem plain_srai (w : World) : Calls Try.prog 23 #[.string ⟨#[115, 114, 97, 105]⟩] w fun e w' => e = .returned (.string ⟨#[115, 114, 97]⟩) ∧ w = w' := by
  go_enter Try.func23, Try.ntmps23
  go_wp2_with (go_at_call 35; refine (trim_srai _).mono ?_; rintro e w' ⟨rfl, rfl⟩)
  go_ret
  exact ⟨rfl, rfl⟩
theorem plain_sltiu (w : World) : Calls Try.prog 23 #[.string ⟨#[115, 108, 116, 105, 117]⟩] w fun e w' => e = .returned (.string ⟨#[115, 108, 116, 117]⟩) ∧ w = w' := by
  go_enter Try.func23, Try.ntmps23
  go_wp2
  go_ret
  exact ⟨rfl, rfl⟩
theorem plain_addiw (w : World) : Calls Try.prog 23 #[.string ⟨#[97, 100, 100, 105, 119]⟩] w fun e w' => e = .returned (.string ⟨#[97, 100, 100, 119]⟩) ∧ w = w' := by
  go_enter Try.func23, Try.ntmps23
  go_wp2_with (go_at_call 35; refine (trim_addiw _).mono ?_; rintro e w' ⟨rfl, rfl⟩)
  go_ret
  exact ⟨rfl, rfl⟩
theorem plain_slliw (w : World) : Calls Try.prog 23 #[.string ⟨#[115, 108, 108, 105, 119]⟩] w fun e w' => e = .returned (.string ⟨#[115, 108, 108, 119]⟩) ∧ w = w' := by
  go_enter Try.func23, Try.ntmps23
  go_wp2_with (go_at_call 35; refine (trim_slliw _).mono ?_; rintro e w' ⟨rfl, rfl⟩)
  go_ret
  exact ⟨rfl, rfl⟩
theorem plain_srliw (w : World) : Calls Try.prog 23 #[.string ⟨#[115, 114, 108, 105, 119]⟩] w fun e w' => e = .returned (.string ⟨#[115, 114, 108, 119]⟩) ∧ w = w' := by
  go_enter Try.func23, Try.ntmps23
  go_wp2_with (go_at_call 35; refine (trim_srliw _).mono ?_; rintro e w' ⟨rfl, rfl⟩)
  go_ret
  exact ⟨rfl, rfl⟩
theorem plain_sraiw (w : World) : Calls Try.prog 23 #[.string ⟨#[115, 114, 97, 105, 119]⟩] w fun e w' => e = .returned (.string ⟨#[115, 114, 97, 119]⟩) ∧ w = w' := by
  go_enter Try.func23, Try.ntmps23
  go_wp2_with (go_at_call 35; refine (trim_sraiw _).mono ?_; rintro e w' ⟨rfl, rfl⟩)
  go_ret
  exact ⟨rfl, rfl⟩
theorem plain_other (s : ByteArray) (H : ∀ t ∈ plainNames, (s.toList == t.data.toList) = false) (w : World) : Calls Try.prog 23 #[.string s] w fun e w' => e = .returned (.string s) ∧ w = w' := by
  have h_addi : (s.toList == [97, 100, 100, 105]) = false := H ⟨#[97, 100, 100, 105]⟩ (by simp [plainNames])
  have h_slti : (s.toList == [115, 108, 116, 105]) = false := H ⟨#[115, 108, 116, 105]⟩ (by simp [plainNames])
  have h_xori : (s.toList == [120, 111, 114, 105]) = false := H ⟨#[120, 111, 114, 105]⟩ (by simp [plainNames])
  have h_ori : (s.toList == [111, 114, 105]) = false := H ⟨#[111, 114, 105]⟩ (by simp [plainNames])
  have h_andi : (s.toList == [97, 110, 100, 105]) = false := H ⟨#[97, 110, 100, 105]⟩ (by simp [plainNames])
  have h_slli : (s.toList == [115, 108, 108, 105]) = false := H ⟨#[115, 108, 108, 105]⟩ (by simp [plainNames])
  have h_srli : (s.toList == [115, 114, 108, 105]) = false := H ⟨#[115, 114, 108, 105]⟩ (by simp [plainNames])
  have h_srai : (s.toList == [115, 114, 97, 105]) = false := H ⟨#[115, 114, 97, 105]⟩ (by simp [plainNames])
  have h_sltiu : (s.toList == [115, 108, 116, 105, 117]) = false := H ⟨#[115, 108, 116, 105, 117]⟩ (by simp [plainNames])
  have h_addiw : (s.toList == [97, 100, 100, 105, 119]) = false := H ⟨#[97, 100, 100, 105, 119]⟩ (by simp [plainNames])
  have h_slliw : (s.toList == [115, 108, 108, 105, 119]) = false := H ⟨#[115, 108, 108, 105, 119]⟩ (by simp [plainNames])
  have h_srliw : (s.toList == [115, 114, 108, 105, 119]) = false := H ⟨#[115, 114, 108, 105, 119]⟩ (by simp [plainNames])
  have h_sraiw : (s.toList == [115, 114, 97, 105, 119]) = false := H ⟨#[115, 114, 97, 105, 119]⟩ (by simp [plainNames])
  clear H
  go_enter Try.func23, Try.ntmps23
  go_wp2
  go_ret
  exact ⟨rfl, rfl⟩
theorem plain_any (s : ByteArray) (w : World) : Calls Try.prog 23 #[.string s] w fun e w' => e = .returned (.string (plainF s)) ∧ w = w' := by
  rcases str_cases s plainNames with ⟨t, ht, rfl⟩ | H
  · simp only [plainNames, List.mem_cons, List.not_mem_nil, or_false] at ht
    rcases ht with rfl | rfl | rfl | rfl | rfl | rfl | rfl | rfl | rfl | rfl | rfl | rfl | rfl
    · exact plain_addi w
    · exact plain_slti w
    · exact plain_xori w
    · exact plain_ori w
    · exact plain_andi w
    · exact plain_slli w
    · exact plain_srli w
    · exact plain_srai w
    · exact plain_sltiu w
    · exact plain_addiw w
    · exact plain_slliw w
    · exact plain_srliw w
    · exact plain_sraiw w
  · have e : plainF s = s := by
      unfold plainF
      have ne : ∀ t ∈ plainNames, s ≠ t := by
        intro t ht e
        have := H t ht
        rw [e, ByteArray.toList_eq] at this
        simp at this
      simp only [plainNames, List.mem_cons, List.not_mem_nil, or_false, forall_eq_or_imp, forall_eq] at ne
      obtain ⟨n_addi, n_slti, n_xori, n_ori, n_andi, n_slli, n_srli, n_srai, n_sltiu, n_addiw, n_slliw, n_srliw, n_sraiw⟩ := ne
      rw [if_neg n_sltiu, if_neg n_addi, if_neg n_slti, if_neg n_xori, if_neg n_ori, if_neg n_andi, if_neg n_slli, if_neg n_srli, if_neg n_srai, if_neg n_addiw, if_neg n_slliw, if_neg n_srliw, if_neg n_sraiw]
    rw [e]
    exact plain_other s H w
end Go.Proofs.Ytmeebniadgngpaa
