/- The operations of the reference of chapter 4: what high gives. No conditions. -/
import Derived.Test.YtmeebniadgngpaaO1
namespace Go.Proofs.Ytmeebniadgngpaa
open Go.RowKit
set_option linter.unusedVariables false
set_option linter.unusedSimpArgs false

set_option maxRecDepth 100000 in
theorem high_37 (w : World) : Calls Try.prog 22 #[.int .i64 37] w fun e w' => e = .returned (.agg (opAt 37).cells) ∧ Below w.heap.size w w' := by
  go_enter Try.func22, Try.ntmps22
  go_wp2
  refine bodyPost_ret (v := .agg (opAt 37).cells) (by simp [results, Try.results22, go_sem]; rfl) rfl ⟨rfl, (Below.refl _ _).alloc (Nat.le_refl _) _⟩
set_option maxRecDepth 100000 in
theorem high_38 (w : World) : Calls Try.prog 22 #[.int .i64 38] w fun e w' => e = .returned (.agg (opAt 38).cells) ∧ Below w.heap.size w w' := by
  go_enter Try.func22, Try.ntmps22
  go_wp2
  refine bodyPost_ret (v := .agg (opAt 38).cells) (by simp [results, Try.results22, go_sem]; rfl) rfl ⟨rfl, (Below.refl _ _).alloc (Nat.le_refl _) _⟩
set_option maxRecDepth 100000 in
theorem high_39 (w : World) : Calls Try.prog 22 #[.int .i64 39] w fun e w' => e = .returned (.agg (opAt 39).cells) ∧ Below w.heap.size w w' := by
  go_enter Try.func22, Try.ntmps22
  go_wp2
  refine bodyPost_ret (v := .agg (opAt 39).cells) (by simp [results, Try.results22, go_sem]; rfl) rfl ⟨rfl, (Below.refl _ _).alloc (Nat.le_refl _) _⟩
set_option maxRecDepth 100000 in
theorem high_40 (w : World) : Calls Try.prog 22 #[.int .i64 40] w fun e w' => e = .returned (.agg (opAt 40).cells) ∧ Below w.heap.size w w' := by
  go_enter Try.func22, Try.ntmps22
  go_wp2
  refine bodyPost_ret (v := .agg (opAt 40).cells) (by simp [results, Try.results22, go_sem]; rfl) rfl ⟨rfl, (Below.refl _ _).alloc (Nat.le_refl _) _⟩
set_option maxRecDepth 100000 in
theorem high_41 (w : World) : Calls Try.prog 22 #[.int .i64 41] w fun e w' => e = .returned (.agg (opAt 41).cells) ∧ Below w.heap.size w w' := by
  go_enter Try.func22, Try.ntmps22
  go_wp2
  refine bodyPost_ret (v := .agg (opAt 41).cells) (by simp [results, Try.results22, go_sem]; rfl) rfl ⟨rfl, (Below.refl _ _).alloc (Nat.le_refl _) _⟩
set_option maxRecDepth 100000 in
theorem high_42 (w : World) : Calls Try.prog 22 #[.int .i64 42] w fun e w' => e = .returned (.agg (opAt 42).cells) ∧ Below w.heap.size w w' := by
  go_enter Try.func22, Try.ntmps22
  go_wp2
  refine bodyPost_ret (v := .agg (opAt 42).cells) (by simp [results, Try.results22, go_sem]; rfl) rfl ⟨rfl, (Below.refl _ _).alloc (Nat.le_refl _) _⟩
set_option maxRecDepth 100000 in
theorem high_43 (w : World) : Calls Try.prog 22 #[.int .i64 43] w fun e w' => e = .returned (.agg (opAt 43).cells) ∧ Below w.heap.size w w' := by
  go_enter Try.func22, Try.ntmps22
  go_wp2
  refine bodyPost_ret (v := .agg (opAt 43).cells) (by simp [results, Try.results22, go_sem]; rfl) rfl ⟨rfl, (Below.refl _ _).alloc (Nat.le_refl _) _⟩
set_option maxRecDepth 100000 in
theorem high_44 (w : World) : Calls Try.prog 22 #[.int .i64 44] w fun e w' => e = .returned (.agg (opAt 44).cells) ∧ Below w.heap.size w w' := by
  go_enter Try.func22, Try.ntmps22
  go_wp2
  refine bodyPost_ret (v := .agg (opAt 44).cells) (by simp [results, Try.results22, go_sem]; rfl) rfl ⟨rfl, (Below.refl _ _).alloc (Nat.le_refl _) _⟩
set_option maxRecDepth 100000 in
theorem high_45 (w : World) : Calls Try.prog 22 #[.int .i64 45] w fun e w' => e = .returned (.agg (opAt 45).cells) ∧ Below w.heap.size w w' := by
  go_enter Try.func22, Try.ntmps22
  go_wp2
  refine bodyPost_ret (v := .agg (opAt 45).cells) (by simp [results, Try.results22, go_sem]; rfl) rfl ⟨rfl, (Below.refl _ _).alloc (Nat.le_refl _) _⟩
set_option maxRecDepth 100000 in
theorem high_46 (w : World) : Calls Try.prog 22 #[.int .i64 46] w fun e w' => e = .returned (.agg (opAt 46).cells) ∧ Below w.heap.size w w' := by
  go_enter Try.func22, Try.ntmps22
  go_wp2
  refine bodyPost_ret (v := .agg (opAt 46).cells) (by simp [results, Try.results22, go_sem]; rfl) rfl ⟨rfl, (Below.refl _ _).alloc (Nat.le_refl _) _⟩
set_option maxRecDepth 100000 in
theorem high_47 (w : World) : Calls Try.prog 22 #[.int .i64 47] w fun e w' => e = .returned (.agg (opAt 47).cells) ∧ Below w.heap.size w w' := by
  go_enter Try.func22, Try.ntmps22
  go_wp2
  refine bodyPost_ret (v := .agg (opAt 47).cells) (by simp [results, Try.results22, go_sem]; rfl) rfl ⟨rfl, (Below.refl _ _).alloc (Nat.le_refl _) _⟩
set_option maxRecDepth 100000 in
theorem high_48 (w : World) : Calls Try.prog 22 #[.int .i64 48] w fun e w' => e = .returned (.agg (opAt 48).cells) ∧ Below w.heap.size w w' := by
  go_enter Try.func22, Try.ntmps22
  go_wp2
  refine bodyPost_ret (v := .agg (opAt 48).cells) (by simp [results, Try.results22, go_sem]; rfl) rfl ⟨rfl, (Below.refl _ _).alloc (Nat.le_refl _) _⟩
set_option maxRecDepth 100000 in
theorem high_49 (w : World) : Calls Try.prog 22 #[.int .i64 49] w fun e w' => e = .returned (.agg (opAt 49).cells) ∧ Below w.heap.size w w' := by
  go_enter Try.func22, Try.ntmps22
  go_wp2
  refine bodyPost_ret (v := .agg (opAt 49).cells) (by simp [results, Try.results22, go_sem]; rfl) rfl ⟨rfl, (Below.refl _ _).alloc (Nat.le_refl _) _⟩
set_option maxRecDepth 100000 in
theorem high_50 (w : World) : Calls Try.prog 22 #[.int .i64 50] w fun e w' => e = .returned (.agg (opAt 50).cells) ∧ Below w.heap.size w w' := by
  go_enter Try.func22, Try.ntmps22
  go_wp2
  refine bodyPost_ret (v := .agg (opAt 50).cells) (by simp [results, Try.results22, go_sem]; rfl) rfl ⟨rfl, (Below.refl _ _).alloc (Nat.le_refl _) _⟩
set_option maxRecDepth 100000 in
theorem high_51 (w : World) : Calls Try.prog 22 #[.int .i64 51] w fun e w' => e = .returned (.agg (opAt 51).cells) ∧ Below w.heap.size w w' := by
  go_enter Try.func22, Try.ntmps22
  go_wp2
  refine bodyPost_ret (v := .agg (opAt 51).cells) (by simp [results, Try.results22, go_sem]; rfl) rfl ⟨rfl, (Below.refl _ _).alloc (Nat.le_refl _) _⟩
set_option maxRecDepth 100000 in
theorem high_52 (w : World) : Calls Try.prog 22 #[.int .i64 52] w fun e w' => e = .returned (.agg (opAt 52).cells) ∧ Below w.heap.size w w' := by
  go_enter Try.func22, Try.ntmps22
  go_wp2
  refine bodyPost_ret (v := .agg (opAt 52).cells) (by simp [results, Try.results22, go_sem]; rfl) rfl ⟨rfl, (Below.refl _ _).alloc (Nat.le_refl _) _⟩
set_option maxRecDepth 100000 in
theorem high_53 (w : World) : Calls Try.prog 22 #[.int .i64 53] w fun e w' => e = .returned (.agg (opAt 53).cells) ∧ Below w.heap.size w w' := by
  go_enter Try.func22, Try.ntmps22
  go_wp2
  refine bodyPost_ret (v := .agg (opAt 53).cells) (by simp [results, Try.results22, go_sem]; rfl) rfl ⟨rfl, (Below.refl _ _).alloc (Nat.le_refl _) _⟩
set_option maxRecDepth 100000 in
theorem high_54 (w : World) : Calls Try.prog 22 #[.int .i64 54] w fun e w' => e = .returned (.agg (opAt 54).cells) ∧ Below w.heap.size w w' := by
  go_enter Try.func22, Try.ntmps22
  go_wp2
  refine bodyPost_ret (v := .agg (opAt 54).cells) (by simp [results, Try.results22, go_sem]; rfl) rfl ⟨rfl, (Below.refl _ _).alloc (Nat.le_refl _) _⟩
set_option maxRecDepth 100000 in
theorem high_55 (w : World) : Calls Try.prog 22 #[.int .i64 55] w fun e w' => e = .returned (.agg (opAt 55).cells) ∧ Below w.heap.size w w' := by
  go_enter Try.func22, Try.ntmps22
  go_wp2
  refine bodyPost_ret (v := .agg (opAt 55).cells) (by simp [results, Try.results22, go_sem]; rfl) rfl ⟨rfl, (Below.refl _ _).alloc (Nat.le_refl _) _⟩
set_option maxRecDepth 100000 in
theorem high_56 (w : World) : Calls Try.prog 22 #[.int .i64 56] w fun e w' => e = .returned (.agg (opAt 56).cells) ∧ Below w.heap.size w w' := by
  go_enter Try.func22, Try.ntmps22
  go_wp2
  refine bodyPost_ret (v := .agg (opAt 56).cells) (by simp [results, Try.results22, go_sem]; rfl) rfl ⟨rfl, (Below.refl _ _).alloc (Nat.le_refl _) _⟩
set_option maxRecDepth 100000 in
theorem high_57 (w : World) : Calls Try.prog 22 #[.int .i64 57] w fun e w' => e = .returned (.agg (opAt 57).cells) ∧ Below w.heap.size w w' := by
  go_enter Try.func22, Try.ntmps22
  go_wp2
  refine bodyPost_ret (v := .agg (opAt 57).cells) (by simp [results, Try.results22, go_sem]; rfl) rfl ⟨rfl, (Below.refl _ _).alloc (Nat.le_refl _) _⟩
set_option maxRecDepth 100000 in
theorem high_58 (w : World) : Calls Try.prog 22 #[.int .i64 58] w fun e w' => e = .returned (.agg (opAt 58).cells) ∧ Below w.heap.size w w' := by
  go_enter Try.func22, Try.ntmps22
  go_wp2
  refine bodyPost_ret (v := .agg (opAt 58).cells) (by simp [results, Try.results22, go_sem]; rfl) rfl ⟨rfl, (Below.refl _ _).alloc (Nat.le_refl _) _⟩
set_option maxRecDepth 100000 in
theorem high_59 (w : World) : Calls Try.prog 22 #[.int .i64 59] w fun e w' => e = .returned (.agg (opAt 59).cells) ∧ Below w.heap.size w w' := by
  go_enter Try.func22, Try.ntmps22
  go_wp2
  refine bodyPost_ret (v := .agg (opAt 59).cells) (by simp [results, Try.results22, go_sem]; rfl) rfl ⟨rfl, (Below.refl _ _).alloc (Nat.le_refl _) _⟩
set_option maxRecDepth 100000 in
theorem high_60 (w : World) : Calls Try.prog 22 #[.int .i64 60] w fun e w' => e = .returned (.agg (opAt 60).cells) ∧ Below w.heap.size w w' := by
  go_enter Try.func22, Try.ntmps22
  go_wp2
  refine bodyPost_ret (v := .agg (opAt 60).cells) (by simp [results, Try.results22, go_sem]; rfl) rfl ⟨rfl, (Below.refl _ _).alloc (Nat.le_refl _) _⟩
set_option maxRecDepth 100000 in
theorem high_61 (w : World) : Calls Try.prog 22 #[.int .i64 61] w fun e w' => e = .returned (.agg (opAt 61).cells) ∧ Below w.heap.size w w' := by
  go_enter Try.func22, Try.ntmps22
  go_wp2
  refine bodyPost_ret (v := .agg (opAt 61).cells) (by simp [results, Try.results22, go_sem]; rfl) rfl ⟨rfl, (Below.refl _ _).alloc (Nat.le_refl _) _⟩
set_option maxRecDepth 100000 in
theorem high_62 (w : World) : Calls Try.prog 22 #[.int .i64 62] w fun e w' => e = .returned (.agg (opAt 62).cells) ∧ Below w.heap.size w w' := by
  go_enter Try.func22, Try.ntmps22
  go_wp2
  refine bodyPost_ret (v := .agg (opAt 62).cells) (by simp [results, Try.results22, go_sem]; rfl) rfl ⟨rfl, (Below.refl _ _).alloc (Nat.le_refl _) _⟩
set_option maxRecDepth 100000 in
theorem high_63 (w : World) : Calls Try.prog 22 #[.int .i64 63] w fun e w' => e = .returned (.agg (opAt 63).cells) ∧ Below w.heap.size w w' := by
  go_enter Try.func22, Try.ntmps22
  go_wp2
  refine bodyPost_ret (v := .agg (opAt 63).cells) (by simp [results, Try.results22, go_sem]; rfl) rfl ⟨rfl, (Below.refl _ _).alloc (Nat.le_refl _) _⟩
set_option maxRecDepth 100000 in
theorem high_64 (w : World) : Calls Try.prog 22 #[.int .i64 64] w fun e w' => e = .returned (.agg (opAt 64).cells) ∧ Below w.heap.size w w' := by
  go_enter Try.func22, Try.ntmps22
  go_wp2
  refine bodyPost_ret (v := .agg (opAt 64).cells) (by simp [results, Try.results22, go_sem]; rfl) rfl ⟨rfl, (Below.refl _ _).alloc (Nat.le_refl _) _⟩
set_option maxRecDepth 100000 in
theorem high_65 (w : World) : Calls Try.prog 22 #[.int .i64 65] w fun e w' => e = .returned (.agg (opAt 65).cells) ∧ Below w.heap.size w w' := by
  go_enter Try.func22, Try.ntmps22
  go_wp2
  refine bodyPost_ret (v := .agg (opAt 65).cells) (by simp [results, Try.results22, go_sem]; rfl) rfl ⟨rfl, (Below.refl _ _).alloc (Nat.le_refl _) _⟩
set_option maxRecDepth 100000 in
theorem high_66 (w : World) : Calls Try.prog 22 #[.int .i64 66] w fun e w' => e = .returned (.agg (opAt 66).cells) ∧ Below w.heap.size w w' := by
  go_enter Try.func22, Try.ntmps22
  go_wp2
  refine bodyPost_ret (v := .agg (opAt 66).cells) (by simp [results, Try.results22, go_sem]; rfl) rfl ⟨rfl, (Below.refl _ _).alloc (Nat.le_refl _) _⟩
set_option maxRecDepth 100000 in
theorem high_67 (w : World) : Calls Try.prog 22 #[.int .i64 67] w fun e w' => e = .returned (.agg (opAt 67).cells) ∧ Below w.heap.size w w' := by
  go_enter Try.func22, Try.ntmps22
  go_wp2
  refine bodyPost_ret (v := .agg (opAt 67).cells) (by simp [results, Try.results22, go_sem]; rfl) rfl ⟨rfl, (Below.refl _ _).alloc (Nat.le_refl _) _⟩
set_option maxRecDepth 100000 in
theorem high_68 (w : World) : Calls Try.prog 22 #[.int .i64 68] w fun e w' => e = .returned (.agg (opAt 68).cells) ∧ Below w.heap.size w w' := by
  go_enter Try.func22, Try.ntmps22
  go_wp2
  refine bodyPost_ret (v := .agg (opAt 68).cells) (by simp [results, Try.results22, go_sem]; rfl) rfl ⟨rfl, (Below.refl _ _).alloc (Nat.le_refl _) _⟩
set_option maxRecDepth 100000 in
theorem high_69 (w : World) : Calls Try.prog 22 #[.int .i64 69] w fun e w' => e = .returned (.agg (opAt 69).cells) ∧ Below w.heap.size w w' := by
  go_enter Try.func22, Try.ntmps22
  go_wp2
  refine bodyPost_ret (v := .agg (opAt 69).cells) (by simp [results, Try.results22, go_sem]; rfl) rfl ⟨rfl, (Below.refl _ _).alloc (Nat.le_refl _) _⟩
set_option maxRecDepth 100000 in
theorem high_70 (w : World) : Calls Try.prog 22 #[.int .i64 70] w fun e w' => e = .returned (.agg (opAt 70).cells) ∧ Below w.heap.size w w' := by
  go_enter Try.func22, Try.ntmps22
  go_wp2
  refine bodyPost_ret (v := .agg (opAt 70).cells) (by simp [results, Try.results22, go_sem]; rfl) rfl ⟨rfl, (Below.refl _ _).alloc (Nat.le_refl _) _⟩
set_option maxRecDepth 100000 in
theorem high_71 (w : World) : Calls Try.prog 22 #[.int .i64 71] w fun e w' => e = .returned (.agg (opAt 71).cells) ∧ Below w.heap.size w w' := by
  go_enter Try.func22, Try.ntmps22
  go_wp2
  refine bodyPost_ret (v := .agg (opAt 71).cells) (by simp [results, Try.results22, go_sem]; rfl) rfl ⟨rfl, (Below.refl _ _).alloc (Nat.le_refl _) _⟩
set_option maxRecDepth 100000 in
theorem high_72 (w : World) : Calls Try.prog 22 #[.int .i64 72] w fun e w' => e = .returned (.agg (opAt 72).cells) ∧ Below w.heap.size w w' := by
  go_enter Try.func22, Try.ntmps22
  go_wp2
  refine bodyPost_ret (v := .agg (opAt 72).cells) (by simp [results, Try.results22, go_sem]; rfl) rfl ⟨rfl, (Below.refl _ _).alloc (Nat.le_refl _) _⟩
set_option maxRecDepth 100000 in
theorem high_73 (w : World) : Calls Try.prog 22 #[.int .i64 73] w fun e w' => e = .returned (.agg (opAt 73).cells) ∧ Below w.heap.size w w' := by
  go_enter Try.func22, Try.ntmps22
  go_wp2
  refine bodyPost_ret (v := .agg (opAt 73).cells) (by simp [results, Try.results22, go_sem]; rfl) rfl ⟨rfl, (Below.refl _ _).alloc (Nat.le_refl _) _⟩
set_option maxRecDepth 100000 in
theorem high_74 (w : World) : Calls Try.prog 22 #[.int .i64 74] w fun e w' => e = .returned (.agg (opAt 74).cells) ∧ Below w.heap.size w w' := by
  go_enter Try.func22, Try.ntmps22
  go_wp2
  refine bodyPost_ret (v := .agg (opAt 74).cells) (by simp [results, Try.results22, go_sem]; rfl) rfl ⟨rfl, (Below.refl _ _).alloc (Nat.le_refl _) _⟩
set_option maxRecDepth 100000 in
theorem high_75 (w : World) : Calls Try.prog 22 #[.int .i64 75] w fun e w' => e = .returned (.agg (opAt 75).cells) ∧ Below w.heap.size w w' := by
  go_enter Try.func22, Try.ntmps22
  go_wp2
  refine bodyPost_ret (v := .agg (opAt 75).cells) (by simp [results, Try.results22, go_sem]; rfl) rfl ⟨rfl, (Below.refl _ _).alloc (Nat.le_refl _) _⟩
set_option maxRecDepth 100000 in
theorem high_76 (w : World) : Calls Try.prog 22 #[.int .i64 76] w fun e w' => e = .returned (.agg (opAt 76).cells) ∧ Below w.heap.size w w' := by
  go_enter Try.func22, Try.ntmps22
  go_wp2
  refine bodyPost_ret (v := .agg (opAt 76).cells) (by simp [results, Try.results22, go_sem]; rfl) rfl ⟨rfl, (Below.refl _ _).alloc (Nat.le_refl _) _⟩
set_option maxRecDepth 100000 in
theorem high_77 (w : World) : Calls Try.prog 22 #[.int .i64 77] w fun e w' => e = .returned (.agg (opAt 77).cells) ∧ Below w.heap.size w w' := by
  go_enter Try.func22, Try.ntmps22
  go_wp2
  refine bodyPost_ret (v := .agg (opAt 77).cells) (by simp [results, Try.results22, go_sem]; rfl) rfl ⟨rfl, (Below.refl _ _).alloc (Nat.le_refl _) _⟩
set_option maxRecDepth 100000 in
theorem high_78 (w : World) : Calls Try.prog 22 #[.int .i64 78] w fun e w' => e = .returned (.agg (opAt 78).cells) ∧ Below w.heap.size w w' := by
  go_enter Try.func22, Try.ntmps22
  go_wp2
  refine bodyPost_ret (v := .agg (opAt 78).cells) (by simp [results, Try.results22, go_sem]; rfl) rfl ⟨rfl, (Below.refl _ _).alloc (Nat.le_refl _) _⟩
set_option maxRecDepth 100000 in
theorem high_79 (w : World) : Calls Try.prog 22 #[.int .i64 79] w fun e w' => e = .returned (.agg (opAt 79).cells) ∧ Below w.heap.size w w' := by
  go_enter Try.func22, Try.ntmps22
  go_wp2
  refine bodyPost_ret (v := .agg (opAt 79).cells) (by simp [results, Try.results22, go_sem]; rfl) rfl ⟨rfl, (Below.refl _ _).alloc (Nat.le_refl _) _⟩
set_option maxRecDepth 100000 in
theorem high_80 (w : World) : Calls Try.prog 22 #[.int .i64 80] w fun e w' => e = .returned (.agg (opAt 80).cells) ∧ Below w.heap.size w w' := by
  go_enter Try.func22, Try.ntmps22
  go_wp2
  refine bodyPost_ret (v := .agg (opAt 80).cells) (by simp [results, Try.results22, go_sem]; rfl) rfl ⟨rfl, (Below.refl _ _).alloc (Nat.le_refl _) _⟩
set_option maxRecDepth 100000 in
theorem high_81 (w : World) : Calls Try.prog 22 #[.int .i64 81] w fun e w' => e = .returned (.agg (opAt 81).cells) ∧ Below w.heap.size w w' := by
  go_enter Try.func22, Try.ntmps22
  go_wp2
  refine bodyPost_ret (v := .agg (opAt 81).cells) (by simp [results, Try.results22, go_sem]; rfl) rfl ⟨rfl, (Below.refl _ _).alloc (Nat.le_refl _) _⟩
set_option maxRecDepth 100000 in
theorem high_82 (w : World) : Calls Try.prog 22 #[.int .i64 82] w fun e w' => e = .returned (.agg (opAt 82).cells) ∧ Below w.heap.size w w' := by
  go_enter Try.func22, Try.ntmps22
  go_wp2
  refine bodyPost_ret (v := .agg (opAt 82).cells) (by simp [results, Try.results22, go_sem]; rfl) rfl ⟨rfl, (Below.refl _ _).alloc (Nat.le_refl _) _⟩
set_option maxRecDepth 100000 in
theorem high_out (op : Int) (h : op < 37 ∨ 82 < op) (w : World) : Calls Try.prog 22 #[.int .i64 op] w fun e w' => e = .returned (.agg opNone.cells) ∧ Below w.heap.size w w' := by
  have h37 : (op == 37) = false := by simp; omega
  have h38 : (op == 38) = false := by simp; omega
  have h39 : (op == 39) = false := by simp; omega
  have h40 : (op == 40) = false := by simp; omega
  have h41 : (op == 41) = false := by simp; omega
  have h42 : (op == 42) = false := by simp; omega
  have h43 : (op == 43) = false := by simp; omega
  have h44 : (op == 44) = false := by simp; omega
  have h45 : (op == 45) = false := by simp; omega
  have h46 : (op == 46) = false := by simp; omega
  have h47 : (op == 47) = false := by simp; omega
  have h48 : (op == 48) = false := by simp; omega
  have h49 : (op == 49) = false := by simp; omega
  have h50 : (op == 50) = false := by simp; omega
  have h51 : (op == 51) = false := by simp; omega
  have h52 : (op == 52) = false := by simp; omega
  have h53 : (op == 53) = false := by simp; omega
  have h54 : (op == 54) = false := by simp; omega
  have h55 : (op == 55) = false := by simp; omega
  have h56 : (op == 56) = false := by simp; omega
  have h57 : (op == 57) = false := by simp; omega
  have h58 : (op == 58) = false := by simp; omega
  have h59 : (op == 59) = false := by simp; omega
  have h60 : (op == 60) = false := by simp; omega
  have h61 : (op == 61) = false := by simp; omega
  have h62 : (op == 62) = false := by simp; omega
  have h63 : (op == 63) = false := by simp; omega
  have h64 : (op == 64) = false := by simp; omega
  have h65 : (op == 65) = false := by simp; omega
  have h66 : (op == 66) = false := by simp; omega
  have h67 : (op == 67) = false := by simp; omega
  have h68 : (op == 68) = false := by simp; omega
  have h69 : (op == 69) = false := by simp; omega
  have h70 : (op == 70) = false := by simp; omega
  have h71 : (op == 71) = false := by simp; omega
  have h72 : (op == 72) = false := by simp; omega
  have h73 : (op == 73) = false := by simp; omega
  have h74 : (op == 74) = false := by simp; omega
  have h75 : (op == 75) = false := by simp; omega
  have h76 : (op == 76) = false := by simp; omega
  have h77 : (op == 77) = false := by simp; omega
  have h78 : (op == 78) = false := by simp; omega
  have h79 : (op == 79) = false := by simp; omega
  have h80 : (op == 80) = false := by simp; omega
  have h81 : (op == 81) = false := by simp; omega
  have h82 : (op == 82) = false := by simp; omega
  clear h
  go_enter Try.func22, Try.ntmps22
  go_wp2
  refine bodyPost_ret (v := .agg opNone.cells) (by simp [results, Try.results22, go_sem]; rfl) rfl ⟨rfl, (Below.refl _ _).alloc (Nat.le_refl _) _⟩
theorem opHigh_any (op : Int) (h : 36 < op) (w : World) : Calls Try.prog 22 #[.int .i64 op] w fun e w' => e = .returned (.agg (opAt op).cells) ∧ Below w.heap.size w w' := by
  by_cases ho : op < 37 ∨ 82 < op
  · rw [opAt_out op (by omega)]; exact high_out op ho w
  · have hc : op = 37 ∨ op = 38 ∨ op = 39 ∨ op = 40 ∨ op = 41 ∨ op = 42 ∨ op = 43 ∨ op = 44 ∨ op = 45 ∨ op = 46 ∨ op = 47 ∨ op = 48 ∨ op = 49 ∨ op = 50 ∨ op = 51 ∨ op = 52 ∨ op = 53 ∨ op = 54 ∨ op = 55 ∨ op = 56 ∨ op = 57 ∨ op = 58 ∨ op = 59 ∨ op = 60 ∨ op = 61 ∨ op = 62 ∨ op = 63 ∨ op = 64 ∨ op = 65 ∨ op = 66 ∨ op = 67 ∨ op = 68 ∨ op = 69 ∨ op = 70 ∨ op = 71 ∨ op = 72 ∨ op = 73 ∨ op = 74 ∨ op = 75 ∨ op = 76 ∨ op = 77 ∨ op = 78 ∨ op = 79 ∨ op = 80 ∨ op = 81 ∨ op = 82 := by omega
    rcases hc with rfl | rfl | rfl | rfl | rfl | rfl | rfl | rfl | rfl | rfl | rfl | rfl | rfl | rfl | rfl | rfl | rfl | rfl | rfl | rfl | rfl | rfl | rfl | rfl | rfl | rfl | rfl | rfl | rfl | rfl | rfl | rfl | rfl | rfl | rfl | rfl | rfl | rfl | rfl | rfl | rfl | rfl | rfl | rfl | rfl | rfl
    · exact high_37 w
    · exact high_38 w
    · exact high_39 w
    · exact high_40 w
    · exact high_41 w
    · exact high_42 w
    · exact high_43 w
    · exact high_44 w
    · exact high_45 w
    · exact high_46 w
    · exact high_47 w
    · exact high_48 w
    · exact high_49 w
    · exact high_50 w
    · exact high_51 w
    · exact high_52 w
    · exact high_53 w
    · exact high_54 w
    · exact high_55 w
    · exact high_56 w
    · exact high_57 w
    · exact high_58 w
    · exact high_59 w
    · exact high_60 w
    · exact high_61 w
    · exact high_62 w
    · exact high_63 w
    · exact high_64 w
    · exact high_65 w
    · exact high_66 w
    · exact high_67 w
    · exact high_68 w
    · exact high_69 w
    · exact high_70 w
    · exact high_71 w
    · exact high_72 w
    · exact high_73 w
    · exact high_74 w
    · exact high_75 w
    · exact high_76 w
    · exact high_77 w
    · exact high_78 w
    · exact high_79 w
    · exact high_80 w
    · exact high_81 w
    · exact high_82 w
end Go.Proofs.Ytmeebniadgngpaa
