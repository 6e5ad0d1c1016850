/- The operations of the reference of chapter 4: what low gives. No conditions. -/
import Derived.Test.YtmeebniadgngpaaO1
namespace Go.Proofs.Ytmeebniadgngpaa
open Go.RowKit
set_option linter.unusedVariables false
set_option linter.unusedSimpArgs false

set_option maxRecDepth 100000 in
theorem low_1 (w : World) : Calls Try.prog 21 #[.int .i64 1] w fun e w' => e = .returned (.agg (opAt 1).cells) ∧ Below w.heap.size w w' := by
  go_enter Try.func21, Try.ntmps21
  go_wp2
  refine bodyPost_ret (v := .agg (opAt 1).cells) (by simp [results, Try.results21, go_sem]; rfl) rfl ⟨rfl, (Below.refl _ _).alloc (Nat.le_refl _) _⟩
set_option maxRecDepth 100000 in
theorem low_2 (w : World) : Calls Try.prog 21 #[.int .i64 2] w fun e w' => e = .returned (.agg (opAt 2).cells) ∧ Below w.heap.size w w' := by
  go_enter Try.func21, Try.ntmps21
  go_wp2
  refine bodyPost_ret (v := .agg (opAt 2).cells) (by simp [results, Try.results21, go_sem]; rfl) rfl ⟨rfl, (Below.refl _ _).alloc (Nat.le_refl _) _⟩
set_option maxRecDepth 100000 in
theorem low_3 (w : World) : Calls Try.prog 21 #[.int .i64 3] w fun e w' => e = .returned (.agg (opAt 3).cells) ∧ Below w.heap.size w w' := by
  go_enter Try.func21, Try.ntmps21
  go_wp2
  refine bodyPost_ret (v := .agg (opAt 3).cells) (by simp [results, Try.results21, go_sem]; rfl) rfl ⟨rfl, (Below.refl _ _).alloc (Nat.le_refl _) _⟩
set_option maxRecDepth 100000 in
theorem low_4 (w : World) : Calls Try.prog 21 #[.int .i64 4] w fun e w' => e = .returned (.agg (opAt 4).cells) ∧ Below w.heap.size w w' := by
  go_enter Try.func21, Try.ntmps21
  go_wp2
  refine bodyPost_ret (v := .agg (opAt 4).cells) (by simp [results, Try.results21, go_sem]; rfl) rfl ⟨rfl, (Below.refl _ _).alloc (Nat.le_refl _) _⟩
set_option maxRecDepth 100000 in
theorem low_5 (w : World) : Calls Try.prog 21 #[.int .i64 5] w fun e w' => e = .returned (.agg (opAt 5).cells) ∧ Below w.heap.size w w' := by
  go_enter Try.func21, Try.ntmps21
  go_wp2
  refine bodyPost_ret (v := .agg (opAt 5).cells) (by simp [results, Try.results21, go_sem]; rfl) rfl ⟨rfl, (Below.refl _ _).alloc (Nat.le_refl _) _⟩
set_option maxRecDepth 100000 in
theorem low_6 (w : World) : Calls Try.prog 21 #[.int .i64 6] w fun e w' => e = .returned (.agg (opAt 6).cells) ∧ Below w.heap.size w w' := by
  go_enter Try.func21, Try.ntmps21
  go_wp2
  refine bodyPost_ret (v := .agg (opAt 6).cells) (by simp [results, Try.results21, go_sem]; rfl) rfl ⟨rfl, (Below.refl _ _).alloc (Nat.le_refl _) _⟩
set_option maxRecDepth 100000 in
theorem low_7 (w : World) : Calls Try.prog 21 #[.int .i64 7] w fun e w' => e = .returned (.agg (opAt 7).cells) ∧ Below w.heap.size w w' := by
  go_enter Try.func21, Try.ntmps21
  go_wp2
  refine bodyPost_ret (v := .agg (opAt 7).cells) (by simp [results, Try.results21, go_sem]; rfl) rfl ⟨rfl, (Below.refl _ _).alloc (Nat.le_refl _) _⟩
set_option maxRecDepth 100000 in
theorem low_8 (w : World) : Calls Try.prog 21 #[.int .i64 8] w fun e w' => e = .returned (.agg (opAt 8).cells) ∧ Below w.heap.size w w' := by
  go_enter Try.func21, Try.ntmps21
  go_wp2
  refine bodyPost_ret (v := .agg (opAt 8).cells) (by simp [results, Try.results21, go_sem]; rfl) rfl ⟨rfl, (Below.refl _ _).alloc (Nat.le_refl _) _⟩
set_option maxRecDepth 100000 in
theorem low_9 (w : World) : Calls Try.prog 21 #[.int .i64 9] w fun e w' => e = .returned (.agg (opAt 9).cells) ∧ Below w.heap.size w w' := by
  go_enter Try.func21, Try.ntmps21
  go_wp2
  refine bodyPost_ret (v := .agg (opAt 9).cells) (by simp [results, Try.results21, go_sem]; rfl) rfl ⟨rfl, (Below.refl _ _).alloc (Nat.le_refl _) _⟩
set_option maxRecDepth 100000 in
theorem low_10 (w : World) : Calls Try.prog 21 #[.int .i64 10] w fun e w' => e = .returned (.agg (opAt 10).cells) ∧ Below w.heap.size w w' := by
  go_enter Try.func21, Try.ntmps21
  go_wp2
  refine bodyPost_ret (v := .agg (opAt 10).cells) (by simp [results, Try.results21, go_sem]; rfl) rfl ⟨rfl, (Below.refl _ _).alloc (Nat.le_refl _) _⟩
set_option maxRecDepth 100000 in
theorem low_11 (w : World) : Calls Try.prog 21 #[.int .i64 11] w fun e w' => e = .returned (.agg (opAt 11).cells) ∧ Below w.heap.size w w' := by
  go_enter Try.func21, Try.ntmps21
  go_wp2
  refine bodyPost_ret (v := .agg (opAt 11).cells) (by simp [results, Try.results21, go_sem]; rfl) rfl ⟨rfl, (Below.refl _ _).alloc (Nat.le_refl _) _⟩
set_option maxRecDepth 100000 in
theorem low_12 (w : World) : Calls Try.prog 21 #[.int .i64 12] w fun e w' => e = .returned (.agg (opAt 12).cells) ∧ Below w.heap.size w w' := by
  go_enter Try.func21, Try.ntmps21
  go_wp2
  refine bodyPost_ret (v := .agg (opAt 12).cells) (by simp [results, Try.results21, go_sem]; rfl) rfl ⟨rfl, (Below.refl _ _).alloc (Nat.le_refl _) _⟩
set_option maxRecDepth 100000 in
theorem low_13 (w : World) : Calls Try.prog 21 #[.int .i64 13] w fun e w' => e = .returned (.agg (opAt 13).cells) ∧ Below w.heap.size w w' := by
  go_enter Try.func21, Try.ntmps21
  go_wp2
  refine bodyPost_ret (v := .agg (opAt 13).cells) (by simp [results, Try.results21, go_sem]; rfl) rfl ⟨rfl, (Below.refl _ _).alloc (Nat.le_refl _) _⟩
set_option maxRecDepth 100000 in
theorem low_14 (w : World) : Calls Try.prog 21 #[.int .i64 14] w fun e w' => e = .returned (.agg (opAt 14).cells) ∧ Below w.heap.size w w' := by
  go_enter Try.func21, Try.ntmps21
  go_wp2
  refine bodyPost_ret (v := .agg (opAt 14).cells) (by simp [results, Try.results21, go_sem]; rfl) rfl ⟨rfl, (Below.refl _ _).alloc (Nat.le_refl _) _⟩
set_option maxRecDepth 100000 in
theorem low_15 (w : World) : Calls Try.prog 21 #[.int .i64 15] w fun e w' => e = .returned (.agg (opAt 15).cells) ∧ Below w.heap.size w w' := by
  go_enter Try.func21, Try.ntmps21
  go_wp2
  refine bodyPost_ret (v := .agg (opAt 15).cells) (by simp [results, Try.results21, go_sem]; rfl) rfl ⟨rfl, (Below.refl _ _).alloc (Nat.le_refl _) _⟩
set_option maxRecDepth 100000 in
theorem low_16 (w : World) : Calls Try.prog 21 #[.int .i64 16] w fun e w' => e = .returned (.agg (opAt 16).cells) ∧ Below w.heap.size w w' := by
  go_enter Try.func21, Try.ntmps21
  go_wp2
  refine bodyPost_ret (v := .agg (opAt 16).cells) (by simp [results, Try.results21, go_sem]; rfl) rfl ⟨rfl, (Below.refl _ _).alloc (Nat.le_refl _) _⟩
set_option maxRecDepth 100000 in
theorem low_17 (w : World) : Calls Try.prog 21 #[.int .i64 17] w fun e w' => e = .returned (.agg (opAt 17).cells) ∧ Below w.heap.size w w' := by
  go_enter Try.func21, Try.ntmps21
  go_wp2
  refine bodyPost_ret (v := .agg (opAt 17).cells) (by simp [results, Try.results21, go_sem]; rfl) rfl ⟨rfl, (Below.refl _ _).alloc (Nat.le_refl _) _⟩
set_option maxRecDepth 100000 in
theorem low_18 (w : World) : Calls Try.prog 21 #[.int .i64 18] w fun e w' => e = .returned (.agg (opAt 18).cells) ∧ Below w.heap.size w w' := by
  go_enter Try.func21, Try.ntmps21
  go_wp2
  refine bodyPost_ret (v := .agg (opAt 18).cells) (by simp [results, Try.results21, go_sem]; rfl) rfl ⟨rfl, (Below.refl _ _).alloc (Nat.le_refl _) _⟩
set_option maxRecDepth 100000 in
theorem low_19 (w : World) : Calls Try.prog 21 #[.int .i64 19] w fun e w' => e = .returned (.agg (opAt 19).cells) ∧ Below w.heap.size w w' := by
  go_enter Try.func21, Try.ntmps21
  go_wp2
  refine bodyPost_ret (v := .agg (opAt 19).cells) (by simp [results, Try.results21, go_sem]; rfl) rfl ⟨rfl, (Below.refl _ _).alloc (Nat.le_refl _) _⟩
set_option maxRecDepth 100000 in
theorem low_20 (w : World) : Calls Try.prog 21 #[.int .i64 20] w fun e w' => e = .returned (.agg (opAt 20).cells) ∧ Below w.heap.size w w' := by
  go_enter Try.func21, Try.ntmps21
  go_wp2
  refine bodyPost_ret (v := .agg (opAt 20).cells) (by simp [results, Try.results21, go_sem]; rfl) rfl ⟨rfl, (Below.refl _ _).alloc (Nat.le_refl _) _⟩
set_option maxRecDepth 100000 in
theorem low_21 (w : World) : Calls Try.prog 21 #[.int .i64 21] w fun e w' => e = .returned (.agg (opAt 21).cells) ∧ Below w.heap.size w w' := by
  go_enter Try.func21, Try.ntmps21
  go_wp2
  refine bodyPost_ret (v := .agg (opAt 21).cells) (by simp [results, Try.results21, go_sem]; rfl) rfl ⟨rfl, (Below.refl _ _).alloc (Nat.le_refl _) _⟩
set_option maxRecDepth 100000 in
theorem low_22 (w : World) : Calls Try.prog 21 #[.int .i64 22] w fun e w' => e = .returned (.agg (opAt 22).cells) ∧ Below w.heap.size w w' := by
  go_enter Try.func21, Try.ntmps21
  go_wp2
  refine bodyPost_ret (v := .agg (opAt 22).cells) (by simp [results, Try.results21, go_sem]; rfl) rfl ⟨rfl, (Below.refl _ _).alloc (Nat.le_refl _) _⟩
set_option maxRecDepth 100000 in
theorem low_23 (w : World) : Calls Try.prog 21 #[.int .i64 23] w fun e w' => e = .returned (.agg (opAt 23).cells) ∧ Below w.heap.size w w' := by
  go_enter Try.func21, Try.ntmps21
  go_wp2
  refine bodyPost_ret (v := .agg (opAt 23).cells) (by simp [results, Try.results21, go_sem]; rfl) rfl ⟨rfl, (Below.refl _ _).alloc (Nat.le_refl _) _⟩
set_option maxRecDepth 100000 in
theorem low_24 (w : World) : Calls Try.prog 21 #[.int .i64 24] w fun e w' => e = .returned (.agg (opAt 24).cells) ∧ Below w.heap.size w w' := by
  go_enter Try.func21, Try.ntmps21
  go_wp2
  refine bodyPost_ret (v := .agg (opAt 24).cells) (by simp [results, Try.results21, go_sem]; rfl) rfl ⟨rfl, (Below.refl _ _).alloc (Nat.le_refl _) _⟩
set_option maxRecDepth 100000 in
theorem low_25 (w : World) : Calls Try.prog 21 #[.int .i64 25] w fun e w' => e = .returned (.agg (opAt 25).cells) ∧ Below w.heap.size w w' := by
  go_enter Try.func21, Try.ntmps21
  go_wp2
  refine bodyPost_ret (v := .agg (opAt 25).cells) (by simp [results, Try.results21, go_sem]; rfl) rfl ⟨rfl, (Below.refl _ _).alloc (Nat.le_refl _) _⟩
set_option maxRecDepth 100000 in
theorem low_26 (w : World) : Calls Try.prog 21 #[.int .i64 26] w fun e w' => e = .returned (.agg (opAt 26).cells) ∧ Below w.heap.size w w' := by
  go_enter Try.func21, Try.ntmps21
  go_wp2
  refine bodyPost_ret (v := .agg (opAt 26).cells) (by simp [results, Try.results21, go_sem]; rfl) rfl ⟨rfl, (Below.refl _ _).alloc (Nat.le_refl _) _⟩
set_option maxRecDepth 100000 in
theorem low_27 (w : World) : Calls Try.prog 21 #[.int .i64 27] w fun e w' => e = .returned (.agg (opAt 27).cells) ∧ Below w.heap.size w w' := by
  go_enter Try.func21, Try.ntmps21
  go_wp2
  refine bodyPost_ret (v := .agg (opAt 27).cells) (by simp [results, Try.results21, go_sem]; rfl) rfl ⟨rfl, (Below.refl _ _).alloc (Nat.le_refl _) _⟩
set_option maxRecDepth 100000 in
theorem low_28 (w : World) : Calls Try.prog 21 #[.int .i64 28] w fun e w' => e = .returned (.agg (opAt 28).cells) ∧ Below w.heap.size w w' := by
  go_enter Try.func21, Try.ntmps21
  go_wp2
  refine bodyPost_ret (v := .agg (opAt 28).cells) (by simp [results, Try.results21, go_sem]; rfl) rfl ⟨rfl, (Below.refl _ _).alloc (Nat.le_refl _) _⟩
set_option maxRecDepth 100000 in
theorem low_29 (w : World) : Calls Try.prog 21 #[.int .i64 29] w fun e w' => e = .returned (.agg (opAt 29).cells) ∧ Below w.heap.size w w' := by
  go_enter Try.func21, Try.ntmps21
  go_wp2
  refine bodyPost_ret (v := .agg (opAt 29).cells) (by simp [results, Try.results21, go_sem]; rfl) rfl ⟨rfl, (Below.refl _ _).alloc (Nat.le_refl _) _⟩
set_option maxRecDepth 100000 in
theorem low_30 (w : World) : Calls Try.prog 21 #[.int .i64 30] w fun e w' => e = .returned (.agg (opAt 30).cells) ∧ Below w.heap.size w w' := by
  go_enter Try.func21, Try.ntmps21
  go_wp2
  refine bodyPost_ret (v := .agg (opAt 30).cells) (by simp [results, Try.results21, go_sem]; rfl) rfl ⟨rfl, (Below.refl _ _).alloc (Nat.le_refl _) _⟩
set_option maxRecDepth 100000 in
theorem low_31 (w : World) : Calls Try.prog 21 #[.int .i64 31] w fun e w' => e = .returned (.agg (opAt 31).cells) ∧ Below w.heap.size w w' := by
  go_enter Try.func21, Try.ntmps21
  go_wp2
  refine bodyPost_ret (v := .agg (opAt 31).cells) (by simp [results, Try.results21, go_sem]; rfl) rfl ⟨rfl, (Below.refl _ _).alloc (Nat.le_refl _) _⟩
set_option maxRecDepth 100000 in
theorem low_32 (w : World) : Calls Try.prog 21 #[.int .i64 32] w fun e w' => e = .returned (.agg (opAt 32).cells) ∧ Below w.heap.size w w' := by
  go_enter Try.func21, Try.ntmps21
  go_wp2
  refine bodyPost_ret (v := .agg (opAt 32).cells) (by simp [results, Try.results21, go_sem]; rfl) rfl ⟨rfl, (Below.refl _ _).alloc (Nat.le_refl _) _⟩
set_option maxRecDepth 100000 in
theorem low_33 (w : World) : Calls Try.prog 21 #[.int .i64 33] w fun e w' => e = .returned (.agg (opAt 33).cells) ∧ Below w.heap.size w w' := by
  go_enter Try.func21, Try.ntmps21
  go_wp2
  refine bodyPost_ret (v := .agg (opAt 33).cells) (by simp [results, Try.results21, go_sem]; rfl) rfl ⟨rfl, (Below.refl _ _).alloc (Nat.le_refl _) _⟩
set_option maxRecDepth 100000 in
theorem low_34 (w : World) : Calls Try.prog 21 #[.int .i64 34] w fun e w' => e = .returned (.agg (opAt 34).cells) ∧ Below w.heap.size w w' := by
  go_enter Try.func21, Try.ntmps21
  go_wp2
  refine bodyPost_ret (v := .agg (opAt 34).cells) (by simp [results, Try.results21, go_sem]; rfl) rfl ⟨rfl, (Below.refl _ _).alloc (Nat.le_refl _) _⟩
set_option maxRecDepth 100000 in
theorem low_35 (w : World) : Calls Try.prog 21 #[.int .i64 35] w fun e w' => e = .returned (.agg (opAt 35).cells) ∧ Below w.heap.size w w' := by
  go_enter Try.func21, Try.ntmps21
  go_wp2
  refine bodyPost_ret (v := .agg (opAt 35).cells) (by simp [results, Try.results21, go_sem]; rfl) rfl ⟨rfl, (Below.refl _ _).alloc (Nat.le_refl _) _⟩
set_option maxRecDepth 100000 in
theorem low_36 (w : World) : Calls Try.prog 21 #[.int .i64 36] w fun e w' => e = .returned (.agg (opAt 36).cells) ∧ Below w.heap.size w w' := by
  go_enter Try.func21, Try.ntmps21
  go_wp2
  refine bodyPost_ret (v := .agg (opAt 36).cells) (by simp [results, Try.results21, go_sem]; rfl) rfl ⟨rfl, (Below.refl _ _).alloc (Nat.le_refl _) _⟩
set_option maxRecDepth 100000 in
theorem low_out (op : Int) (h : op < 1 ∨ 36 < op) (w : World) : Calls Try.prog 21 #[.int .i64 op] w fun e w' => e = .returned (.agg opNone.cells) ∧ Below w.heap.size w w' := by
  have h1 : (op == 1) = false := by simp; omega
  have h2 : (op == 2) = false := by simp; omega
  have h3 : (op == 3) = false := by simp; omega
  have h4 : (op == 4) = false := by simp; omega
  have h5 : (op == 5) = false := by simp; omega
  have h6 : (op == 6) = false := by simp; omega
  have h7 : (op == 7) = false := by simp; omega
  have h8 : (op == 8) = false := by simp; omega
  have h9 : (op == 9) = false := by simp; omega
  have h10 : (op == 10) = false := by simp; omega
  have h11 : (op == 11) = false := by simp; omega
  have h12 : (op == 12) = false := by simp; omega
  have h13 : (op == 13) = false := by simp; omega
  have h14 : (op == 14) = false := by simp; omega
  have h15 : (op == 15) = false := by simp; omega
  have h16 : (op == 16) = false := by simp; omega
  have h17 : (op == 17) = false := by simp; omega
  have h18 : (op == 18) = false := by simp; omega
  have h19 : (op == 19) = false := by simp; omega
  have h20 : (op == 20) = false := by simp; omega
  have h21 : (op == 21) = false := by simp; omega
  have h22 : (op == 22) = false := by simp; omega
  have h23 : (op == 23) = false := by simp; omega
  have h24 : (op == 24) = false := by simp; omega
  have h25 : (op == 25) = false := by simp; omega
  have h26 : (op == 26) = false := by simp; omega
  have h27 : (op == 27) = false := by simp; omega
  have h28 : (op == 28) = false := by simp; omega
  have h29 : (op == 29) = false := by simp; omega
  have h30 : (op == 30) = false := by simp; omega
  have h31 : (op == 31) = false := by simp; omega
  have h32 : (op == 32) = false := by simp; omega
  have h33 : (op == 33) = false := by simp; omega
  have h34 : (op == 34) = false := by simp; omega
  have h35 : (op == 35) = false := by simp; omega
  have h36 : (op == 36) = false := by simp; omega
  clear h
  go_enter Try.func21, Try.ntmps21
  go_wp2
  refine bodyPost_ret (v := .agg opNone.cells) (by simp [results, Try.results21, go_sem]; rfl) rfl ⟨rfl, (Below.refl _ _).alloc (Nat.le_refl _) _⟩
theorem opLow_any (op : Int) (h : op ≤ 36) (w : World) : Calls Try.prog 21 #[.int .i64 op] w fun e w' => e = .returned (.agg (opAt op).cells) ∧ Below w.heap.size w w' := by
  by_cases ho : op < 1 ∨ 36 < op
  · rw [opAt_out op (by omega)]; exact low_out op ho w
  · have hc : op = 1 ∨ op = 2 ∨ op = 3 ∨ op = 4 ∨ op = 5 ∨ op = 6 ∨ op = 7 ∨ op = 8 ∨ op = 9 ∨ op = 10 ∨ op = 11 ∨ op = 12 ∨ op = 13 ∨ op = 14 ∨ op = 15 ∨ op = 16 ∨ op = 17 ∨ op = 18 ∨ op = 19 ∨ op = 20 ∨ op = 21 ∨ op = 22 ∨ op = 23 ∨ op = 24 ∨ op = 25 ∨ op = 26 ∨ op = 27 ∨ op = 28 ∨ op = 29 ∨ op = 30 ∨ op = 31 ∨ op = 32 ∨ op = 33 ∨ op = 34 ∨ op = 35 ∨ op = 36 := by omega
    rcases hc with rfl | rfl | rfl | rfl | rfl | rfl | rfl | rfl | rfl | rfl | rfl | rfl | rfl | rfl | rfl | rfl | rfl | rfl | rfl | rfl | rfl | rfl | rfl | rfl | rfl | rfl | rfl | rfl | rfl | rfl | rfl | rfl | rfl | rfl | rfl | rfl
    · exact low_1 w
    · exact low_2 w
    · exact low_3 w
    · exact low_4 w
    · exact low_5 w
    · exact low_6 w
    · exact low_7 w
    · exact low_8 w
    · exact low_9 w
    · exact low_10 w
    · exact low_11 w
    · exact low_12 w
    · exact low_13 w
    · exact low_14 w
    · exact low_15 w
    · exact low_16 w
    · exact low_17 w
    · exact low_18 w
    · exact low_19 w
    · exact low_20 w
    · exact low_21 w
    · exact low_22 w
    · exact low_23 w
    · exact low_24 w
    · exact low_25 w
    · exact low_26 w
    · exact low_27 w
    · exact low_28 w
    · exact low_29 w
    · exact low_30 w
    · exact low_31 w
    · exact low_32 w
    · exact low_33 w
    · exact low_34 w
    · exact low_35 w
    · exact low_36 w
end Go.Proofs.Ytmeebniadgngpaa
