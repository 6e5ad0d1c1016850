/- The chapter's examples hold. No conditions. -/
import Derived.Test.YtmeebniadgngpaaL0
import Derived.Test.YtmeebniadgngpaaH1
namespace Go.Proofs.Ytmeebniadgngpaa
open Go.RowKit
set_option linter.unusedVariables false
set_option linter.unusedSimpArgs false


/-- Several blocks later all that was below is as it was. -/
theorem below2 {w w1 w2 : World} (h1 : Below w.heap.size w w1) (h2 : Below w1.heap.size w1 w2) : Below w.heap.size w w2 := h1.trans (h2.mono h1.size)
theorem holds_blt' (a b : BitVec 64) (w : World) : Calls Try.prog 16 #[.int .i64 (opFind ⟨#[98, 108, 116]⟩), U a, U b] w fun e w' => e = .returned (.tuple #[.bool (below a b), .bool true]) ∧ Below w.heap.size w w' := Holds_any (opFind ⟨#[98, 108, 116]⟩) a b w
theorem holds_bltu' (a b : BitVec 64) (w : World) : Calls Try.prog 16 #[.int .i64 (opFind ⟨#[98, 108, 116, 117]⟩), U a, U b] w fun e w' => e = .returned (.tuple #[.bool (ltB a b), .bool true]) ∧ Below w.heap.size w w' := Holds_any (opFind ⟨#[98, 108, 116, 117]⟩) a b w

theorem ex_add (w : World) : Calls Try.prog 14 #[.string ⟨#[97, 100, 100]⟩, U 18446744073709551615#64, U 1#64] w fun e w' => e = .returned (U 0#64) ∧ Below w.heap.size w w' := by
  have h := of_add 18446744073709551615#64 1#64 w
  rw [show ruleF 0 18446744073709551615#64 1#64 = 0#64 by decide] at h
  exact h
theorem ex_sub (w : World) : Calls Try.prog 14 #[.string ⟨#[115, 117, 98]⟩, U 0#64, U 1#64] w fun e w' => e = .returned (U 18446744073709551615#64) ∧ Below w.heap.size w w' := by
  have h := of_sub 0#64 1#64 w
  rw [show ruleF 1 0#64 1#64 = 18446744073709551615#64 by decide] at h
  exact h
theorem ex_addw (w : World) : Calls Try.prog 14 #[.string ⟨#[97, 100, 100, 119]⟩, U 2147483647#64, U 1#64] w fun e w' => e = .returned (U 18446744071562067968#64) ∧ Below w.heap.size w w' := by
  have h := of_addw 2147483647#64 1#64 w
  rw [show shortF 0 2147483647#64 1#64 = 18446744071562067968#64 by decide] at h
  exact h
theorem ex_sraw (w : World) : Calls Try.prog 14 #[.string ⟨#[115, 114, 97, 119]⟩, U 2147483648#64, U 4#64] w fun e w' => e = .returned (U 18446744073575333888#64) ∧ Below w.heap.size w w' := by
  have h := of_sraw 2147483648#64 4#64 w
  rw [show shortF 4 2147483648#64 4#64 = 18446744073575333888#64 by decide] at h
  exact h
theorem ex_divw (w : World) : Calls Try.prog 14 #[.string ⟨#[100, 105, 118, 119]⟩, U 7#64, U 0#64] w fun e w' => e = .returned (U 18446744073709551615#64) ∧ Below w.heap.size w w' := by
  have h := of_divw 7#64 0#64 w
  rw [show shortF 6 7#64 0#64 = 18446744073709551615#64 by decide] at h
  exact h
theorem ex_remuw (w : World) : Calls Try.prog 14 #[.string ⟨#[114, 101, 109, 117, 119]⟩, U 2147483648#64, U 0#64] w fun e w' => e = .returned (U 18446744071562067968#64) ∧ Below w.heap.size w w' := by
  have h := of_remuw 2147483648#64 0#64 w
  rw [show shortF 9 2147483648#64 0#64 = 18446744071562067968#64 by decide] at h
  exact h
theorem awake_any (w : World) : Calls Try.prog 10 #[] w fun e w' => e = .returned (.bool true) ∧ Below w.heap.size w w' := by
  have x1 := ex_add
  have x2 := ex_sub
  have x3 := ex_addw
  have x4 := ex_sraw
  have x5 := ex_divw
  have x6 := ex_remuw
  have y1 : below 18446744073709551615#64 0#64 = true := by decide
  have y2 : ltB 18446744073709551615#64 0#64 = false := by decide
  have z1 := fun w => holds_blt' 18446744073709551615#64 0#64 w
  have z2 := fun w => holds_bltu' 18446744073709551615#64 0#64 w
  rw [y1] at z1
  rw [y2] at z2
  have X1 := Hd.mk x1
  have X2 := Hd.mk x2
  have X3 := Hd.mk x3
  have X4 := Hd.mk x4
  have X5 := Hd.mk x5
  have X6 := Hd.mk x6
  have Z1 := Hd.mk z1
  have Z2 := Hd.mk z2
  clear x1 x2 x3 x4 x5 x6 y1 y2 z1 z2
  go_enter Try.func10, Try.ntmps10
  go_wp2_with fail
  refine (X1.out _).mono ?_; rintro e w1 ⟨rfl, b1⟩
  go_wp2_with fail
  refine (X2.out _).mono ?_; rintro e w2 ⟨rfl, b2⟩
  go_wp2_with fail
  refine (X3.out _).mono ?_; rintro e w3 ⟨rfl, b3⟩
  go_wp2_with fail
  refine (X4.out _).mono ?_; rintro e w4 ⟨rfl, b4⟩
  go_wp2_with fail
  refine (X5.out _).mono ?_; rintro e w5 ⟨rfl, b5⟩
  go_wp2_with fail
  refine (X6.out _).mono ?_; rintro e w6 ⟨rfl, b6⟩
  go_wp2_with fail
  refine (Find_any _ _).mono ?_; rintro e w7 ⟨rfl, b7⟩
  go_wp2_with fail
  refine (Z1.out _).mono ?_; rintro e w8 ⟨rfl, b8⟩
  go_wp2_with fail
  refine (Find_any _ _).mono ?_; rintro e w9 ⟨rfl, b9⟩
  go_wp2_with fail
  refine (Z2.out _).mono ?_; rintro e w10 ⟨rfl, b10⟩
  go_wp2_with fail
  go_ret
  exact ⟨rfl, below2 (below2 (below2 (below2 (below2 (below2 (below2 (below2 (below2 b1 b2) b3) b4) b5) b6) b7) b8) b9) b10⟩

theorem reckons_walk (op : Int) (a b : BitVec 64) (w : World) : Calls Try.prog 3 #[.int .i64 op, U a, U b] w fun e w' => e = .returned (.bool true) ∧ Below w.heap.size w w' := by
  have hR := fun w => Reckon_any op a b w
  have hS := fun s (h : Hd (s = (opAt op).name)) w => by have := rReckon_any s a b w; rw [show aluP (plainF s) a b = aluP (plainF (opAt op).name) a b by rw [h.out]] at this; exact this
  generalize aluP (plainF (opAt op).name) a b = x at hR hS
  cases x with
  | none =>
    have hR' := Hd.mk (show ∀ w, Calls Try.prog 12 #[.int .i64 op, U a, U b] w fun e w' => e = .returned (.tuple #[U 0#64, .bool false]) ∧ Below w.heap.size w w' from hR)
    have hS' := Hd.mk (show ∀ s (h : Hd (s = (opAt op).name)) w, Calls Try.prog 13 #[.string s, U a, U b] w fun e w' => e = .returned (.tuple #[U 0#64, .bool false]) ∧ w = w' from hS)
    clear hR hS
    go_enter Try.func3, Try.ntmps3
    go_wp2_with fail
    refine (awake_any _).mono ?_; rintro e w1 ⟨rfl, b1⟩
    go_wp2_with fail
    refine (Of_any _ _).mono ?_; rintro e w2 ⟨o, ho, rfl, b2⟩
    go_wp2_with fail
    refine (hR'.out _).mono ?_; rintro e w3 ⟨rfl, b3⟩
    have hz : w2.heap.size < w3.heap.size := by have := b3.size; simp at this; omega
    have hc := (bcell b3).1
    go_wp2_with fail
    refine (hS'.out _ (by rw [ho.out]; exact ⟨rfl⟩) _).mono ?_; rintro e w' ⟨rfl, rfl⟩
    go_wp2_with fail
    go_ret
    exact ⟨rfl, below2 ((below2 b1 b2).alloc (by have := b1.size; have := b2.size; omega) _) b3⟩
  | some v =>
    have hR' := Hd.mk (show ∀ w, Calls Try.prog 12 #[.int .i64 op, U a, U b] w fun e w' => e = .returned (.tuple #[U v, .bool true]) ∧ Below w.heap.size w w' from hR)
    have hS' := Hd.mk (show ∀ s (h : Hd (s = (opAt op).name)) w, Calls Try.prog 13 #[.string s, U a, U b] w fun e w' => e = .returned (.tuple #[U v, .bool true]) ∧ w = w' from hS)
    clear hR hS
    go_enter Try.func3, Try.ntmps3
    go_wp2_with fail
    refine (awake_any _).mono ?_; rintro e w1 ⟨rfl, b1⟩
    go_wp2_with fail
    refine (Of_any _ _).mono ?_; rintro e w2 ⟨o, ho, rfl, b2⟩
    go_wp2_with fail
    refine (hR'.out _).mono ?_; rintro e w3 ⟨rfl, b3⟩
    have hz : w2.heap.size < w3.heap.size := by have := b3.size; simp at this; omega
    have hc := (bcell b3).1
    go_wp2_with fail
    refine (hS'.out _ (by rw [ho.out]; exact ⟨rfl⟩) _).mono ?_; rintro e w' ⟨rfl, rfl⟩
    go_wp2_with fail
    go_ret
    exact ⟨rfl, below2 ((below2 b1 b2).alloc (by have := b1.size; have := b2.size; omega) _) b3⟩

end Go.Proofs.Ytmeebniadgngpaa
