/- Package isa's Name. No conditions. -/
import Derived.Test.YtmeebniadgngpaaO6
namespace Go.Proofs.Ytmeebniadgngpaa
open Go.RowKit
set_option linter.unusedVariables false
set_option linter.unusedSimpArgs false

theorem field_name (x0 x1 x2 x3 x4 x5 : Value) (w : World) : (Instr.field 57 (.agg #[x0, x1, x2, x3, x4, x5]) 0).run Try.prog w = .ok x0 w := by kernel_rfl
theorem Name_any (op : Int) (w : World) : Calls Try.prog 24 #[.int .i64 op] w fun e w' => e = .returned (.string (opAt op).name) ∧ Below w.heap.size w w' := by
  by_cases h : 1 ≤ op ∧ op ≤ 82
  · obtain ⟨h1, h2⟩ := h
    have hb : (decide (1 ≤ op) && decide (op ≤ 82)) = true := by simp [h1, h2]
    have hi := idx_any op h1 h2
    have hn := Hd.mk (isa_name' op)
    generalize isaAt op = o at hi hn
    have hf := field_name (.string o.name) (.int .i64 o.kind) (.int .u32 o.code) (.int .u32 o.f3) (.int .u32 o.f7) (.int .i64 o.shift)
    go_enter Try.func24, Try.ntmps24
    go_wp2_with (first | (go_at_call 36; refine (known_any _ _).mono ?_; rintro e w' ⟨rfl, hb1⟩) | (go_at_call 37; refine (operations_any _).mono ?_; rintro e w' ⟨rfl, hb2⟩))
    go_ret
    exact ⟨by rw [← hn.out]; rfl, hb1.trans (hb2.mono hb1.size)⟩
  · have hb : (decide (1 ≤ op) && decide (op ≤ 82)) = false := by simp; omega
    have ho := Hd.mk (opAt_out op (by omega))
    go_enter Try.func24, Try.ntmps24
    go_wp2_with (go_at_call 36; refine (known_any _ _).mono ?_; rintro e w' ⟨rfl, hb1⟩)
    go_ret
    exact ⟨by rw [ho.out]; rfl, hb1⟩
end Go.Proofs.Ytmeebniadgngpaa
