/- The operations of the reference of chapter 4: what Of and Find give. No conditions. -/
import Derived.Test.YtmeebniadgngpaaO2
import Derived.Test.YtmeebniadgngpaaO3
namespace Go.Proofs.Ytmeebniadgngpaa
open Go.RowKit
set_option linter.unusedVariables false
set_option linter.unusedSimpArgs false
theorem opLow' (op : Int) (h : op ≤ 36) (w : World) : Calls Try.prog 21 #[.int .i64 op] w fun e w' => ∃ o : OpR, Hd (o = opAt op) ∧ e = .returned (.agg #[.string o.name, .int .i64 o.kind, .int .i64 o.code, .int .i64 o.f3, .int .i64 o.f7, .int .i64 o.shift]) ∧ Below w.heap.size w w' :=
  (opLow_any op h w).mono fun _ _ h => ⟨opAt op, ⟨rfl⟩, h.1, h.2⟩
theorem opHigh' (op : Int) (h : 36 < op) (w : World) : Calls Try.prog 22 #[.int .i64 op] w fun e w' => ∃ o : OpR, Hd (o = opAt op) ∧ e = .returned (.agg #[.string o.name, .int .i64 o.kind, .int .i64 o.code, .int .i64 o.f3, .int .i64 o.f7, .int .i64 o.shift]) ∧ Below w.heap.size w w' :=
  (opHigh_any op h w).mono fun _ _ h => ⟨opAt op, ⟨rfl⟩, h.1, h.2⟩
theorem bcell {W w1 : World} (hb : Below W.heap.size W w1) : (∀ b o, b < W.heap.size → w1.cell? ⟨b, o, none⟩ = W.cell? ⟨b, o, none⟩) ∧ (∀ b o, b < W.heap.size → w1.frozen? ⟨b, o, none⟩ = W.frozen? ⟨b, o, none⟩) :=
  ⟨fun b o h => hb.cell (p := ⟨b, o, none⟩) h, fun b o h => hb.frozen (p := ⟨b, o, none⟩) h⟩

theorem Of_any (op : Int) (w : World) : Calls Try.prog 11 #[.int .i64 op] w fun e w' =>
    ∃ o : OpR, Hd (o = opAt op) ∧ e = .returned (.agg #[.string o.name, .int .i64 o.kind, .int .i64 o.code, .int .i64 o.f3, .int .i64 o.f7, .int .i64 o.shift]) ∧ Below w.heap.size w w' := by
  by_cases h : op ≤ 36
  · go_enter Try.func11, Try.ntmps11
    go_wp2_with (go_at_call 21; refine (opLow' _ h _).mono ?_; rintro e w1 ⟨o, ho, rfl, hb⟩; obtain ⟨hc, hf⟩ := bcell hb)
    have hz : w.heap.size + 1 ≤ w1.heap.size := by have := hb.size; simpa using this
    refine bodyPost_ret (v := .agg #[.string o.name, .int .i64 o.kind, .int .i64 o.code, .int .i64 o.f3, .int .i64 o.f7, .int .i64 o.shift]) (by simp [results, Try.results11, go_sem, hc]) rfl ⟨o, ho, rfl, ?_⟩
    exact (((((((((Below.refl _ _).alloc (Nat.le_refl _) _).trans (hb.mono (by simp))).setCell (by simp) _).setCell (by simp) _).setCell (by simp) _).setCell (by simp) _).setCell (by simp) _).setCell (by simp) _)
  · go_enter Try.func11, Try.ntmps11
    go_wp2_with (go_at_call 22; refine (opHigh' _ (by omega) _).mono ?_; rintro e w1 ⟨o, ho, rfl, hb⟩; obtain ⟨hc, hf⟩ := bcell hb)
    have hz : w.heap.size + 1 ≤ w1.heap.size := by have := hb.size; simpa using this
    refine bodyPost_ret (v := .agg #[.string o.name, .int .i64 o.kind, .int .i64 o.code, .int .i64 o.f3, .int .i64 o.f7, .int .i64 o.shift]) (by simp [results, Try.results11, go_sem, hc]) rfl ⟨o, ho, rfl, ?_⟩
    exact (((((((((Below.refl _ _).alloc (Nat.le_refl _) _).trans (hb.mono (by simp))).setCell (by simp) _).setCell (by simp) _).setCell (by simp) _).setCell (by simp) _).setCell (by simp) _).setCell (by simp) _)

def opFind (s : ByteArray) : Int := match opList.findIdx? (fun o => o.name.data.toList == s.data.toList) with
  | some i => i + 1
  | none => 0
theorem toList_eq (s : ByteArray) : ∀ o : OpR, (o.name.toList == s.toList) = (o.name.data.toList == s.data.toList) := by
  intro o; rw [ByteArray.toList_eq, ByteArray.toList_eq]
theorem opAt_get (k : Nat) (h : k < 82) : opAt ((k : Int) + 1) = opList[k]?.getD opNone := by
  unfold opAt
  rw [if_pos (by omega), show ((k : Int) + 1).toNat - 1 = k by omega]
theorem opFind_yes (s : ByteArray) (k : Nat) (hk : k < 82) (H : ∀ j, j < k → ((opList[j]?.getD opNone).name.data.toList == s.data.toList) = false)
    (h : ((opAt ((k : Int) + 1)).name.data.toList == s.data.toList) = true) : (k : Int) + 1 = opFind s := by
  rw [opAt_get k hk] at h
  unfold opFind
  have hl : opList.length = 82 := by decide
  have hf : opList.findIdx? (fun o => o.name.data.toList == s.data.toList) = some k := by
    rw [List.findIdx?_eq_some_iff_getElem]
    refine ⟨by omega, ?_, ?_⟩
    · rw [List.getElem?_eq_getElem (by omega)] at h; exact h
    · intro j hj
      have := H j hj
      rw [List.getElem?_eq_getElem (by omega)] at this
      rw [show (opList[j].name.data.toList == s.data.toList) = false from this]; simp
  rw [hf]
theorem opFind_step (s : ByteArray) (k : Nat) (H : ∀ j, j < k → ((opList[j]?.getD opNone).name.data.toList == s.data.toList) = false)
    (h : ((opAt ((k : Int) + 1)).name.data.toList == s.data.toList) = false) : ∀ j, j < k + 1 → ((opList[j]?.getD opNone).name.data.toList == s.data.toList) = false := by
  intro j hj
  by_cases e : j = k
  · subst e
    unfold opAt at h
    rw [if_pos (by omega), show ((j : Int) + 1).toNat - 1 = j by omega] at h
    exact h
  · exact H j (by omega)
theorem opFind_no (s : ByteArray) (H : ∀ j, j < 82 → ((opList[j]?.getD opNone).name.data.toList == s.data.toList) = false) : (0 : Int) = opFind s := by
  unfold opFind
  have hl : opList.length = 82 := by decide
  have hf : opList.findIdx? (fun o => o.name.data.toList == s.data.toList) = none := by
    rw [List.findIdx?_eq_none_iff]
    intro o ho
    obtain ⟨j, hj, rfl⟩ := List.getElem_of_mem ho
    have := H j (by omega)
    rw [List.getElem?_eq_getElem hj] at this
    simpa using this
  rw [hf]
theorem Many_any (w : World) : Calls Try.prog 34 #[] w fun e w' => e = .returned (.int .i64 82) ∧ w = w' := by
  go_enter Try.func34, Try.ntmps34
  go_wp2
  go_ret
  exact ⟨rfl, rfl⟩
theorem Find_any (s : ByteArray) (w : World) : Calls Try.prog 17 #[.string s] w fun e w' => e = .returned (.int .i64 (opFind s)) ∧ Below w.heap.size w w' := by
  go_enter Try.func17, Try.ntmps17
  go_wp2
  go_simp
  go_loopw [3] (fun i wr => ∃ k : Nat, k ≤ 82 ∧ i = .int .i64 ((k : Int) + 1) ∧ Hd (∀ j, j < k → ((opList[j]?.getD opNone).name.data.toList == s.data.toList) = false) ∧ Below w.heap.size w wr) (fun i _ => 83 - (intOf i).toNat)
  case atStart => exact ⟨0, by omega, rfl, ⟨by intro j hj; omega⟩, Below.refl _ _⟩
  case round =>
    obtain ⟨k, hk, rfl, H, hB⟩ := hrel
    by_cases hlt : k < 82
    · go_wp2_with (first | (go_at_call 34; refine (Many_any _).mono ?_; rintro e w' ⟨rfl, rfl⟩) | (go_at_call 11; refine (Of_any _ _).mono ?_; rintro e w1 ⟨o, ho, rfl, hb⟩; obtain ⟨hc, hf⟩ := bcell hb))
      · go_ret
        have e := H.out
        refine ⟨?_, (hB.trans ((hb.mono hB.size).alloc (by have := hB.size; have := hb.size; omega) _))⟩
        have heq : (o.name.toList == s.toList) = true := by assumption
        exact congrArg (fun n => Ending.returned (.int .i64 n)) (opFind_yes s k hlt H.out (by rw [← ho.out, ← toList_eq, heq]))
      · go_roundw
        have hne : (o.name.toList == s.toList) = false := by assumption
        case rel => exact ⟨k + 1, by omega, by go_num, ⟨opFind_step s k H.out (by rw [← ho.out, ← toList_eq, hne])⟩, (hB.trans ((hb.mono hB.size).alloc (by have := hB.size; have := hb.size; omega) _))⟩
        case measure => simp [intOf]; omega
    · obtain rfl : k = 82 := by omega
      go_wp2_with (first | (go_at_call 34; refine (Many_any _).mono ?_; rintro e w' ⟨rfl, rfl⟩))
      go_ret
      exact ⟨congrArg (fun n => Ending.returned (.int .i64 n)) (opFind_no s H.out), hB⟩
end Go.Proofs.Ytmeebniadgngpaa
