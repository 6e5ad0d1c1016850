/- Package alu's find: a name's rule. No conditions. -/
import Derived.Test.YtmeebniadgngpaaA1
import Derived.Test.YtmeebniadgngpaaO4
import Derived.Laws.EntriesVeiled
namespace Go.Proofs.Ytmeebniadgngpaa
open Go.RowKit
set_option linter.unusedVariables false
set_option linter.unusedSimpArgs false

theorem ruleFind_some (s : ByteArray) (k : Nat) (hk : k < 18) (H : ∀ j, j < k → ((ruleAt j).name.data.toList == s.data.toList) = false) (h : ((ruleAt k).name.data.toList == s.data.toList) = true) : ruleFind s = some k := by
  unfold ruleFind
  have hl : ruleList.length = 18 := by decide
  rw [List.findIdx?_eq_some_iff_getElem]
  unfold ruleAt at h H
  refine ⟨by omega, ?_, ?_⟩
  · rw [List.getElem?_eq_getElem (by omega)] at h; exact h
  · intro j hj
    have := H j hj
    rw [List.getElem?_eq_getElem (by omega)] at this
    rw [show (ruleList[j].name.data.toList == s.data.toList) = false from this]; simp
theorem ruleFind_none (s : ByteArray) (H : ∀ j, j < 18 → ((ruleAt j).name.data.toList == s.data.toList) = false) : ruleFind s = none := by
  unfold ruleFind
  have hl : ruleList.length = 18 := by decide
  rw [List.findIdx?_eq_none_iff]
  intro o ho
  obtain ⟨j, hj, rfl⟩ := List.getElem_of_mem ho
  have := H j (by omega)
  unfold ruleAt at this
  rw [List.getElem?_eq_getElem hj] at this
  simpa using this
theorem cells_of (w : World) (g : Nat) (cs : Array Value) (t : TypeId) (h : w.heap[g]? = some (.cells cs t (0, 0))) (j : Nat) : w.cell? ⟨g, j, none⟩ = cs[j]? ∧ w.frozen? ⟨g, j, none⟩ = false :=
  ⟨cell_of_row w g j cs t _ h, frozen_of_row w g j cs t h⟩
theorem heap_kept {w w' : World} (hb : Below w.heap.size w w') {g : Nat} {o : Obj} (h : w.heap[g]? = some o) : w'.heap[g]? = some o := by
  rw [hb.block g (Array.getElem?_eq_some_iff.1 h).1]; exact h
structure FindRel (w wr : World) (s : ByteArray) (k : Nat) : Prop where
  res : wr.heap[w.heap.size]? = some (.cells #[.string ⟨#[]⟩, .nilFunc] 46 (0, 0))
  tab : wr.heap[w.heap.size + 1]? = some (.cells ruleCells 46 (0, 0))
  bel : Below w.heap.size w wr
  no : ∀ j, j < k → ((ruleAt j).name.data.toList == s.data.toList) = false
theorem FindRel.start (w : World) (s : ByteArray) : FindRel w ((w.alloc (.cells #[.string ⟨#[]⟩, .nilFunc] 46)).alloc (.cells ruleCells 46)) s 0 :=
  ⟨heap_alloc2_old w _ _, heap_alloc2_new w _ _, ((Below.refl _ _).alloc (Nat.le_refl _) _).alloc (by simp) _, by intro j hj; omega⟩
theorem FindRel.step {w wr : World} {s : ByteArray} {k : Nat} (H : FindRel w wr s k) (h : ((ruleAt k).name.data.toList == s.data.toList) = false) (o : Obj) : FindRel w (wr.alloc o) s (k + 1) := by
  refine ⟨?_, ?_, H.bel.alloc H.bel.size _, ?_⟩
  · rw [Below.heap_alloc wr o _ (Array.getElem?_eq_some_iff.1 H.res).1]; exact H.res
  · rw [Below.heap_alloc wr o _ (Array.getElem?_eq_some_iff.1 H.tab).1]; exact H.tab
  · intro j hj
    by_cases e : j = k
    · subst e; exact h
    · exact H.no j (by omega)

set_option maxHeartbeats 1000000 in
theorem find_any (s : ByteArray) (w : World) : Calls Try.prog 25 #[.string s] w fun e w' => e = .returned (ruleVal s) ∧ Below w.heap.size w w' := by
  go_enter Try.func25, Try.ntmps25
  go_wp2_with (go_at_call 38; refine (rules_any _).mono ?_; rintro e w1 ⟨rfl, hw1⟩)
  go_simp
  go_loopw [8] (fun i wr => ∃ k : Nat, k ≤ 18 ∧ i = .int .i64 k ∧ Hd (FindRel w wr s k)) (fun i _ => 18 - (intOf i).toNat)
  case atStart => exact ⟨0, by omega, rfl, ⟨by rw [hw1.out]; exact FindRel.start w s⟩⟩
  case round =>
    obtain ⟨k, hk, rfl, H⟩ := hrel
    clear hw1
    have hz : w.heap.size + 1 < wr.heap.size := (Array.getElem?_eq_some_iff.1 H.out.tab).1
    have hz0 : w.heap.size < wr.heap.size := by omega
    have r0 := (cells_of wr _ _ _ H.out.res 0).1
    have r1 := (cells_of wr _ _ _ H.out.res 1).1
    have z0 := (cells_of wr _ _ _ H.out.res 0).2
    have z1 := (cells_of wr _ _ _ H.out.res 1).2
    simp at r0 r1
    by_cases hlt : k < 18
    · have hcell := ruleCells_at k hlt
      have c0 : wr.cell? ⟨w.heap.size + 1, k * 2, none⟩ = some (.string (ruleAt k).name) := by rw [(cells_of wr _ _ _ H.out.tab _).1, Nat.mul_comm]; exact hcell.1
      have c1 : wr.cell? ⟨w.heap.size + 1, k * 2 + 1, none⟩ = some (.func (.func (ruleAt k).fn) #[] #[]) := by rw [(cells_of wr _ _ _ H.out.tab _).1, Nat.mul_comm]; exact hcell.2
      have he2 := toList_eq2 (ruleAt k).name s
      have hno := Hd.mk (fun h => H.out.step (k := k) h)
      have hyes := Hd.mk (fun h => ruleFind_some s k hlt H.out.no h)
      cases hq : ((ruleAt k).name.toList == s.toList)
      · have hq' := Hd.mk (he2.symm.trans hq)
        clear he2 hcell
        go_wp2
        go_roundw
        case rel => exact ⟨k + 1, by omega, by go_num, ⟨hno.out hq'.out _⟩⟩
        case measure => simp [intOf]; omega
      · have hq' := Hd.mk (he2.symm.trans hq)
        have hB := Hd.mk H.out.bel
        have hv : ruleVal s = .tuple #[.agg #[.string (ruleAt k).name, .func (.func (ruleAt k).fn) #[] #[]], .bool true] := by unfold ruleVal; rw [hyes.out hq'.out]
        have hv' := Hd.mk hv
        clear he2 hcell hv
        go_wp2
        rw [hv'.out]
        refine bodyPost_ret (v := .tuple #[.agg #[.string (ruleAt k).name, .func (.func (ruleAt k).fn) #[] #[]], .bool true]) (by simp [results, Try.results25, go_sem, r0, r1, hz0]) rfl ⟨rfl, ?_⟩
        exact ((hB.out.setCell (p := ⟨w.heap.size, 0, none⟩) (Nat.le_refl _) _).setCell (p := ⟨w.heap.size, 1, none⟩) (Nat.le_refl _) _).alloc (by simp; omega) _
    · obtain rfl : k = 18 := by omega
      have hv : ruleVal s = .tuple #[.agg #[.string ⟨#[]⟩, .nilFunc], .bool false] := by unfold ruleVal; rw [ruleFind_none s H.out.no]
      have hv' := Hd.mk hv
      have hB := Hd.mk H.out.bel
      clear hv
      go_wp2
      rw [hv'.out]
      refine bodyPost_ret (v := .tuple #[.agg #[.string ⟨#[]⟩, .nilFunc], .bool false]) (by simp [results, Try.results25, go_sem, r0, r1, hz0]) rfl ⟨rfl, ?_⟩
      exact (hB.out.setCell (p := ⟨w.heap.size, 0, none⟩) (Nat.le_refl _) _).setCell (p := ⟨w.heap.size, 1, none⟩) (Nat.le_refl _) _
end Go.Proofs.Ytmeebniadgngpaa
