/- The operations of package isa as data, and what its function operations gives. No conditions. -/
import Derived.Test.YtmeebniadgngpaaO1
namespace Go.Proofs.Ytmeebniadgngpaa
open Go.RowKit
set_option linter.unusedVariables false
set_option linter.unusedSimpArgs false

def isaList : List OpR := [
  ⟨⟨#[97, 100, 100]⟩, 1, 51, 0, 0, 0⟩,
  ⟨⟨#[115, 117, 98]⟩, 1, 51, 0, 32, 0⟩,
  ⟨⟨#[115, 108, 108]⟩, 1, 51, 1, 0, 0⟩,
  ⟨⟨#[115, 108, 116]⟩, 1, 51, 2, 0, 0⟩,
  ⟨⟨#[115, 108, 116, 117]⟩, 1, 51, 3, 0, 0⟩,
  ⟨⟨#[120, 111, 114]⟩, 1, 51, 4, 0, 0⟩,
  ⟨⟨#[115, 114, 108]⟩, 1, 51, 5, 0, 0⟩,
  ⟨⟨#[115, 114, 97]⟩, 1, 51, 5, 32, 0⟩,
  ⟨⟨#[111, 114]⟩, 1, 51, 6, 0, 0⟩,
  ⟨⟨#[97, 110, 100]⟩, 1, 51, 7, 0, 0⟩,
  ⟨⟨#[109, 117, 108]⟩, 1, 51, 0, 1, 0⟩,
  ⟨⟨#[109, 117, 108, 104]⟩, 1, 51, 1, 1, 0⟩,
  ⟨⟨#[109, 117, 108, 104, 115, 117]⟩, 1, 51, 2, 1, 0⟩,
  ⟨⟨#[109, 117, 108, 104, 117]⟩, 1, 51, 3, 1, 0⟩,
  ⟨⟨#[100, 105, 118]⟩, 1, 51, 4, 1, 0⟩,
  ⟨⟨#[100, 105, 118, 117]⟩, 1, 51, 5, 1, 0⟩,
  ⟨⟨#[114, 101, 109]⟩, 1, 51, 6, 1, 0⟩,
  ⟨⟨#[114, 101, 109, 117]⟩, 1, 51, 7, 1, 0⟩,
  ⟨⟨#[97, 100, 100, 119]⟩, 1, 59, 0, 0, 0⟩,
  ⟨⟨#[115, 117, 98, 119]⟩, 1, 59, 0, 32, 0⟩,
  ⟨⟨#[115, 108, 108, 119]⟩, 1, 59, 1, 0, 0⟩,
  ⟨⟨#[115, 114, 108, 119]⟩, 1, 59, 5, 0, 0⟩,
  ⟨⟨#[115, 114, 97, 119]⟩, 1, 59, 5, 32, 0⟩,
  ⟨⟨#[109, 117, 108, 119]⟩, 1, 59, 0, 1, 0⟩,
  ⟨⟨#[100, 105, 118, 119]⟩, 1, 59, 4, 1, 0⟩,
  ⟨⟨#[100, 105, 118, 117, 119]⟩, 1, 59, 5, 1, 0⟩,
  ⟨⟨#[114, 101, 109, 119]⟩, 1, 59, 6, 1, 0⟩,
  ⟨⟨#[114, 101, 109, 117, 119]⟩, 1, 59, 7, 1, 0⟩,
  ⟨⟨#[97, 100, 100, 105]⟩, 2, 19, 0, 0, 0⟩,
  ⟨⟨#[115, 108, 116, 105]⟩, 2, 19, 2, 0, 0⟩,
  ⟨⟨#[115, 108, 116, 105, 117]⟩, 2, 19, 3, 0, 0⟩,
  ⟨⟨#[120, 111, 114, 105]⟩, 2, 19, 4, 0, 0⟩,
  ⟨⟨#[111, 114, 105]⟩, 2, 19, 6, 0, 0⟩,
  ⟨⟨#[97, 110, 100, 105]⟩, 2, 19, 7, 0, 0⟩,
  ⟨⟨#[115, 108, 108, 105]⟩, 2, 19, 1, 0, 6⟩,
  ⟨⟨#[115, 114, 108, 105]⟩, 2, 19, 5, 0, 6⟩,
  ⟨⟨#[115, 114, 97, 105]⟩, 2, 19, 5, 16, 6⟩,
  ⟨⟨#[97, 100, 100, 105, 119]⟩, 2, 27, 0, 0, 0⟩,
  ⟨⟨#[115, 108, 108, 105, 119]⟩, 2, 27, 1, 0, 5⟩,
  ⟨⟨#[115, 114, 108, 105, 119]⟩, 2, 27, 5, 0, 5⟩,
  ⟨⟨#[115, 114, 97, 105, 119]⟩, 2, 27, 5, 32, 5⟩,
  ⟨⟨#[108, 98]⟩, 3, 3, 0, 0, 0⟩,
  ⟨⟨#[108, 104]⟩, 3, 3, 1, 0, 0⟩,
  ⟨⟨#[108, 119]⟩, 3, 3, 2, 0, 0⟩,
  ⟨⟨#[108, 100]⟩, 3, 3, 3, 0, 0⟩,
  ⟨⟨#[108, 98, 117]⟩, 3, 3, 4, 0, 0⟩,
  ⟨⟨#[108, 104, 117]⟩, 3, 3, 5, 0, 0⟩,
  ⟨⟨#[108, 119, 117]⟩, 3, 3, 6, 0, 0⟩,
  ⟨⟨#[99, 108, 99]⟩, 3, 15, 2, 0, 0⟩,
  ⟨⟨#[115, 98]⟩, 4, 35, 0, 0, 0⟩,
  ⟨⟨#[115, 104]⟩, 4, 35, 1, 0, 0⟩,
  ⟨⟨#[115, 119]⟩, 4, 35, 2, 0, 0⟩,
  ⟨⟨#[115, 100]⟩, 4, 35, 3, 0, 0⟩,
  ⟨⟨#[99, 115, 99]⟩, 4, 35, 4, 0, 0⟩,
  ⟨⟨#[98, 101, 113]⟩, 5, 99, 0, 0, 0⟩,
  ⟨⟨#[98, 110, 101]⟩, 5, 99, 1, 0, 0⟩,
  ⟨⟨#[98, 108, 116]⟩, 5, 99, 4, 0, 0⟩,
  ⟨⟨#[98, 103, 101]⟩, 5, 99, 5, 0, 0⟩,
  ⟨⟨#[98, 108, 116, 117]⟩, 5, 99, 6, 0, 0⟩,
  ⟨⟨#[98, 103, 101, 117]⟩, 5, 99, 7, 0, 0⟩,
  ⟨⟨#[108, 117, 105]⟩, 6, 55, 0, 0, 0⟩,
  ⟨⟨#[97, 117, 105, 112, 99, 99]⟩, 6, 23, 0, 0, 0⟩,
  ⟨⟨#[99, 106, 97, 108]⟩, 7, 111, 0, 0, 0⟩,
  ⟨⟨#[99, 106, 97, 108, 114]⟩, 3, 103, 0, 0, 0⟩,
  ⟨⟨#[101, 99, 97, 108, 108]⟩, 9, 115, 0, 0, 0⟩,
  ⟨⟨#[101, 98, 114, 101, 97, 107]⟩, 9, 115, 0, 1, 0⟩,
  ⟨⟨#[99, 115, 101, 116, 98, 111, 117, 110, 100, 115]⟩, 1, 91, 0, 8, 0⟩,
  ⟨⟨#[99, 97, 110, 100, 112, 101, 114, 109]⟩, 1, 91, 0, 13, 0⟩,
  ⟨⟨#[99, 115, 101, 97, 108]⟩, 1, 91, 0, 11, 0⟩,
  ⟨⟨#[99, 117, 110, 115, 101, 97, 108]⟩, 1, 91, 0, 12, 0⟩,
  ⟨⟨#[99, 115, 101, 116, 97, 100, 100, 114]⟩, 1, 91, 0, 16, 0⟩,
  ⟨⟨#[99, 105, 110, 99, 97, 100, 100, 114]⟩, 1, 91, 0, 17, 0⟩,
  ⟨⟨#[99, 116, 101, 115, 116, 115, 117, 98, 115, 101, 116]⟩, 1, 91, 0, 32, 0⟩,
  ⟨⟨#[99, 105, 110, 118, 111, 107, 101]⟩, 10, 91, 0, 126, 0⟩,
  ⟨⟨#[99, 103, 101, 116, 112, 101, 114, 109]⟩, 8, 91, 0, 0, 0⟩,
  ⟨⟨#[99, 103, 101, 116, 116, 121, 112, 101]⟩, 8, 91, 0, 1, 0⟩,
  ⟨⟨#[99, 103, 101, 116, 98, 97, 115, 101]⟩, 8, 91, 0, 2, 0⟩,
  ⟨⟨#[99, 103, 101, 116, 108, 101, 110]⟩, 8, 91, 0, 3, 0⟩,
  ⟨⟨#[99, 103, 101, 116, 116, 97, 103]⟩, 8, 91, 0, 4, 0⟩,
  ⟨⟨#[99, 109, 111, 118, 101]⟩, 8, 91, 0, 10, 0⟩,
  ⟨⟨#[99, 99, 108, 101, 97, 114, 116, 97, 103]⟩, 8, 91, 0, 11, 0⟩,
  ⟨⟨#[99, 103, 101, 116, 97, 100, 100, 114]⟩, 8, 91, 0, 15, 0⟩]
/-- The program's table has the reference's names and kinds; the codes are its own. -/
theorem isaList_eq : isaList.map (fun o => (o.name.data, o.kind)) = opList.map (fun o => (o.name.data, o.kind)) := by decide
def OpR.pcells (o : OpR) : List Value := [.string o.name, .int .i64 o.kind, .int .u32 o.code, .int .u32 o.f3, .int .u32 o.f7, .int .i64 o.shift]
def isaCells : Array Value := (isaList.flatMap OpR.pcells).toArray

def builds (P : Program) (ev : Array Value → Operand → Value) : List Oper → Array Value → Option (Array Value)
  | [], t => some t
  | o :: l, t => match o.op, o.dst, o.guard with
    | .build ty parts, some d, none => match P.built ty (parts.map fun (i, x) => (i, ev t x)).toList with
      | some cs => builds P ev l (t.setIfInBounds d (.agg cs))
      | none => none
    | _, _, _ => none
theorem wpl_builds {P : Program} {ops : Array Oper} {Q : Exit → Act → World → Prop} {w : World} : ∀ (L rest : List Oper) (t t' : Array Value) (ds : List Deferred),
    builds P (fun t x => Act.eval { tmps := t, defers := [] } x) L t = some t' → wpList P ops Q rest { tmps := t', defers := ds } w → wpList P ops Q (L ++ rest) { tmps := t, defers := ds } w
  | [], rest, t, t', ds, h, hk => by simp only [builds, Option.some.injEq] at h; subst h; exact hk
  | o :: l, rest, t, t', ds, h, hk => by
    unfold builds at h
    split at h
    · rename_i ty parts d ho hd hg
      split at h
      · rename_i cs hb
        refine wpList_plain hg fun K hK => wp_build ty parts ho ?_ ?_
        · have e : (parts.map fun (i, x) => (i, Act.eval { tmps := t, defers := ds } x)) = (parts.map fun (i, x) => (i, Act.eval { tmps := t, defers := [] } x)) := by
            apply congrArg (fun f => parts.map f); funext x; cases x with | mk i x => cases x <;> rfl
          rw [e, hb]; rfl
        · have e : (parts.map fun (i, x) => (i, Act.eval { tmps := t, defers := ds } x)) = (parts.map fun (i, x) => (i, Act.eval { tmps := t, defers := [] } x)) := by
            apply congrArg (fun f => parts.map f); funext x; cases x with | mk i x => cases x <;> rfl
          rw [e, hb]
          refine hK _ _ ?_
          rw [hd]
          exact wpl_builds l rest _ t' ds h hk
      · cases h
    · cases h
theorem wpl_builds_n {P : Program} {ops : Array Oper} {Q : Exit → Act → World → Prop} {w : World} (n : Nat) (L : List Oper) (t t' : Array Value) (ds : List Deferred)
    (h : builds P (fun t x => Act.eval { tmps := t, defers := [] } x) (L.take n) t = some t') (hk : wpList P ops Q (L.drop n) { tmps := t', defers := ds } w) : wpList P ops Q L { tmps := t, defers := ds } w := by
  have e := List.take_append_drop n L
  rw [← e]
  exact wpl_builds _ _ t t' ds h hk
def opsTmps (p : Value) : Array Value := #[p] ++ (isaList.map fun o => Value.agg o.pcells.toArray).toArray ++ #[.agg isaCells]
theorem wpl_alloc_z {P : Program} {ops : Array Oper} {rest : List Oper} {o : Oper} {a : Act} {w : World} {Q : Exit → Act → World → Prop} (hg : o.guard = none) (t : TypeId) (ho : o.op = .alloc t)
    (z : Value) (hz : (P.info? t).bind (·.zero) = some z) (h : wpList P ops Q rest (a.put o.dst (.pointer (some ⟨w.heap.size, 0, none⟩))) (w.alloc (.cells z.cells t))) : wpList P ops Q (o :: rest) a w := by
  refine wpList_plain hg fun K hK => ?_
  obtain ⟨i, hi, hz'⟩ := Option.bind_eq_some_iff.1 hz
  have hr : (execOp a.eval o).run P w = .ok (.value (.pointer (some ⟨w.heap.size, 0, none⟩))) (w.alloc (.cells z.cells t)) := by
    unfold execOp
    simp only [ho]
    simp [Instr.alloc, zeroValue, typeInfo, hi, hz', newVar, newRow, newObj, Sem.run]
  unfold Oper.wp
  rw [hr]
  exact hK _ _ h
def storeAt (L : List Oper) : Option (TypeId × Operand × Operand) := match L with
  | [o] => match o.op, o.dst, o.guard with
    | .store ty x y, none, none => some (ty, x, y)
    | _, _, _ => none
  | _ => none
theorem wpl_store_last {P : Program} {ops : Array Oper} {L : List Oper} {a : Act} {w : World} {Q : Exit → Act → World → Prop} (ty : TypeId) (x y : Operand) (hL : storeAt L = some (ty, x, y))
    (g : Nat) (cells : Array Value) (hx : a.eval x = .pointer (some ⟨g, 0, none⟩)) (hy : a.eval y = .agg cells)
    (t : TypeId) (old : Array Value) (hg : w.heap[g]? = some (.cells old t (0, 0))) (hi : (P.info? ty).map (·.size) = some cells.size)
    (hold : old.size = cells.size) (h1 : cells.all (·.oneCell') = true)
    (h : Q .normal a (w.setRow g cells)) : wpList P ops Q L a w := by
  obtain ⟨o, rfl, ho, hd, hg'⟩ : ∃ o, L = [o] ∧ o.op = .store ty x y ∧ o.dst = none ∧ o.guard = none := by
    unfold storeAt at hL
    split at hL
    · rename_i o
      split at hL
      · rename_i ty' x' y' ho hd hg'
        simp only [Option.some.injEq, Prod.mk.injEq] at hL
        obtain ⟨rfl, rfl, rfl⟩ := hL
        exact ⟨o, rfl, ho, hd, hg'⟩
      · cases hL
    · cases hL
  refine wpList_store_row hg' _ _ _ ho g cells hx hy t old hg hi hold h1 ?_
  rw [hd]
  exact wpList_nil h
theorem belowSetRow {B g : Nat} {w0 w : World} (hb : Below B w0 w) (hBg : B ≤ g) (cs : Array Value) : Below B w0 (w.setRow g cs) :=
  ⟨hb.os, hb.tape, hb.output, by rw [setRow_size]; exact hb.size, fun i hi => by rw [setRow_other _ _ _ _ (by omega)]; exact hb.block i hi⟩
theorem opt_split {α β : Type} {x : Option α} {f : α → β} {b : β} (h : x.map f = some b) : ∃ a, x = some a ∧ f a = b := Option.map_eq_some_iff.1 h
theorem info82 : (Try.prog.info? 58).map (fun i => (i.zero.map (fun v => v.cells.size))) = some (some 492) := by kernel_rfl
theorem zero82 : ∃ z, (Try.prog.info? 58).bind (·.zero) = some z ∧ z.cells.size = 492 := by
  obtain ⟨i, h1, h2⟩ := opt_split info82
  obtain ⟨z, h3, h4⟩ := opt_split h2
  exact ⟨z, by rw [h1]; exact h3, h4⟩
theorem isaCells_size : isaCells.size = 492 := by kernel_rfl
theorem isaCells_one : isaCells.all (·.oneCell') = true := by kernel_rfl
theorem operations_any (w : World) : Calls Try.prog 37 #[] w fun e w' => e = .returned (.agg isaCells) ∧ Below w.heap.size w w' := by
  obtain ⟨z, hz, hzs⟩ := zero82
  have hz' := Hd.mk hz
  have hzs' := Hd.mk hzs
  clear hz hzs
  go_enter Try.func37, Try.ntmps37
  go_step
  go_step
  go_step
  refine wpl_alloc_z rfl 58 rfl z hz'.out ?_
  go_step
  go_step
  go_step
  go_step
  go_step
  refine wpl_builds_n 83 _ _ (opsTmps (.pointer (some ⟨w.heap.size, 0, none⟩))) _ (by as_aux_lemma => kernel_rfl) ?_
  refine wpl_store_last 58 (.tmp 0) (.tmp 83) (by as_aux_lemma => kernel_rfl) w.heap.size isaCells (by as_aux_lemma => kernel_rfl) (by as_aux_lemma => kernel_rfl) 58 z.cells (heap_alloc_new w _) (by as_aux_lemma => kernel_rfl) (by rw [hzs'.out, isaCells_size]) isaCells_one ?_
  go_step
  go_step
  go_step
  refine bodyPost_ret (results_cell_row rfl _ _ w.heap.size 58 isaCells (0, 0) _ (by as_aux_lemma => kernel_rfl) (setRow_heap _ _ _ _ _ _ (heap_alloc_new w _)) Try.underlying58 rfl (by as_aux_lemma => kernel_rfl)) rfl ⟨rfl, ?_⟩
  exact belowSetRow ((Below.refl _ _).alloc (Nat.le_refl _) _) (Nat.le_refl _) _

theorem known_any (op : Int) (w : World) :
    Calls Try.prog 36 #[.int .i64 op] w fun e w' => e = .returned (.bool (decide (1 ≤ op) && decide (op ≤ 82))) ∧ Below w.heap.size w w' := by
  by_cases h : 1 ≤ op
  · have hb : decide (1 ≤ op) = true := by simpa using h
    go_enter Try.func36, Try.ntmps36
    go_wp2_with (go_at_call 37; refine (operations_any _).mono ?_; rintro e w' ⟨rfl, hb1⟩)
    go_ret
    exact ⟨by simp [h], hb1⟩
  · have hb : decide (1 ≤ op) = false := by simpa using h
    go_enter Try.func36, Try.ntmps36
    go_wp2_with (go_at_call 37; refine (operations_any _).mono ?_; rintro e w' ⟨rfl, hb1⟩)
    go_ret
    exact ⟨by simp [h], Below.refl _ _⟩
end Go.Proofs.Ytmeebniadgngpaa
