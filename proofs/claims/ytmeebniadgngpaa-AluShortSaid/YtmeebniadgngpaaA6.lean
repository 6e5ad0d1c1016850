/- What package alu reckons: Reckon. No conditions. -/
import Derived.Test.YtmeebniadgngpaaA5
namespace Go.Proofs.Ytmeebniadgngpaa
open Go.RowKit
set_option linter.unusedVariables false
set_option linter.unusedSimpArgs false


def ruleNames : List ByteArray := [⟨#[97, 100, 100]⟩, ⟨#[115, 117, 98]⟩, ⟨#[115, 108, 108]⟩, ⟨#[115, 108, 116]⟩, ⟨#[115, 108, 116, 117]⟩, ⟨#[120, 111, 114]⟩, ⟨#[115, 114, 108]⟩, ⟨#[115, 114, 97]⟩, ⟨#[111, 114]⟩, ⟨#[97, 110, 100]⟩, ⟨#[109, 117, 108]⟩, ⟨#[109, 117, 108, 104]⟩, ⟨#[109, 117, 108, 104, 115, 117]⟩, ⟨#[109, 117, 108, 104, 117]⟩, ⟨#[100, 105, 118]⟩, ⟨#[100, 105, 118, 117]⟩, ⟨#[114, 101, 109]⟩, ⟨#[114, 101, 109, 117]⟩]
def shortNames : List ByteArray := [⟨#[97, 100, 100, 119]⟩, ⟨#[115, 117, 98, 119]⟩, ⟨#[115, 108, 108, 119]⟩, ⟨#[115, 114, 108, 119]⟩, ⟨#[115, 114, 97, 119]⟩, ⟨#[109, 117, 108, 119]⟩, ⟨#[100, 105, 118, 119]⟩, ⟨#[100, 105, 118, 117, 119]⟩, ⟨#[114, 101, 109, 119]⟩, ⟨#[114, 101, 109, 117, 119]⟩]
def shortFind (s : ByteArray) : Option Nat := shortNames.findIdx? (fun t => t.data.toList == s.data.toList)
/-- What an operation of a name (already plain) reckons. -/
def aluP (p : ByteArray) (a b : BitVec 64) : Option (BitVec 64) := match ruleFind p with
  | some k => some (ruleF k a b)
  | none => (shortFind p).map fun n => shortF n a b
def okV (o : Option (BitVec 64)) : Value := match o with
  | some v => .tuple #[U v, .bool true]
  | none => .tuple #[.int .u64 0, .bool false]
theorem find_none (s : ByteArray) (h : ruleFind s = none) (w : World) : Calls Try.prog 25 #[.string s] w fun e w' => e = .returned (.tuple #[.agg #[.string ⟨#[]⟩, .nilFunc], .bool false]) ∧ Below w.heap.size w w' := by
  have h' := find_any s w
  rw [ruleVal_none h] at h'
  exact h'
theorem ruleFind_no (s : ByteArray) (H : ∀ t ∈ ruleNames, (s.toList == t.data.toList) = false) : ruleFind s = none := by
  refine ruleFind_none s ?_
  intro j hj
  have hm : (ruleAt j).name ∈ ruleNames := by
    have hc : j = 0 ∨ j = 1 ∨ j = 2 ∨ j = 3 ∨ j = 4 ∨ j = 5 ∨ j = 6 ∨ j = 7 ∨ j = 8 ∨ j = 9 ∨ j = 10 ∨ j = 11 ∨ j = 12 ∨ j = 13 ∨ j = 14 ∨ j = 15 ∨ j = 16 ∨ j = 17 := by omega
    refine List.mem_of_getElem? (i := j) ?_
    rcases hc with rfl | rfl | rfl | rfl | rfl | rfl | rfl | rfl | rfl | rfl | rfl | rfl | rfl | rfl | rfl | rfl | rfl | rfl <;> rfl
  have := H _ hm
  rw [ByteArray.toList_eq] at this
  rw [Bool.eq_false_iff] at this ⊢
  intro e
  apply this
  rw [beq_iff_eq] at e ⊢
  exact e.symm
theorem shortFind_no (s : ByteArray) (H : ∀ t ∈ shortNames, (s.toList == t.data.toList) = false) : shortFind s = none := by
  unfold shortFind
  rw [List.findIdx?_eq_none_iff]
  intro t ht
  have := H t ht
  rw [ByteArray.toList_eq] at this
  rw [Bool.eq_false_iff] at this ⊢
  intro e
  apply this
  rw [beq_iff_eq] at e ⊢
  exact e.symm
theorem reckon_add (op : Int) (hp : ∀ w, Calls Try.prog 23 #[.string (opAt op).name] w fun e w' => e = .returned (.string ⟨#[97, 100, 100]⟩) ∧ w = w') (a b : BitVec 64) (w : World) :
    Calls Try.prog 12 #[.int .i64 op, U a, U b] w fun e w' => e = .returned (.tuple #[U (ruleF 0 a b), .bool true]) ∧ Below w.heap.size w w' := by
  go_enter Try.func12, Try.ntmps12
  go_wp2_with (first
    | (go_at_call 24; refine (Name_any _ _).mono ?_; rintro e w1 ⟨rfl, hb1⟩)
    | (go_at_call 23; refine (hp _).mono ?_; rintro e w' ⟨rfl, rfl⟩)
    | (go_at_call 25; refine (find_add _).mono ?_; rintro e w2 ⟨rfl, hb2⟩)
    | (go_at_call 46; refine (rule_1 _ _ _).mono ?_; rintro e w' ⟨rfl, rfl⟩))
  go_ret2
  exact ⟨rfl, (hb1.trans (hb2.mono hb1.size)).alloc (by have := hb1.size; have := hb2.size; omega) _⟩
theorem reckon_sub (op : Int) (hp : ∀ w, Calls Try.prog 23 #[.string (opAt op).name] w fun e w' => e = .returned (.string ⟨#[115, 117, 98]⟩) ∧ w = w') (a b : BitVec 64) (w : World) :
    Calls Try.prog 12 #[.int .i64 op, U a, U b] w fun e w' => e = .returned (.tuple #[U (ruleF 1 a b), .bool true]) ∧ Below w.heap.size w w' := by
  go_enter Try.func12, Try.ntmps12
  go_wp2_with (first
    | (go_at_call 24; refine (Name_any _ _).mono ?_; rintro e w1 ⟨rfl, hb1⟩)
    | (go_at_call 23; refine (hp _).mono ?_; rintro e w' ⟨rfl, rfl⟩)
    | (go_at_call 25; refine (find_sub _).mono ?_; rintro e w2 ⟨rfl, hb2⟩)
    | (go_at_call 47; refine (rule_2 _ _ _).mono ?_; rintro e w' ⟨rfl, rfl⟩))
  go_ret2
  exact ⟨rfl, (hb1.trans (hb2.mono hb1.size)).alloc (by have := hb1.size; have := hb2.size; omega) _⟩
theorem reckon_sll (op : Int) (hp : ∀ w, Calls Try.prog 23 #[.string (opAt op).name] w fun e w' => e = .returned (.string ⟨#[115, 108, 108]⟩) ∧ w = w') (a b : BitVec 64) (w : World) :
    Calls Try.prog 12 #[.int .i64 op, U a, U b] w fun e w' => e = .returned (.tuple #[U (ruleF 2 a b), .bool true]) ∧ Below w.heap.size w w' := by
  go_enter Try.func12, Try.ntmps12
  go_wp2_with (first
    | (go_at_call 24; refine (Name_any _ _).mono ?_; rintro e w1 ⟨rfl, hb1⟩)
    | (go_at_call 23; refine (hp _).mono ?_; rintro e w' ⟨rfl, rfl⟩)
    | (go_at_call 25; refine (find_sll _).mono ?_; rintro e w2 ⟨rfl, hb2⟩)
    | (go_at_call 48; refine (rule_3 _ _ _).mono ?_; rintro e w' ⟨rfl, rfl⟩))
  go_ret2
  exact ⟨rfl, (hb1.trans (hb2.mono hb1.size)).alloc (by have := hb1.size; have := hb2.size; omega) _⟩
theorem reckon_slt (op : Int) (hp : ∀ w, Calls Try.prog 23 #[.string (opAt op).name] w fun e w' => e = .returned (.string ⟨#[115, 108, 116]⟩) ∧ w = w') (a b : BitVec 64) (w : World) :
    Calls Try.prog 12 #[.int .i64 op, U a, U b] w fun e w' => e = .returned (.tuple #[U (ruleF 3 a b), .bool true]) ∧ Below w.heap.size w w' := by
  go_enter Try.func12, Try.ntmps12
  go_wp2_with (first
    | (go_at_call 24; refine (Name_any _ _).mono ?_; rintro e w1 ⟨rfl, hb1⟩)
    | (go_at_call 23; refine (hp _).mono ?_; rintro e w' ⟨rfl, rfl⟩)
    | (go_at_call 25; refine (find_slt _).mono ?_; rintro e w2 ⟨rfl, hb2⟩)
    | (go_at_call 49; refine (rule_4 _ _ _).mono ?_; rintro e w' ⟨rfl, rfl⟩))
  go_ret2
  exact ⟨rfl, (hb1.trans (hb2.mono hb1.size)).alloc (by have := hb1.size; have := hb2.size; omega) _⟩
theorem reckon_sltu (op : Int) (hp : ∀ w, Calls Try.prog 23 #[.string (opAt op).name] w fun e w' => e = .returned (.string ⟨#[115, 108, 116, 117]⟩) ∧ w = w') (a b : BitVec 64) (w : World) :
    Calls Try.prog 12 #[.int .i64 op, U a, U b] w fun e w' => e = .returned (.tuple #[U (ruleF 4 a b), .bool true]) ∧ Below w.heap.size w w' := by
  go_enter Try.func12, Try.ntmps12
  go_wp2_with (first
    | (go_at_call 24; refine (Name_any _ _).mono ?_; rintro e w1 ⟨rfl, hb1⟩)
    | (go_at_call 23; refine (hp _).mono ?_; rintro e w' ⟨rfl, rfl⟩)
    | (go_at_call 25; refine (find_sltu _).mono ?_; rintro e w2 ⟨rfl, hb2⟩)
    | (go_at_call 51; refine (rule_5 _ _ _).mono ?_; rintro e w' ⟨rfl, rfl⟩))
  go_ret2
  exact ⟨rfl, (hb1.trans (hb2.mono hb1.size)).alloc (by have := hb1.size; have := hb2.size; omega) _⟩
theorem reckon_xor (op : Int) (hp : ∀ w, Calls Try.prog 23 #[.string (opAt op).name] w fun e w' => e = .returned (.string ⟨#[120, 111, 114]⟩) ∧ w = w') (a b : BitVec 64) (w : World) :
    Calls Try.prog 12 #[.int .i64 op, U a, U b] w fun e w' => e = .returned (.tuple #[U (ruleF 5 a b), .bool true]) ∧ Below w.heap.size w w' := by
  go_enter Try.func12, Try.ntmps12
  go_wp2_with (first
    | (go_at_call 24; refine (Name_any _ _).mono ?_; rintro e w1 ⟨rfl, hb1⟩)
    | (go_at_call 23; refine (hp _).mono ?_; rintro e w' ⟨rfl, rfl⟩)
    | (go_at_call 25; refine (find_xor _).mono ?_; rintro e w2 ⟨rfl, hb2⟩)
    | (go_at_call 52; refine (rule_6 _ _ _).mono ?_; rintro e w' ⟨rfl, rfl⟩))
  go_ret2
  exact ⟨rfl, (hb1.trans (hb2.mono hb1.size)).alloc (by have := hb1.size; have := hb2.size; omega) _⟩
theorem reckon_srl (op : Int) (hp : ∀ w, Calls Try.prog 23 #[.string (opAt op).name] w fun e w' => e = .returned (.string ⟨#[115, 114, 108]⟩) ∧ w = w') (a b : BitVec 64) (w : World) :
    Calls Try.prog 12 #[.int .i64 op, U a, U b] w fun e w' => e = .returned (.tuple #[U (ruleF 6 a b), .bool true]) ∧ Below w.heap.size w w' := by
  go_enter Try.func12, Try.ntmps12
  go_wp2_with (first
    | (go_at_call 24; refine (Name_any _ _).mono ?_; rintro e w1 ⟨rfl, hb1⟩)
    | (go_at_call 23; refine (hp _).mono ?_; rintro e w' ⟨rfl, rfl⟩)
    | (go_at_call 25; refine (find_srl _).mono ?_; rintro e w2 ⟨rfl, hb2⟩)
    | (go_at_call 53; refine (rule_7 _ _ _).mono ?_; rintro e w' ⟨rfl, rfl⟩))
  go_ret2
  exact ⟨rfl, (hb1.trans (hb2.mono hb1.size)).alloc (by have := hb1.size; have := hb2.size; omega) _⟩
theorem reckon_sra (op : Int) (hp : ∀ w, Calls Try.prog 23 #[.string (opAt op).name] w fun e w' => e = .returned (.string ⟨#[115, 114, 97]⟩) ∧ w = w') (a b : BitVec 64) (w : World) :
    Calls Try.prog 12 #[.int .i64 op, U a, U b] w fun e w' => e = .returned (.tuple #[U (ruleF 7 a b), .bool true]) ∧ Below w.heap.size w w' := by
  go_enter Try.func12, Try.ntmps12
  go_wp2_with (first
    | (go_at_call 24; refine (Name_any _ _).mono ?_; rintro e w1 ⟨rfl, hb1⟩)
    | (go_at_call 23; refine (hp _).mono ?_; rintro e w' ⟨rfl, rfl⟩)
    | (go_at_call 25; refine (find_sra _).mono ?_; rintro e w2 ⟨rfl, hb2⟩)
    | (go_at_call 54; refine (rule_8 _ _ _).mono ?_; rintro e w' ⟨rfl, rfl⟩))
  go_ret2
  exact ⟨rfl, (hb1.trans (hb2.mono hb1.size)).alloc (by have := hb1.size; have := hb2.size; omega) _⟩
theorem reckon_or (op : Int) (hp : ∀ w, Calls Try.prog 23 #[.string (opAt op).name] w fun e w' => e = .returned (.string ⟨#[111, 114]⟩) ∧ w = w') (a b : BitVec 64) (w : World) :
    Calls Try.prog 12 #[.int .i64 op, U a, U b] w fun e w' => e = .returned (.tuple #[U (ruleF 8 a b), .bool true]) ∧ Below w.heap.size w w' := by
  go_enter Try.func12, Try.ntmps12
  go_wp2_with (first
    | (go_at_call 24; refine (Name_any _ _).mono ?_; rintro e w1 ⟨rfl, hb1⟩)
    | (go_at_call 23; refine (hp _).mono ?_; rintro e w' ⟨rfl, rfl⟩)
    | (go_at_call 25; refine (find_or _).mono ?_; rintro e w2 ⟨rfl, hb2⟩)
    | (go_at_call 55; refine (rule_9 _ _ _).mono ?_; rintro e w' ⟨rfl, rfl⟩))
  go_ret2
  exact ⟨rfl, (hb1.trans (hb2.mono hb1.size)).alloc (by have := hb1.size; have := hb2.size; omega) _⟩
theorem reckon_and (op : Int) (hp : ∀ w, Calls Try.prog 23 #[.string (opAt op).name] w fun e w' => e = .returned (.string ⟨#[97, 110, 100]⟩) ∧ w = w') (a b : BitVec 64) (w : World) :
    Calls Try.prog 12 #[.int .i64 op, U a, U b] w fun e w' => e = .returned (.tuple #[U (ruleF 9 a b), .bool true]) ∧ Below w.heap.size w w' := by
  go_enter Try.func12, Try.ntmps12
  go_wp2_with (first
    | (go_at_call 24; refine (Name_any _ _).mono ?_; rintro e w1 ⟨rfl, hb1⟩)
    | (go_at_call 23; refine (hp _).mono ?_; rintro e w' ⟨rfl, rfl⟩)
    | (go_at_call 25; refine (find_and _).mono ?_; rintro e w2 ⟨rfl, hb2⟩)
    | (go_at_call 56; refine (rule_10 _ _ _).mono ?_; rintro e w' ⟨rfl, rfl⟩))
  go_ret2
  exact ⟨rfl, (hb1.trans (hb2.mono hb1.size)).alloc (by have := hb1.size; have := hb2.size; omega) _⟩
theorem reckon_mul (op : Int) (hp : ∀ w, Calls Try.prog 23 #[.string (opAt op).name] w fun e w' => e = .returned (.string ⟨#[109, 117, 108]⟩) ∧ w = w') (a b : BitVec 64) (w : World) :
    Calls Try.prog 12 #[.int .i64 op, U a, U b] w fun e w' => e = .returned (.tuple #[U (ruleF 10 a b), .bool true]) ∧ Below w.heap.size w w' := by
  go_enter Try.func12, Try.ntmps12
  go_wp2_with (first
    | (go_at_call 24; refine (Name_any _ _).mono ?_; rintro e w1 ⟨rfl, hb1⟩)
    | (go_at_call 23; refine (hp _).mono ?_; rintro e w' ⟨rfl, rfl⟩)
    | (go_at_call 25; refine (find_mul _).mono ?_; rintro e w2 ⟨rfl, hb2⟩)
    | (go_at_call 57; refine (rule_11 _ _ _).mono ?_; rintro e w' ⟨rfl, rfl⟩))
  go_ret2
  exact ⟨rfl, (hb1.trans (hb2.mono hb1.size)).alloc (by have := hb1.size; have := hb2.size; omega) _⟩
theorem reckon_mulh (op : Int) (hp : ∀ w, Calls Try.prog 23 #[.string (opAt op).name] w fun e w' => e = .returned (.string ⟨#[109, 117, 108, 104]⟩) ∧ w = w') (a b : BitVec 64) (w : World) :
    Calls Try.prog 12 #[.int .i64 op, U a, U b] w fun e w' => e = .returned (.tuple #[U (ruleF 11 a b), .bool true]) ∧ Below w.heap.size w w' := by
  go_enter Try.func12, Try.ntmps12
  go_wp2_with (first
    | (go_at_call 24; refine (Name_any _ _).mono ?_; rintro e w1 ⟨rfl, hb1⟩)
    | (go_at_call 23; refine (hp _).mono ?_; rintro e w' ⟨rfl, rfl⟩)
    | (go_at_call 25; refine (find_mulh _).mono ?_; rintro e w2 ⟨rfl, hb2⟩)
    | (go_at_call 58; refine (rule_12 _ _ _).mono ?_; rintro e w' ⟨rfl, rfl⟩))
  go_ret2
  exact ⟨rfl, (hb1.trans (hb2.mono hb1.size)).alloc (by have := hb1.size; have := hb2.size; omega) _⟩
theorem reckon_mulhsu (op : Int) (hp : ∀ w, Calls Try.prog 23 #[.string (opAt op).name] w fun e w' => e = .returned (.string ⟨#[109, 117, 108, 104, 115, 117]⟩) ∧ w = w') (a b : BitVec 64) (w : World) :
    Calls Try.prog 12 #[.int .i64 op, U a, U b] w fun e w' => e = .returned (.tuple #[U (ruleF 12 a b), .bool true]) ∧ Below w.heap.size w w' := by
  go_enter Try.func12, Try.ntmps12
  go_wp2_with (first
    | (go_at_call 24; refine (Name_any _ _).mono ?_; rintro e w1 ⟨rfl, hb1⟩)
    | (go_at_call 23; refine (hp _).mono ?_; rintro e w' ⟨rfl, rfl⟩)
    | (go_at_call 25; refine (find_mulhsu _).mono ?_; rintro e w2 ⟨rfl, hb2⟩)
    | (go_at_call 60; refine (rule_13 _ _ _).mono ?_; rintro e w' ⟨rfl, rfl⟩))
  go_ret2
  exact ⟨rfl, (hb1.trans (hb2.mono hb1.size)).alloc (by have := hb1.size; have := hb2.size; omega) _⟩
theorem reckon_mulhu (op : Int) (hp : ∀ w, Calls Try.prog 23 #[.string (opAt op).name] w fun e w' => e = .returned (.string ⟨#[109, 117, 108, 104, 117]⟩) ∧ w = w') (a b : BitVec 64) (w : World) :
    Calls Try.prog 12 #[.int .i64 op, U a, U b] w fun e w' => e = .returned (.tuple #[U (ruleF 13 a b), .bool true]) ∧ Below w.heap.size w w' := by
  go_enter Try.func12, Try.ntmps12
  go_wp2_with (first
    | (go_at_call 24; refine (Name_any _ _).mono ?_; rintro e w1 ⟨rfl, hb1⟩)
    | (go_at_call 23; refine (hp _).mono ?_; rintro e w' ⟨rfl, rfl⟩)
    | (go_at_call 25; refine (find_mulhu _).mono ?_; rintro e w2 ⟨rfl, hb2⟩)
    | (go_at_call 61; refine (rule_14 _ _ _).mono ?_; rintro e w' ⟨rfl, rfl⟩))
  go_ret2
  exact ⟨rfl, (hb1.trans (hb2.mono hb1.size)).alloc (by have := hb1.size; have := hb2.size; omega) _⟩
theorem reckon_div (op : Int) (hp : ∀ w, Calls Try.prog 23 #[.string (opAt op).name] w fun e w' => e = .returned (.string ⟨#[100, 105, 118]⟩) ∧ w = w') (a b : BitVec 64) (w : World) :
    Calls Try.prog 12 #[.int .i64 op, U a, U b] w fun e w' => e = .returned (.tuple #[U (ruleF 14 a b), .bool true]) ∧ Below w.heap.size w w' := by
  go_enter Try.func12, Try.ntmps12
  go_wp2_with (first
    | (go_at_call 24; refine (Name_any _ _).mono ?_; rintro e w1 ⟨rfl, hb1⟩)
    | (go_at_call 23; refine (hp _).mono ?_; rintro e w' ⟨rfl, rfl⟩)
    | (go_at_call 25; refine (find_div _).mono ?_; rintro e w2 ⟨rfl, hb2⟩)
    | (go_at_call 62; refine (rule_15 _ _ _).mono ?_; rintro e w' ⟨rfl, rfl⟩))
  go_ret2
  exact ⟨rfl, (hb1.trans (hb2.mono hb1.size)).alloc (by have := hb1.size; have := hb2.size; omega) _⟩
theorem reckon_divu (op : Int) (hp : ∀ w, Calls Try.prog 23 #[.string (opAt op).name] w fun e w' => e = .returned (.string ⟨#[100, 105, 118, 117]⟩) ∧ w = w') (a b : BitVec 64) (w : World) :
    Calls Try.prog 12 #[.int .i64 op, U a, U b] w fun e w' => e = .returned (.tuple #[U (ruleF 15 a b), .bool true]) ∧ Below w.heap.size w w' := by
  go_enter Try.func12, Try.ntmps12
  go_wp2_with (first
    | (go_at_call 24; refine (Name_any _ _).mono ?_; rintro e w1 ⟨rfl, hb1⟩)
    | (go_at_call 23; refine (hp _).mono ?_; rintro e w' ⟨rfl, rfl⟩)
    | (go_at_call 25; refine (find_divu _).mono ?_; rintro e w2 ⟨rfl, hb2⟩)
    | (go_at_call 64; refine (rule_16 _ _ _).mono ?_; rintro e w' ⟨rfl, rfl⟩))
  go_ret2
  exact ⟨rfl, (hb1.trans (hb2.mono hb1.size)).alloc (by have := hb1.size; have := hb2.size; omega) _⟩
theorem reckon_rem (op : Int) (hp : ∀ w, Calls Try.prog 23 #[.string (opAt op).name] w fun e w' => e = .returned (.string ⟨#[114, 101, 109]⟩) ∧ w = w') (a b : BitVec 64) (w : World) :
    Calls Try.prog 12 #[.int .i64 op, U a, U b] w fun e w' => e = .returned (.tuple #[U (ruleF 16 a b), .bool true]) ∧ Below w.heap.size w w' := by
  go_enter Try.func12, Try.ntmps12
  go_wp2_with (first
    | (go_at_call 24; refine (Name_any _ _).mono ?_; rintro e w1 ⟨rfl, hb1⟩)
    | (go_at_call 23; refine (hp _).mono ?_; rintro e w' ⟨rfl, rfl⟩)
    | (go_at_call 25; refine (find_rem _).mono ?_; rintro e w2 ⟨rfl, hb2⟩)
    | (go_at_call 65; refine (rule_17 _ _ _).mono ?_; rintro e w' ⟨rfl, rfl⟩))
  go_ret2
  exact ⟨rfl, (hb1.trans (hb2.mono hb1.size)).alloc (by have := hb1.size; have := hb2.size; omega) _⟩
theorem reckon_remu (op : Int) (hp : ∀ w, Calls Try.prog 23 #[.string (opAt op).name] w fun e w' => e = .returned (.string ⟨#[114, 101, 109, 117]⟩) ∧ w = w') (a b : BitVec 64) (w : World) :
    Calls Try.prog 12 #[.int .i64 op, U a, U b] w fun e w' => e = .returned (.tuple #[U (ruleF 17 a b), .bool true]) ∧ Below w.heap.size w w' := by
  go_enter Try.func12, Try.ntmps12
  go_wp2_with (first
    | (go_at_call 24; refine (Name_any _ _).mono ?_; rintro e w1 ⟨rfl, hb1⟩)
    | (go_at_call 23; refine (hp _).mono ?_; rintro e w' ⟨rfl, rfl⟩)
    | (go_at_call 25; refine (find_remu _).mono ?_; rintro e w2 ⟨rfl, hb2⟩)
    | (go_at_call 67; refine (rule_18 _ _ _).mono ?_; rintro e w' ⟨rfl, rfl⟩))
  go_ret2
  exact ⟨rfl, (hb1.trans (hb2.mono hb1.size)).alloc (by have := hb1.size; have := hb2.size; omega) _⟩
theorem reckon_addw (op : Int) (hp : ∀ w, Calls Try.prog 23 #[.string (opAt op).name] w fun e w' => e = .returned (.string ⟨#[97, 100, 100, 119]⟩) ∧ w = w') (a b : BitVec 64) (w : World) :
    Calls Try.prog 12 #[.int .i64 op, U a, U b] w fun e w' => e = .returned (.tuple #[U (shortF 0 a b), .bool true]) ∧ Below w.heap.size w w' := by
  go_enter Try.func12, Try.ntmps12
  go_wp2_with (first
    | (go_at_call 24; refine (Name_any _ _).mono ?_; rintro e w1 ⟨rfl, hb1⟩)
    | (go_at_call 23; refine (hp _).mono ?_; rintro e w' ⟨rfl, rfl⟩)
    | (go_at_call 25; refine (find_none _ (by decide) _).mono ?_; rintro e w2 ⟨rfl, hb2⟩)
    | (go_at_call 26; refine (short_addw _ _ _).mono ?_; rintro e w3 ⟨rfl, hb3⟩))
  go_ret2
  exact ⟨rfl, (((hb1.trans (hb2.mono hb1.size)).alloc (by have := hb1.size; have := hb2.size; omega) _).trans (hb3.mono (by have := hb1.size; have := hb2.size; simp; omega)))⟩
theorem reckon_subw (op : Int) (hp : ∀ w, Calls Try.prog 23 #[.string (opAt op).name] w fun e w' => e = .returned (.string ⟨#[115, 117, 98, 119]⟩) ∧ w = w') (a b : BitVec 64) (w : World) :
    Calls Try.prog 12 #[.int .i64 op, U a, U b] w fun e w' => e = .returned (.tuple #[U (shortF 1 a b), .bool true]) ∧ Below w.heap.size w w' := by
  go_enter Try.func12, Try.ntmps12
  go_wp2_with (first
    | (go_at_call 24; refine (Name_any _ _).mono ?_; rintro e w1 ⟨rfl, hb1⟩)
    | (go_at_call 23; refine (hp _).mono ?_; rintro e w' ⟨rfl, rfl⟩)
    | (go_at_call 25; refine (find_none _ (by decide) _).mono ?_; rintro e w2 ⟨rfl, hb2⟩)
    | (go_at_call 26; refine (short_subw _ _ _).mono ?_; rintro e w3 ⟨rfl, hb3⟩))
  go_ret2
  exact ⟨rfl, (((hb1.trans (hb2.mono hb1.size)).alloc (by have := hb1.size; have := hb2.size; omega) _).trans (hb3.mono (by have := hb1.size; have := hb2.size; simp; omega)))⟩
theorem reckon_sllw (op : Int) (hp : ∀ w, Calls Try.prog 23 #[.string (opAt op).name] w fun e w' => e = .returned (.string ⟨#[115, 108, 108, 119]⟩) ∧ w = w') (a b : BitVec 64) (w : World) :
    Calls Try.prog 12 #[.int .i64 op, U a, U b] w fun e w' => e = .returned (.tuple #[U (shortF 2 a b), .bool true]) ∧ Below w.heap.size w w' := by
  go_enter Try.func12, Try.ntmps12
  go_wp2_with (first
    | (go_at_call 24; refine (Name_any _ _).mono ?_; rintro e w1 ⟨rfl, hb1⟩)
    | (go_at_call 23; refine (hp _).mono ?_; rintro e w' ⟨rfl, rfl⟩)
    | (go_at_call 25; refine (find_none _ (by decide) _).mono ?_; rintro e w2 ⟨rfl, hb2⟩)
    | (go_at_call 26; refine (short_sllw _ _ _).mono ?_; rintro e w3 ⟨rfl, hb3⟩))
  go_ret2
  exact ⟨rfl, (((hb1.trans (hb2.mono hb1.size)).alloc (by have := hb1.size; have := hb2.size; omega) _).trans (hb3.mono (by have := hb1.size; have := hb2.size; simp; omega)))⟩
theorem reckon_srlw (op : Int) (hp : ∀ w, Calls Try.prog 23 #[.string (opAt op).name] w fun e w' => e = .returned (.string ⟨#[115, 114, 108, 119]⟩) ∧ w = w') (a b : BitVec 64) (w : World) :
    Calls Try.prog 12 #[.int .i64 op, U a, U b] w fun e w' => e = .returned (.tuple #[U (shortF 3 a b), .bool true]) ∧ Below w.heap.size w w' := by
  go_enter Try.func12, Try.ntmps12
  go_wp2_with (first
    | (go_at_call 24; refine (Name_any _ _).mono ?_; rintro e w1 ⟨rfl, hb1⟩)
    | (go_at_call 23; refine (hp _).mono ?_; rintro e w' ⟨rfl, rfl⟩)
    | (go_at_call 25; refine (find_none _ (by decide) _).mono ?_; rintro e w2 ⟨rfl, hb2⟩)
    | (go_at_call 26; refine (short_srlw _ _ _).mono ?_; rintro e w3 ⟨rfl, hb3⟩))
  go_ret2
  exact ⟨rfl, (((hb1.trans (hb2.mono hb1.size)).alloc (by have := hb1.size; have := hb2.size; omega) _).trans (hb3.mono (by have := hb1.size; have := hb2.size; simp; omega)))⟩
theorem reckon_sraw (op : Int) (hp : ∀ w, Calls Try.prog 23 #[.string (opAt op).name] w fun e w' => e = .returned (.string ⟨#[115, 114, 97, 119]⟩) ∧ w = w') (a b : BitVec 64) (w : World) :
    Calls Try.prog 12 #[.int .i64 op, U a, U b] w fun e w' => e = .returned (.tuple #[U (shortF 4 a b), .bool true]) ∧ Below w.heap.size w w' := by
  go_enter Try.func12, Try.ntmps12
  go_wp2_with (first
    | (go_at_call 24; refine (Name_any _ _).mono ?_; rintro e w1 ⟨rfl, hb1⟩)
    | (go_at_call 23; refine (hp _).mono ?_; rintro e w' ⟨rfl, rfl⟩)
    | (go_at_call 25; refine (find_none _ (by decide) _).mono ?_; rintro e w2 ⟨rfl, hb2⟩)
    | (go_at_call 26; refine (short_sraw _ _ _).mono ?_; rintro e w3 ⟨rfl, hb3⟩))
  go_ret2
  exact ⟨rfl, (((hb1.trans (hb2.mono hb1.size)).alloc (by have := hb1.size; have := hb2.size; omega) _).trans (hb3.mono (by have := hb1.size; have := hb2.size; simp; omega)))⟩
theorem reckon_mulw (op : Int) (hp : ∀ w, Calls Try.prog 23 #[.string (opAt op).name] w fun e w' => e = .returned (.string ⟨#[109, 117, 108, 119]⟩) ∧ w = w') (a b : BitVec 64) (w : World) :
    Calls Try.prog 12 #[.int .i64 op, U a, U b] w fun e w' => e = .returned (.tuple #[U (shortF 5 a b), .bool true]) ∧ Below w.heap.size w w' := by
  go_enter Try.func12, Try.ntmps12
  go_wp2_with (first
    | (go_at_call 24; refine (Name_any _ _).mono ?_; rintro e w1 ⟨rfl, hb1⟩)
    | (go_at_call 23; refine (hp _).mono ?_; rintro e w' ⟨rfl, rfl⟩)
    | (go_at_call 25; refine (find_none _ (by decide) _).mono ?_; rintro e w2 ⟨rfl, hb2⟩)
    | (go_at_call 26; refine (short_mulw _ _ _).mono ?_; rintro e w3 ⟨rfl, hb3⟩))
  go_ret2
  exact ⟨rfl, (((hb1.trans (hb2.mono hb1.size)).alloc (by have := hb1.size; have := hb2.size; omega) _).trans (hb3.mono (by have := hb1.size; have := hb2.size; simp; omega)))⟩
theorem reckon_divw (op : Int) (hp : ∀ w, Calls Try.prog 23 #[.string (opAt op).name] w fun e w' => e = .returned (.string ⟨#[100, 105, 118, 119]⟩) ∧ w = w') (a b : BitVec 64) (w : World) :
    Calls Try.prog 12 #[.int .i64 op, U a, U b] w fun e w' => e = .returned (.tuple #[U (shortF 6 a b), .bool true]) ∧ Below w.heap.size w w' := by
  go_enter Try.func12, Try.ntmps12
  go_wp2_with (first
    | (go_at_call 24; refine (Name_any _ _).mono ?_; rintro e w1 ⟨rfl, hb1⟩)
    | (go_at_call 23; refine (hp _).mono ?_; rintro e w' ⟨rfl, rfl⟩)
    | (go_at_call 25; refine (find_none _ (by decide) _).mono ?_; rintro e w2 ⟨rfl, hb2⟩)
    | (go_at_call 26; refine (short_divw _ _ _).mono ?_; rintro e w3 ⟨rfl, hb3⟩))
  go_ret2
  exact ⟨rfl, (((hb1.trans (hb2.mono hb1.size)).alloc (by have := hb1.size; have := hb2.size; omega) _).trans (hb3.mono (by have := hb1.size; have := hb2.size; simp; omega)))⟩
theorem reckon_divuw (op : Int) (hp : ∀ w, Calls Try.prog 23 #[.string (opAt op).name] w fun e w' => e = .returned (.string ⟨#[100, 105, 118, 117, 119]⟩) ∧ w = w') (a b : BitVec 64) (w : World) :
    Calls Try.prog 12 #[.int .i64 op, U a, U b] w fun e w' => e = .returned (.tuple #[U (shortF 7 a b), .bool true]) ∧ Below w.heap.size w w' := by
  go_enter Try.func12, Try.ntmps12
  go_wp2_with (first
    | (go_at_call 24; refine (Name_any _ _).mono ?_; rintro e w1 ⟨rfl, hb1⟩)
    | (go_at_call 23; refine (hp _).mono ?_; rintro e w' ⟨rfl, rfl⟩)
    | (go_at_call 25; refine (find_none _ (by decide) _).mono ?_; rintro e w2 ⟨rfl, hb2⟩)
    | (go_at_call 26; refine (short_divuw _ _ _).mono ?_; rintro e w3 ⟨rfl, hb3⟩))
  go_ret2
  exact ⟨rfl, (((hb1.trans (hb2.mono hb1.size)).alloc (by have := hb1.size; have := hb2.size; omega) _).trans (hb3.mono (by have := hb1.size; have := hb2.size; simp; omega)))⟩
theorem reckon_remw (op : Int) (hp : ∀ w, Calls Try.prog 23 #[.string (opAt op).name] w fun e w' => e = .returned (.string ⟨#[114, 101, 109, 119]⟩) ∧ w = w') (a b : BitVec 64) (w : World) :
    Calls Try.prog 12 #[.int .i64 op, U a, U b] w fun e w' => e = .returned (.tuple #[U (shortF 8 a b), .bool true]) ∧ Below w.heap.size w w' := by
  go_enter Try.func12, Try.ntmps12
  go_wp2_with (first
    | (go_at_call 24; refine (Name_any _ _).mono ?_; rintro e w1 ⟨rfl, hb1⟩)
    | (go_at_call 23; refine (hp _).mono ?_; rintro e w' ⟨rfl, rfl⟩)
    | (go_at_call 25; refine (find_none _ (by decide) _).mono ?_; rintro e w2 ⟨rfl, hb2⟩)
    | (go_at_call 26; refine (short_remw _ _ _).mono ?_; rintro e w3 ⟨rfl, hb3⟩))
  go_ret2
  exact ⟨rfl, (((hb1.trans (hb2.mono hb1.size)).alloc (by have := hb1.size; have := hb2.size; omega) _).trans (hb3.mono (by have := hb1.size; have := hb2.size; simp; omega)))⟩
theorem reckon_remuw (op : Int) (hp : ∀ w, Calls Try.prog 23 #[.string (opAt op).name] w fun e w' => e = .returned (.string ⟨#[114, 101, 109, 117, 119]⟩) ∧ w = w') (a b : BitVec 64) (w : World) :
    Calls Try.prog 12 #[.int .i64 op, U a, U b] w fun e w' => e = .returned (.tuple #[U (shortF 9 a b), .bool true]) ∧ Below w.heap.size w w' := by
  go_enter Try.func12, Try.ntmps12
  go_wp2_with (first
    | (go_at_call 24; refine (Name_any _ _).mono ?_; rintro e w1 ⟨rfl, hb1⟩)
    | (go_at_call 23; refine (hp _).mono ?_; rintro e w' ⟨rfl, rfl⟩)
    | (go_at_call 25; refine (find_none _ (by decide) _).mono ?_; rintro e w2 ⟨rfl, hb2⟩)
    | (go_at_call 26; refine (short_remuw _ _ _).mono ?_; rintro e w3 ⟨rfl, hb3⟩))
  go_ret2
  exact ⟨rfl, (((hb1.trans (hb2.mono hb1.size)).alloc (by have := hb1.size; have := hb2.size; omega) _).trans (hb3.mono (by have := hb1.size; have := hb2.size; simp; omega)))⟩
theorem reckon_not (op : Int) (p : ByteArray) (hp : ∀ w, Calls Try.prog 23 #[.string (opAt op).name] w fun e w' => e = .returned (.string p) ∧ w = w') (hr : ruleFind p = none)
    (H : ∀ t ∈ shortNames, (p.toList == t.data.toList) = false) (a b : BitVec 64) (w : World) :
    Calls Try.prog 12 #[.int .i64 op, U a, U b] w fun e w' => e = .returned (.tuple #[.int .u64 0, .bool false]) ∧ Below w.heap.size w w' := by
  have h_addw : (p.toList == [97, 100, 100, 119]) = false := H ⟨#[97, 100, 100, 119]⟩ (by simp [shortNames])
  have h_subw : (p.toList == [115, 117, 98, 119]) = false := H ⟨#[115, 117, 98, 119]⟩ (by simp [shortNames])
  have h_sllw : (p.toList == [115, 108, 108, 119]) = false := H ⟨#[115, 108, 108, 119]⟩ (by simp [shortNames])
  have h_srlw : (p.toList == [115, 114, 108, 119]) = false := H ⟨#[115, 114, 108, 119]⟩ (by simp [shortNames])
  have h_sraw : (p.toList == [115, 114, 97, 119]) = false := H ⟨#[115, 114, 97, 119]⟩ (by simp [shortNames])
  have h_mulw : (p.toList == [109, 117, 108, 119]) = false := H ⟨#[109, 117, 108, 119]⟩ (by simp [shortNames])
  have h_divw : (p.toList == [100, 105, 118, 119]) = false := H ⟨#[100, 105, 118, 119]⟩ (by simp [shortNames])
  have h_divuw : (p.toList == [100, 105, 118, 117, 119]) = false := H ⟨#[100, 105, 118, 117, 119]⟩ (by simp [shortNames])
  have h_remw : (p.toList == [114, 101, 109, 119]) = false := H ⟨#[114, 101, 109, 119]⟩ (by simp [shortNames])
  have h_remuw : (p.toList == [114, 101, 109, 117, 119]) = false := H ⟨#[114, 101, 109, 117, 119]⟩ (by simp [shortNames])
  have hr' := Hd.mk hr
  clear H hr
  go_enter Try.func12, Try.ntmps12
  go_wp2_with (first
    | (go_at_call 24; refine (Name_any _ _).mono ?_; rintro e w1 ⟨rfl, hb1⟩)
    | (go_at_call 23; refine (hp _).mono ?_; rintro e w' ⟨rfl, rfl⟩)
    | (go_at_call 25; refine (find_none p hr'.out _).mono ?_; rintro e w2 ⟨rfl, hb2⟩))
  go_ret2
  exact ⟨rfl, (hb1.trans (hb2.mono hb1.size)).alloc (by have := hb1.size; have := hb2.size; omega) _⟩
theorem Reckon_any (op : Int) (a b : BitVec 64) (w : World) :
    Calls Try.prog 12 #[.int .i64 op, U a, U b] w fun e w' => e = .returned (okV (aluP (plainF (opAt op).name) a b)) ∧ Below w.heap.size w w' := by
  have hp := fun w => plain_any (opAt op).name w
  generalize plainF (opAt op).name = p at hp
  rcases str_cases p ruleNames with ⟨t, ht, rfl⟩ | H
  · simp only [ruleNames, List.mem_cons, List.not_mem_nil, or_false] at ht
    rcases ht with rfl | rfl | rfl | rfl | rfl | rfl | rfl | rfl | rfl | rfl | rfl | rfl | rfl | rfl | rfl | rfl | rfl | rfl
    · exact reckon_add op hp a b w
    · exact reckon_sub op hp a b w
    · exact reckon_sll op hp a b w
    · exact reckon_slt op hp a b w
    · exact reckon_sltu op hp a b w
    · exact reckon_xor op hp a b w
    · exact reckon_srl op hp a b w
    · exact reckon_sra op hp a b w
    · exact reckon_or op hp a b w
    · exact reckon_and op hp a b w
    · exact reckon_mul op hp a b w
    · exact reckon_mulh op hp a b w
    · exact reckon_mulhsu op hp a b w
    · exact reckon_mulhu op hp a b w
    · exact reckon_div op hp a b w
    · exact reckon_divu op hp a b w
    · exact reckon_rem op hp a b w
    · exact reckon_remu op hp a b w
  · have hr := ruleFind_no p H
    rcases str_cases p shortNames with ⟨t, ht, rfl⟩ | H2
    · simp only [shortNames, List.mem_cons, List.not_mem_nil, or_false] at ht
      rcases ht with rfl | rfl | rfl | rfl | rfl | rfl | rfl | rfl | rfl | rfl
      · exact reckon_addw op hp a b w
      · exact reckon_subw op hp a b w
      · exact reckon_sllw op hp a b w
      · exact reckon_srlw op hp a b w
      · exact reckon_sraw op hp a b w
      · exact reckon_mulw op hp a b w
      · exact reckon_divw op hp a b w
      · exact reckon_divuw op hp a b w
      · exact reckon_remw op hp a b w
      · exact reckon_remuw op hp a b w
    · have e : aluP p a b = none := by unfold aluP; rw [hr, shortFind_no p H2]; rfl
      rw [e]
      exact reckon_not op p hp hr H2 a b w
end Go.Proofs.Ytmeebniadgngpaa
