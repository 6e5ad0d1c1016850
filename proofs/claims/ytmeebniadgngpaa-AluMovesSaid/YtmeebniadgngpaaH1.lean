/- Whether a condition holds, and how wide what is loaded is: the program's answer and the reference's. No conditions but those that each names. -/
import Derived.Test.YtmeebniadgngpaaA4
import Derived.Test.YtmeebniadgngpaaO7
import Derived.Test.YtmeebniadgngpaaW6
namespace Go.Proofs.Ytmeebniadgngpaa
open Go.RowKit
set_option linter.unusedVariables false
set_option linter.unusedSimpArgs false


def condNames : List ByteArray := [⟨#[98, 101, 113]⟩, ⟨#[98, 110, 101]⟩, ⟨#[98, 108, 116]⟩, ⟨#[98, 103, 101]⟩, ⟨#[98, 108, 116, 117]⟩, ⟨#[98, 103, 101, 117]⟩]
def widthNames : List ByteArray := [⟨#[108, 98]⟩, ⟨#[108, 104]⟩, ⟨#[108, 119]⟩, ⟨#[108, 100]⟩, ⟨#[108, 98, 117]⟩, ⟨#[115, 98]⟩, ⟨#[108, 104, 117]⟩, ⟨#[115, 104]⟩, ⟨#[108, 119, 117]⟩, ⟨#[115, 119]⟩, ⟨#[115, 100]⟩]
def condF (k : Nat) (a b : BitVec 64) : Bool := match k with
  | 0 => a == b
  | 1 => a != b
  | 2 => below a b
  | 3 => !below a b
  | 4 => ltB a b
  | _ => !ltB a b
def condFind (s : ByteArray) : Option Nat := condNames.findIdx? (fun t => t.data.toList == s.data.toList)
def widthT : List (Nat × Bool) := [(1, true), (2, true), (4, true), (8, true), (1, false), (1, false), (2, false), (2, false), (4, false), (4, false), (8, false)]
def widthFind (s : ByteArray) : Option (Nat × Bool) := (widthNames.findIdx? (fun t => t.data.toList == s.data.toList)).bind (widthT[·]?)
def condV (s : ByteArray) (a b : BitVec 64) : Value := match condFind s with
  | some k => .tuple #[.bool (condF k a b), .bool true]
  | none => .tuple #[.bool false, .bool false]
def widthV (s : ByteArray) : Value := match widthFind s with
  | some (n, g) => .tuple #[.int .i64 (n : Int), .bool g, .bool true]
  | none => .tuple #[.int .i64 0, .bool false, .bool false]
theorem le_not (a b : BitVec 64) : leB b a = !ltB a b := by
  unfold leB ltB; rw [← decide_not, decide_eq_decide]; omega
theorem si_not (a b : BitVec 64) : decide (si b ≤ si a) = !below a b := by
  unfold below; rw [← decide_not, decide_eq_decide]; omega
theorem find_not {l : List ByteArray} {s : ByteArray} (H : ∀ t ∈ l, (s.toList == t.data.toList) = false) : l.findIdx? (fun t => t.data.toList == s.data.toList) = none := by
  rw [List.findIdx?_eq_none_iff]
  intro t ht
  have := H t ht
  rw [ByteArray.toList_eq] at this
  rw [Bool.eq_false_iff] at this ⊢
  intro e
  apply this
  rw [beq_iff_eq] at e ⊢
  exact e.symm
theorem holds_beq (op : Int) (hn : ∀ w, Calls Try.prog 24 #[.int .i64 op] w fun e w' => e = .returned (.string ⟨#[98, 101, 113]⟩) ∧ Below w.heap.size w w') (a b : BitVec 64) (w : World) : Calls Try.prog 16 #[.int .i64 op, U a, U b] w fun e w' => e = .returned (.tuple #[.bool (condF 0 a b), .bool true]) ∧ Below w.heap.size w w' := by
  go_enter Try.func16, Try.ntmps16
  go_wp2_with (go_at_call 24; refine (hn _).mono ?_; rintro e w1 ⟨rfl, hb1⟩)
  go_ret2
  exact ⟨rfl, hb1⟩
theorem rholds_beq (a b : BitVec 64) (w : World) : Calls Try.prog 18 #[.string ⟨#[98, 101, 113]⟩, U a, U b] w fun e w' => e = .returned (.tuple #[.bool (condF 0 a b), .bool true]) ∧ w = w' := by
  go_enter Try.func18, Try.ntmps18
  go_wp2
  go_ret2
  exact ⟨rfl, rfl⟩
theorem holds_bne (op : Int) (hn : ∀ w, Calls Try.prog 24 #[.int .i64 op] w fun e w' => e = .returned (.string ⟨#[98, 110, 101]⟩) ∧ Below w.heap.size w w') (a b : BitVec 64) (w : World) : Calls Try.prog 16 #[.int .i64 op, U a, U b] w fun e w' => e = .returned (.tuple #[.bool (condF 1 a b), .bool true]) ∧ Below w.heap.size w w' := by
  go_enter Try.func16, Try.ntmps16
  go_wp2_with (go_at_call 24; refine (hn _).mono ?_; rintro e w1 ⟨rfl, hb1⟩)
  go_ret2
  exact ⟨rfl, hb1⟩
theorem rholds_bne (a b : BitVec 64) (w : World) : Calls Try.prog 18 #[.string ⟨#[98, 110, 101]⟩, U a, U b] w fun e w' => e = .returned (.tuple #[.bool (condF 1 a b), .bool true]) ∧ w = w' := by
  go_enter Try.func18, Try.ntmps18
  go_wp2
  go_ret2
  exact ⟨rfl, rfl⟩
theorem holds_blt (op : Int) (hn : ∀ w, Calls Try.prog 24 #[.int .i64 op] w fun e w' => e = .returned (.string ⟨#[98, 108, 116]⟩) ∧ Below w.heap.size w w') (a b : BitVec 64) (w : World) : Calls Try.prog 16 #[.int .i64 op, U a, U b] w fun e w' => e = .returned (.tuple #[.bool (condF 2 a b), .bool true]) ∧ Below w.heap.size w w' := by
  go_enter Try.func16, Try.ntmps16
  go_wp2_with (go_at_call 24; refine (hn _).mono ?_; rintro e w1 ⟨rfl, hb1⟩)
  go_ret2
  exact ⟨rfl, hb1⟩
theorem rholds_blt (a b : BitVec 64) (w : World) : Calls Try.prog 18 #[.string ⟨#[98, 108, 116]⟩, U a, U b] w fun e w' => e = .returned (.tuple #[.bool (condF 2 a b), .bool true]) ∧ w = w' := by
  go_enter Try.func18, Try.ntmps18
  go_wp2_with (go_at_call 29; refine (below_any _ _ _).mono ?_; rintro e w' ⟨rfl, rfl⟩)
  go_ret2
  exact ⟨rfl, rfl⟩
theorem holds_bge (op : Int) (hn : ∀ w, Calls Try.prog 24 #[.int .i64 op] w fun e w' => e = .returned (.string ⟨#[98, 103, 101]⟩) ∧ Below w.heap.size w w') (a b : BitVec 64) (w : World) : Calls Try.prog 16 #[.int .i64 op, U a, U b] w fun e w' => e = .returned (.tuple #[.bool (condF 3 a b), .bool true]) ∧ Below w.heap.size w w' := by
  go_enter Try.func16, Try.ntmps16
  go_wp2_with (go_at_call 24; refine (hn _).mono ?_; rintro e w1 ⟨rfl, hb1⟩)
  go_ret2
  exact ⟨by show _ = Ending.returned (.tuple #[.bool (!below a b), .bool true]); rw [← si_not]; rfl, hb1⟩
theorem rholds_bge (a b : BitVec 64) (w : World) : Calls Try.prog 18 #[.string ⟨#[98, 103, 101]⟩, U a, U b] w fun e w' => e = .returned (.tuple #[.bool (condF 3 a b), .bool true]) ∧ w = w' := by
  go_enter Try.func18, Try.ntmps18
  go_wp2_with (go_at_call 29; refine (below_any _ _ _).mono ?_; rintro e w' ⟨rfl, rfl⟩)
  go_ret2
  exact ⟨rfl, rfl⟩
theorem holds_bltu (op : Int) (hn : ∀ w, Calls Try.prog 24 #[.int .i64 op] w fun e w' => e = .returned (.string ⟨#[98, 108, 116, 117]⟩) ∧ Below w.heap.size w w') (a b : BitVec 64) (w : World) : Calls Try.prog 16 #[.int .i64 op, U a, U b] w fun e w' => e = .returned (.tuple #[.bool (condF 4 a b), .bool true]) ∧ Below w.heap.size w w' := by
  go_enter Try.func16, Try.ntmps16
  go_wp2_with (go_at_call 24; refine (hn _).mono ?_; rintro e w1 ⟨rfl, hb1⟩)
  go_ret2
  exact ⟨rfl, hb1⟩
theorem rholds_bltu (a b : BitVec 64) (w : World) : Calls Try.prog 18 #[.string ⟨#[98, 108, 116, 117]⟩, U a, U b] w fun e w' => e = .returned (.tuple #[.bool (condF 4 a b), .bool true]) ∧ w = w' := by
  go_enter Try.func18, Try.ntmps18
  go_wp2
  go_ret2
  exact ⟨rfl, rfl⟩
theorem holds_bgeu (op : Int) (hn : ∀ w, Calls Try.prog 24 #[.int .i64 op] w fun e w' => e = .returned (.string ⟨#[98, 103, 101, 117]⟩) ∧ Below w.heap.size w w') (a b : BitVec 64) (w : World) : Calls Try.prog 16 #[.int .i64 op, U a, U b] w fun e w' => e = .returned (.tuple #[.bool (condF 5 a b), .bool true]) ∧ Below w.heap.size w w' := by
  go_enter Try.func16, Try.ntmps16
  go_wp2_with (go_at_call 24; refine (hn _).mono ?_; rintro e w1 ⟨rfl, hb1⟩)
  go_ret2
  exact ⟨by show _ = Ending.returned (.tuple #[.bool (!ltB a b), .bool true]); rw [← le_not]; rfl, hb1⟩
theorem rholds_bgeu (a b : BitVec 64) (w : World) : Calls Try.prog 18 #[.string ⟨#[98, 103, 101, 117]⟩, U a, U b] w fun e w' => e = .returned (.tuple #[.bool (condF 5 a b), .bool true]) ∧ w = w' := by
  go_enter Try.func18, Try.ntmps18
  go_wp2
  go_ret2
  exact ⟨by show _ = Ending.returned (.tuple #[.bool (!ltB a b), .bool true]); rw [← le_not]; rfl, rfl⟩
theorem holds_not (op : Int) (s : ByteArray) (hn : ∀ w, Calls Try.prog 24 #[.int .i64 op] w fun e w' => e = .returned (.string s) ∧ Below w.heap.size w w') (H : ∀ t ∈ condNames, (s.toList == t.data.toList) = false) (a b : BitVec 64) (w : World) : Calls Try.prog 16 #[.int .i64 op, U a, U b] w fun e w' => e = .returned (.tuple #[.bool false, .bool false]) ∧ Below w.heap.size w w' := by
  have h_beq : (s.toList == [98, 101, 113]) = false := H ⟨#[98, 101, 113]⟩ (by simp [condNames])
  have h_bne : (s.toList == [98, 110, 101]) = false := H ⟨#[98, 110, 101]⟩ (by simp [condNames])
  have h_blt : (s.toList == [98, 108, 116]) = false := H ⟨#[98, 108, 116]⟩ (by simp [condNames])
  have h_bge : (s.toList == [98, 103, 101]) = false := H ⟨#[98, 103, 101]⟩ (by simp [condNames])
  have h_bltu : (s.toList == [98, 108, 116, 117]) = false := H ⟨#[98, 108, 116, 117]⟩ (by simp [condNames])
  have h_bgeu : (s.toList == [98, 103, 101, 117]) = false := H ⟨#[98, 103, 101, 117]⟩ (by simp [condNames])
  clear H
  go_enter Try.func16, Try.ntmps16
  go_wp2_with (go_at_call 24; refine (hn _).mono ?_; rintro e w1 ⟨rfl, hb1⟩)
  go_ret2
  exact ⟨rfl, hb1⟩
theorem rholds_not (s : ByteArray) (H : ∀ t ∈ condNames, (s.toList == t.data.toList) = false) (a b : BitVec 64) (w : World) : Calls Try.prog 18 #[.string s, U a, U b] w fun e w' => e = .returned (.tuple #[.bool false, .bool false]) ∧ w = w' := by
  have h_beq : (s.toList == [98, 101, 113]) = false := H ⟨#[98, 101, 113]⟩ (by simp [condNames])
  have h_bne : (s.toList == [98, 110, 101]) = false := H ⟨#[98, 110, 101]⟩ (by simp [condNames])
  have h_blt : (s.toList == [98, 108, 116]) = false := H ⟨#[98, 108, 116]⟩ (by simp [condNames])
  have h_bge : (s.toList == [98, 103, 101]) = false := H ⟨#[98, 103, 101]⟩ (by simp [condNames])
  have h_bltu : (s.toList == [98, 108, 116, 117]) = false := H ⟨#[98, 108, 116, 117]⟩ (by simp [condNames])
  have h_bgeu : (s.toList == [98, 103, 101, 117]) = false := H ⟨#[98, 103, 101, 117]⟩ (by simp [condNames])
  clear H
  go_enter Try.func18, Try.ntmps18
  go_wp2
  go_ret2
  exact ⟨rfl, rfl⟩
theorem Holds_any (op : Int) (a b : BitVec 64) (w : World) : Calls Try.prog 16 #[.int .i64 op, U a, U b] w fun e w' => e = .returned (condV (opAt op).name a b) ∧ Below w.heap.size w w' := by
  have hn := fun w => Name_any op w
  generalize (opAt op).name = s at hn
  rcases str_cases s condNames with ⟨t, ht, rfl⟩ | H
  · simp only [condNames, List.mem_cons, List.not_mem_nil, or_false] at ht
    rcases ht with rfl | rfl | rfl | rfl | rfl | rfl
    · exact holds_beq op hn a b w
    · exact holds_bne op hn a b w
    · exact holds_blt op hn a b w
    · exact holds_bge op hn a b w
    · exact holds_bltu op hn a b w
    · exact holds_bgeu op hn a b w
  · have e : condV s a b = .tuple #[.bool false, .bool false] := by unfold condV condFind; rw [find_not H]
    rw [e]; exact holds_not op s hn H a b w
theorem rHolds_any (s : ByteArray) (a b : BitVec 64) (w : World) : Calls Try.prog 18 #[.string s, U a, U b] w fun e w' => e = .returned (condV s a b) ∧ w = w' := by
  rcases str_cases s condNames with ⟨t, ht, rfl⟩ | H
  · simp only [condNames, List.mem_cons, List.not_mem_nil, or_false] at ht
    rcases ht with rfl | rfl | rfl | rfl | rfl | rfl
    · exact rholds_beq a b w
    · exact rholds_bne a b w
    · exact rholds_blt a b w
    · exact rholds_bge a b w
    · exact rholds_bltu a b w
    · exact rholds_bgeu a b w
  · have e : condV s a b = .tuple #[.bool false, .bool false] := by unfold condV condFind; rw [find_not H]
    rw [e]; exact rholds_not s H a b w
theorem width_lb (op : Int) (hn : ∀ w, Calls Try.prog 24 #[.int .i64 op] w fun e w' => e = .returned (.string ⟨#[108, 98]⟩) ∧ Below w.heap.size w w') (w : World) : Calls Try.prog 19 #[.int .i64 op] w fun e w' => e = .returned (.tuple #[.int .i64 1, .bool true, .bool true]) ∧ Below w.heap.size w w' := by
  go_enter Try.func19, Try.ntmps19
  go_wp2_with (go_at_call 24; refine (hn _).mono ?_; rintro e w1 ⟨rfl, hb1⟩)
  go_ret3
  exact ⟨rfl, hb1⟩
theorem rwidth_lb (w : World) : Calls Try.prog 20 #[.string ⟨#[108, 98]⟩] w fun e w' => e = .returned (.tuple #[.int .i64 1, .bool true, .bool true]) ∧ w = w' := by
  go_enter Try.func20, Try.ntmps20
  go_wp2
  go_ret3
  exact ⟨rfl, rfl⟩
theorem width_lh (op : Int) (hn : ∀ w, Calls Try.prog 24 #[.int .i64 op] w fun e w' => e = .returned (.string ⟨#[108, 104]⟩) ∧ Below w.heap.size w w') (w : World) : Calls Try.prog 19 #[.int .i64 op] w fun e w' => e = .returned (.tuple #[.int .i64 2, .bool true, .bool true]) ∧ Below w.heap.size w w' := by
  go_enter Try.func19, Try.ntmps19
  go_wp2_with (go_at_call 24; refine (hn _).mono ?_; rintro e w1 ⟨rfl, hb1⟩)
  go_ret3
  exact ⟨rfl, hb1⟩
theorem rwidth_lh (w : World) : Calls Try.prog 20 #[.string ⟨#[108, 104]⟩] w fun e w' => e = .returned (.tuple #[.int .i64 2, .bool true, .bool true]) ∧ w = w' := by
  go_enter Try.func20, Try.ntmps20
  go_wp2
  go_ret3
  exact ⟨rfl, rfl⟩
theorem width_lw (op : Int) (hn : ∀ w, Calls Try.prog 24 #[.int .i64 op] w fun e w' => e = .returned (.string ⟨#[108, 119]⟩) ∧ Below w.heap.size w w') (w : World) : Calls Try.prog 19 #[.int .i64 op] w fun e w' => e = .returned (.tuple #[.int .i64 4, .bool true, .bool true]) ∧ Below w.heap.size w w' := by
  go_enter Try.func19, Try.ntmps19
  go_wp2_with (go_at_call 24; refine (hn _).mono ?_; rintro e w1 ⟨rfl, hb1⟩)
  go_ret3
  exact ⟨rfl, hb1⟩
theorem rwidth_lw (w : World) : Calls Try.prog 20 #[.string ⟨#[108, 119]⟩] w fun e w' => e = .returned (.tuple #[.int .i64 4, .bool true, .bool true]) ∧ w = w' := by
  go_enter Try.func20, Try.ntmps20
  go_wp2
  go_ret3
  exact ⟨rfl, rfl⟩
theorem width_ld (op : Int) (hn : ∀ w, Calls Try.prog 24 #[.int .i64 op] w fun e w' => e = .returned (.string ⟨#[108, 100]⟩) ∧ Below w.heap.size w w') (w : World) : Calls Try.prog 19 #[.int .i64 op] w fun e w' => e = .returned (.tuple #[.int .i64 8, .bool true, .bool true]) ∧ Below w.heap.size w w' := by
  go_enter Try.func19, Try.ntmps19
  go_wp2_with (go_at_call 24; refine (hn _).mono ?_; rintro e w1 ⟨rfl, hb1⟩)
  go_ret3
  exact ⟨rfl, hb1⟩
theorem rwidth_ld (w : World) : Calls Try.prog 20 #[.string ⟨#[108, 100]⟩] w fun e w' => e = .returned (.tuple #[.int .i64 8, .bool true, .bool true]) ∧ w = w' := by
  go_enter Try.func20, Try.ntmps20
  go_wp2
  go_ret3
  exact ⟨rfl, rfl⟩
theorem width_lbu (op : Int) (hn : ∀ w, Calls Try.prog 24 #[.int .i64 op] w fun e w' => e = .returned (.string ⟨#[108, 98, 117]⟩) ∧ Below w.heap.size w w') (w : World) : Calls Try.prog 19 #[.int .i64 op] w fun e w' => e = .returned (.tuple #[.int .i64 1, .bool false, .bool true]) ∧ Below w.heap.size w w' := by
  go_enter Try.func19, Try.ntmps19
  go_wp2_with (go_at_call 24; refine (hn _).mono ?_; rintro e w1 ⟨rfl, hb1⟩)
  go_ret3
  exact ⟨rfl, hb1⟩
theorem rwidth_lbu (w : World) : Calls Try.prog 20 #[.string ⟨#[108, 98, 117]⟩] w fun e w' => e = .returned (.tuple #[.int .i64 1, .bool false, .bool true]) ∧ w = w' := by
  go_enter Try.func20, Try.ntmps20
  go_wp2
  go_ret3
  exact ⟨rfl, rfl⟩
theorem width_sb (op : Int) (hn : ∀ w, Calls Try.prog 24 #[.int .i64 op] w fun e w' => e = .returned (.string ⟨#[115, 98]⟩) ∧ Below w.heap.size w w') (w : World) : Calls Try.prog 19 #[.int .i64 op] w fun e w' => e = .returned (.tuple #[.int .i64 1, .bool false, .bool true]) ∧ Below w.heap.size w w' := by
  go_enter Try.func19, Try.ntmps19
  go_wp2_with (go_at_call 24; refine (hn _).mono ?_; rintro e w1 ⟨rfl, hb1⟩)
  go_ret3
  exact ⟨rfl, hb1⟩
theorem rwidth_sb (w : World) : Calls Try.prog 20 #[.string ⟨#[115, 98]⟩] w fun e w' => e = .returned (.tuple #[.int .i64 1, .bool false, .bool true]) ∧ w = w' := by
  go_enter Try.func20, Try.ntmps20
  go_wp2
  go_ret3
  exact ⟨rfl, rfl⟩
theorem width_lhu (op : Int) (hn : ∀ w, Calls Try.prog 24 #[.int .i64 op] w fun e w' => e = .returned (.string ⟨#[108, 104, 117]⟩) ∧ Below w.heap.size w w') (w : World) : Calls Try.prog 19 #[.int .i64 op] w fun e w' => e = .returned (.tuple #[.int .i64 2, .bool false, .bool true]) ∧ Below w.heap.size w w' := by
  go_enter Try.func19, Try.ntmps19
  go_wp2_with (go_at_call 24; refine (hn _).mono ?_; rintro e w1 ⟨rfl, hb1⟩)
  go_ret3
  exact ⟨rfl, hb1⟩
theorem rwidth_lhu (w : World) : Calls Try.prog 20 #[.string ⟨#[108, 104, 117]⟩] w fun e w' => e = .returned (.tuple #[.int .i64 2, .bool false, .bool true]) ∧ w = w' := by
  go_enter Try.func20, Try.ntmps20
  go_wp2
  go_ret3
  exact ⟨rfl, rfl⟩
theorem width_sh (op : Int) (hn : ∀ w, Calls Try.prog 24 #[.int .i64 op] w fun e w' => e = .returned (.string ⟨#[115, 104]⟩) ∧ Below w.heap.size w w') (w : World) : Calls Try.prog 19 #[.int .i64 op] w fun e w' => e = .returned (.tuple #[.int .i64 2, .bool false, .bool true]) ∧ Below w.heap.size w w' := by
  go_enter Try.func19, Try.ntmps19
  go_wp2_with (go_at_call 24; refine (hn _).mono ?_; rintro e w1 ⟨rfl, hb1⟩)
  go_ret3
  exact ⟨rfl, hb1⟩
theorem rwidth_sh (w : World) : Calls Try.prog 20 #[.string ⟨#[115, 104]⟩] w fun e w' => e = .returned (.tuple #[.int .i64 2, .bool false, .bool true]) ∧ w = w' := by
  go_enter Try.func20, Try.ntmps20
  go_wp2
  go_ret3
  exact ⟨rfl, rfl⟩
theorem width_lwu (op : Int) (hn : ∀ w, Calls Try.prog 24 #[.int .i64 op] w fun e w' => e = .returned (.string ⟨#[108, 119, 117]⟩) ∧ Below w.heap.size w w') (w : World) : Calls Try.prog 19 #[.int .i64 op] w fun e w' => e = .returned (.tuple #[.int .i64 4, .bool false, .bool true]) ∧ Below w.heap.size w w' := by
  go_enter Try.func19, Try.ntmps19
  go_wp2_with (go_at_call 24; refine (hn _).mono ?_; rintro e w1 ⟨rfl, hb1⟩)
  go_ret3
  exact ⟨rfl, hb1⟩
theorem rwidth_lwu (w : World) : Calls Try.prog 20 #[.string ⟨#[108, 119, 117]⟩] w fun e w' => e = .returned (.tuple #[.int .i64 4, .bool false, .bool true]) ∧ w = w' := by
  go_enter Try.func20, Try.ntmps20
  go_wp2
  go_ret3
  exact ⟨rfl, rfl⟩
theorem width_sw (op : Int) (hn : ∀ w, Calls Try.prog 24 #[.int .i64 op] w fun e w' => e = .returned (.string ⟨#[115, 119]⟩) ∧ Below w.heap.size w w') (w : World) : Calls Try.prog 19 #[.int .i64 op] w fun e w' => e = .returned (.tuple #[.int .i64 4, .bool false, .bool true]) ∧ Below w.heap.size w w' := by
  go_enter Try.func19, Try.ntmps19
  go_wp2_with (go_at_call 24; refine (hn _).mono ?_; rintro e w1 ⟨rfl, hb1⟩)
  go_ret3
  exact ⟨rfl, hb1⟩
theorem rwidth_sw (w : World) : Calls Try.prog 20 #[.string ⟨#[115, 119]⟩] w fun e w' => e = .returned (.tuple #[.int .i64 4, .bool false, .bool true]) ∧ w = w' := by
  go_enter Try.func20, Try.ntmps20
  go_wp2
  go_ret3
  exact ⟨rfl, rfl⟩
theorem width_sd (op : Int) (hn : ∀ w, Calls Try.prog 24 #[.int .i64 op] w fun e w' => e = .returned (.string ⟨#[115, 100]⟩) ∧ Below w.heap.size w w') (w : World) : Calls Try.prog 19 #[.int .i64 op] w fun e w' => e = .returned (.tuple #[.int .i64 8, .bool false, .bool true]) ∧ Below w.heap.size w w' := by
  go_enter Try.func19, Try.ntmps19
  go_wp2_with (go_at_call 24; refine (hn _).mono ?_; rintro e w1 ⟨rfl, hb1⟩)
  go_ret3
  exact ⟨rfl, hb1⟩
theorem rwidth_sd (w : World) : Calls Try.prog 20 #[.string ⟨#[115, 100]⟩] w fun e w' => e = .returned (.tuple #[.int .i64 8, .bool false, .bool true]) ∧ w = w' := by
  go_enter Try.func20, Try.ntmps20
  go_wp2
  go_ret3
  exact ⟨rfl, rfl⟩
theorem width_not (op : Int) (s : ByteArray) (hn : ∀ w, Calls Try.prog 24 #[.int .i64 op] w fun e w' => e = .returned (.string s) ∧ Below w.heap.size w w') (H : ∀ t ∈ widthNames, (s.toList == t.data.toList) = false) (w : World) : Calls Try.prog 19 #[.int .i64 op] w fun e w' => e = .returned (.tuple #[.int .i64 0, .bool false, .bool false]) ∧ Below w.heap.size w w' := by
  have h_lb : (s.toList == [108, 98]) = false := H ⟨#[108, 98]⟩ (by simp [widthNames])
  have h_lh : (s.toList == [108, 104]) = false := H ⟨#[108, 104]⟩ (by simp [widthNames])
  have h_lw : (s.toList == [108, 119]) = false := H ⟨#[108, 119]⟩ (by simp [widthNames])
  have h_ld : (s.toList == [108, 100]) = false := H ⟨#[108, 100]⟩ (by simp [widthNames])
  have h_lbu : (s.toList == [108, 98, 117]) = false := H ⟨#[108, 98, 117]⟩ (by simp [widthNames])
  have h_sb : (s.toList == [115, 98]) = false := H ⟨#[115, 98]⟩ (by simp [widthNames])
  have h_lhu : (s.toList == [108, 104, 117]) = false := H ⟨#[108, 104, 117]⟩ (by simp [widthNames])
  have h_sh : (s.toList == [115, 104]) = false := H ⟨#[115, 104]⟩ (by simp [widthNames])
  have h_lwu : (s.toList == [108, 119, 117]) = false := H ⟨#[108, 119, 117]⟩ (by simp [widthNames])
  have h_sw : (s.toList == [115, 119]) = false := H ⟨#[115, 119]⟩ (by simp [widthNames])
  have h_sd : (s.toList == [115, 100]) = false := H ⟨#[115, 100]⟩ (by simp [widthNames])
  clear H
  go_enter Try.func19, Try.ntmps19
  go_wp2_with (go_at_call 24; refine (hn _).mono ?_; rintro e w1 ⟨rfl, hb1⟩)
  go_ret3
  exact ⟨rfl, hb1⟩
theorem rwidth_not (s : ByteArray) (H : ∀ t ∈ widthNames, (s.toList == t.data.toList) = false) (w : World) : Calls Try.prog 20 #[.string s] w fun e w' => e = .returned (.tuple #[.int .i64 0, .bool false, .bool false]) ∧ w = w' := by
  have h_lb : (s.toList == [108, 98]) = false := H ⟨#[108, 98]⟩ (by simp [widthNames])
  have h_lh : (s.toList == [108, 104]) = false := H ⟨#[108, 104]⟩ (by simp [widthNames])
  have h_lw : (s.toList == [108, 119]) = false := H ⟨#[108, 119]⟩ (by simp [widthNames])
  have h_ld : (s.toList == [108, 100]) = false := H ⟨#[108, 100]⟩ (by simp [widthNames])
  have h_lbu : (s.toList == [108, 98, 117]) = false := H ⟨#[108, 98, 117]⟩ (by simp [widthNames])
  have h_sb : (s.toList == [115, 98]) = false := H ⟨#[115, 98]⟩ (by simp [widthNames])
  have h_lhu : (s.toList == [108, 104, 117]) = false := H ⟨#[108, 104, 117]⟩ (by simp [widthNames])
  have h_sh : (s.toList == [115, 104]) = false := H ⟨#[115, 104]⟩ (by simp [widthNames])
  have h_lwu : (s.toList == [108, 119, 117]) = false := H ⟨#[108, 119, 117]⟩ (by simp [widthNames])
  have h_sw : (s.toList == [115, 119]) = false := H ⟨#[115, 119]⟩ (by simp [widthNames])
  have h_sd : (s.toList == [115, 100]) = false := H ⟨#[115, 100]⟩ (by simp [widthNames])
  clear H
  go_enter Try.func20, Try.ntmps20
  go_wp2
  go_ret3
  exact ⟨rfl, rfl⟩
theorem Width_any (op : Int) (w : World) : Calls Try.prog 19 #[.int .i64 op] w fun e w' => e = .returned (widthV (opAt op).name) ∧ Below w.heap.size w w' := by
  have hn := fun w => Name_any op w
  generalize (opAt op).name = s at hn
  rcases str_cases s widthNames with ⟨t, ht, rfl⟩ | H
  · simp only [widthNames, List.mem_cons, List.not_mem_nil, or_false] at ht
    rcases ht with rfl | rfl | rfl | rfl | rfl | rfl | rfl | rfl | rfl | rfl | rfl
    · exact width_lb op hn w
    · exact width_lh op hn w
    · exact width_lw op hn w
    · exact width_ld op hn w
    · exact width_lbu op hn w
    · exact width_sb op hn w
    · exact width_lhu op hn w
    · exact width_sh op hn w
    · exact width_lwu op hn w
    · exact width_sw op hn w
    · exact width_sd op hn w
  · have e : widthV s = .tuple #[.int .i64 0, .bool false, .bool false] := by unfold widthV widthFind; rw [find_not H]; rfl
    rw [e]; exact width_not op s hn H w
theorem rWidth_any (s : ByteArray) (w : World) : Calls Try.prog 20 #[.string s] w fun e w' => e = .returned (widthV s) ∧ w = w' := by
  rcases str_cases s widthNames with ⟨t, ht, rfl⟩ | H
  · simp only [widthNames, List.mem_cons, List.not_mem_nil, or_false] at ht
    rcases ht with rfl | rfl | rfl | rfl | rfl | rfl | rfl | rfl | rfl | rfl | rfl
    · exact rwidth_lb w
    · exact rwidth_lh w
    · exact rwidth_lw w
    · exact rwidth_ld w
    · exact rwidth_lbu w
    · exact rwidth_sb w
    · exact rwidth_lhu w
    · exact rwidth_sh w
    · exact rwidth_lwu w
    · exact rwidth_sw w
    · exact rwidth_sd w
  · have e : widthV s = .tuple #[.int .i64 0, .bool false, .bool false] := by unfold widthV widthFind; rw [find_not H]; rfl
    rw [e]; exact rwidth_not s H w
end Go.Proofs.Ytmeebniadgngpaa
