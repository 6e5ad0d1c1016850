/- strings.TrimSuffix, and the table of what package alu reckons. No conditions but those that each names. -/
import Derived.Test.YtmeebniadgngpaaO7
import Derived.Lib.Strings
namespace Go.Proofs.Ytmeebniadgngpaa
open Go.RowKit
set_option linter.unusedVariables false
set_option linter.unusedSimpArgs false

/-! ### the end of a string -/
def endsB (s t : List UInt8) : Bool := decide (t.length ≤ s.length) && (s.drop (s.length - t.length) == t)
def trimF (s t : ByteArray) : ByteArray := if endsB s.data.toList t.data.toList then ⟨(s.data.toList.take (s.data.toList.length - t.data.toList.length)).toArray⟩ else s
theorem bsize (s : ByteArray) : s.data.toList.length = s.size := by rw [Array.length_toList]; rfl
theorem ext_end (s t : ByteArray) (h : t.size ≤ s.size) : ((s.extract (s.size - t.size) s.size).toList == t.toList) = (s.data.toList.drop (s.data.toList.length - t.data.toList.length) == t.data.toList) := by
  rw [ByteArray.toList_eq, ByteArray.toList_eq, Lib.extract_data, bsize, bsize]
  congr 1
  rw [List.take_of_length_le (by rw [List.length_drop, bsize]; omega)]
theorem ext_head (s : ByteArray) (n : Nat) : s.extract 0 n = ⟨(s.data.toList.take n).toArray⟩ := by
  have h := Lib.extract_data s 0 n
  cases he : s.extract 0 n
  rw [he] at h
  congr 1
  rw [← Array.toList_inj]
  simpa using h

theorem HasSuffix_any (s t : ByteArray) (hs : s.size ≤ 4611686018427387904) (ht : t.size ≤ 4611686018427387904) (w : World) :
    Calls Try.prog 70 #[.string s, .string t] w fun e w' => e = .returned (.bool (endsB s.data.toList t.data.toList)) ∧ w = w' := by
  by_cases h : t.size ≤ s.size
  · have e := Hd.mk (ext_end s t h)
    have h2 : (s.size : Int) - t.size = ((s.size - t.size : Nat) : Int) := by omega
    have h2' := Hd.mk h2
    clear h2
    go_enter Try.func70, Try.ntmps70
    go_wp2
    go_ret
    exact ⟨by show Ending.returned (.bool ((s.extract (s.size - t.size) s.size).toList == t.toList)) = _; rw [e.out]; unfold endsB; rw [bsize, bsize, decide_eq_true h, Bool.true_and], rfl⟩
  · have h' : s.size < t.size := by omega
    go_enter Try.func70, Try.ntmps70
    go_wp2
    go_ret
    exact ⟨by unfold endsB; rw [bsize, bsize, decide_eq_false h]; rfl, rfl⟩
theorem sTrimSuffix_any (s t : ByteArray) (hs : s.size ≤ 4611686018427387904) (ht : t.size ≤ 4611686018427387904) (w : World) :
    Calls Try.prog 45 #[.string s, .string t] w fun e w' => e = .returned (.string (trimF s t)) ∧ w = w' := by
  have hh := HasSuffix_any s t hs ht
  have hd := Hd.mk (ext_head s (s.size - t.size))
  cases he : endsB s.data.toList t.data.toList
  · have he' := Hd.mk he
    rw [he] at hh
    clear he
    go_enter Try.func45, Try.ntmps45
    go_wp2_with (go_at_call 70; refine (hh _).mono ?_; rintro e w' ⟨rfl, rfl⟩)
    go_ret
    exact ⟨by unfold trimF; rw [he'.out]; rfl, rfl⟩
  · have he' := Hd.mk he
    have h0 : t.size ≤ s.size := by unfold endsB at he; simp at he; rw [← bsize, ← bsize]; simpa using he.1
    rw [he] at hh
    clear he
    go_enter Try.func45, Try.ntmps45
    go_wp2_with (go_at_call 70; refine (hh _).mono ?_; rintro e w' ⟨rfl, rfl⟩)
    go_ret
    exact ⟨by show Ending.returned (.string (s.extract 0 (s.size - t.size))) = _; rw [hd.out]; unfold trimF; rw [he'.out, bsize, bsize]; rfl, rfl⟩
theorem TrimSuffix_any (s t : ByteArray) (hs : s.size ≤ 4611686018427387904) (ht : t.size ≤ 4611686018427387904) (w : World) :
    Calls Try.prog 35 #[.string s, .string t] w fun e w' => e = .returned (.string (trimF s t)) ∧ w = w' := by
  go_enter Try.func35, Try.ntmps35
  go_wp2_with (go_at_call 45; refine (sTrimSuffix_any s t hs ht _).mono ?_; rintro e w' ⟨rfl, rfl⟩)
  go_ret
  exact ⟨rfl, rfl⟩

/-! ### the table -/
structure RuleR where
  name : ByteArray
  fn : Nat
def ruleList : List RuleR := [⟨⟨#[97, 100, 100]⟩, 46⟩, ⟨⟨#[115, 117, 98]⟩, 47⟩, ⟨⟨#[115, 108, 108]⟩, 48⟩, ⟨⟨#[115, 108, 116]⟩, 49⟩, ⟨⟨#[115, 108, 116, 117]⟩, 51⟩,
  ⟨⟨#[120, 111, 114]⟩, 52⟩, ⟨⟨#[115, 114, 108]⟩, 53⟩, ⟨⟨#[115, 114, 97]⟩, 54⟩, ⟨⟨#[111, 114]⟩, 55⟩, ⟨⟨#[97, 110, 100]⟩, 56⟩, ⟨⟨#[109, 117, 108]⟩, 57⟩,
  ⟨⟨#[109, 117, 108, 104]⟩, 58⟩, ⟨⟨#[109, 117, 108, 104, 115, 117]⟩, 60⟩, ⟨⟨#[109, 117, 108, 104, 117]⟩, 61⟩, ⟨⟨#[100, 105, 118]⟩, 62⟩, ⟨⟨#[100, 105, 118, 117]⟩, 64⟩,
  ⟨⟨#[114, 101, 109]⟩, 65⟩, ⟨⟨#[114, 101, 109, 117]⟩, 67⟩]
def ruleCells : Array Value := (ruleList.flatMap fun r => [Value.string r.name, Value.func (.func r.fn) #[] #[]]).toArray
theorem rules_any (w : World) : Calls Try.prog 38 #[] w fun e w' => e = .returned (.slice (some ⟨w.heap.size, 0, none⟩) 18 18) ∧ Hd (w' = w.alloc (.cells ruleCells 46)) := by
  go_enter Try.func38, Try.ntmps38
  go_wp2
  go_ret
  exact ⟨rfl, ⟨rfl⟩⟩
def ruleFind (s : ByteArray) : Option Nat := ruleList.findIdx? (fun o => o.name.data.toList == s.data.toList)
def ruleAt (k : Nat) : RuleR := ruleList[k]?.getD ⟨⟨#[]⟩, 0⟩
theorem ruleCells_at (k : Nat) (h : k < 18) : ruleCells[2 * k]? = some (.string (ruleAt k).name) ∧ ruleCells[2 * k + 1]? = some (.func (.func (ruleAt k).fn) #[] #[]) := by
  have hc : k = 0 ∨ k = 1 ∨ k = 2 ∨ k = 3 ∨ k = 4 ∨ k = 5 ∨ k = 6 ∨ k = 7 ∨ k = 8 ∨ k = 9 ∨ k = 10 ∨ k = 11 ∨ k = 12 ∨ k = 13 ∨ k = 14 ∨ k = 15 ∨ k = 16 ∨ k = 17 := by omega
  rcases hc with rfl | rfl | rfl | rfl | rfl | rfl | rfl | rfl | rfl | rfl | rfl | rfl | rfl | rfl | rfl | rfl | rfl | rfl <;> exact ⟨rfl, rfl⟩

/-- What find hands back. -/
def ruleVal (s : ByteArray) : Value := match ruleFind s with
  | some k => .tuple #[.agg #[.string (ruleAt k).name, .func (.func (ruleAt k).fn) #[] #[]], .bool true]
  | none => .tuple #[.agg #[.string ⟨#[]⟩, .nilFunc], .bool false]
theorem toList_eq2 (s t : ByteArray) : (s.toList == t.toList) = (s.data.toList == t.data.toList) := by rw [ByteArray.toList_eq, ByteArray.toList_eq]
end Go.Proofs.Ytmeebniadgngpaa
