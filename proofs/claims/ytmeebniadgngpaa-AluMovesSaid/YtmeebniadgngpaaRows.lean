/-
  No cell of these rows narrows 'for every input' (looked for: loops, veiled, ifaces, maps, wideKeys, modest, calm, conditions, laid).
  DERIVED. THE GIVEN ROWS OF THIS SEAT. 7 by the template 'for every input the law returns true; each argument reads behind the call as it read before'; 0 by the template 'total and deterministic' (their statements: YtmeebniadgngpaaTotals.lean).
  GIVEN WITH THE SEED: the statements are not yours to turn. If you find one false, say at which input.
  Laid BY PROGRAM, IN A SANDBOX (cutbox-rows.mjs): the forced cells as the released guide's own fill.sh prints them over the translation b0b981627e761ae3… (all of the seat's roots in one cut). By AI agents, Wed Nov 11 2026. No macro, syntax, notation, axiom, sorry.
-/
import Derived.Test.YtmeebniadgngpaaChecked
import GoSem.Claim
import GoSem.ClaimJoined
import GoSem.ClaimMapViews
import Derived.JoinedTies
import Derived.KernelRfl
namespace Go.Proofs.Ytmeebniadgngpaa
/- THE CELL 'sum', in the pinned program and in every row, IS THE sha256 OF THE DUMP (.gsa) THAT YtmeebniadgngpaaProg.lean LOADS. Nothing in Lean hashes anything: it is a label: what it is worth is what the hold of that sum in a sandbox is worth. -/
noncomputable def Try.pinned : Pinned := { name := "ytmeebniadgngpaa", sum := "b0b981627e761ae356e0201aea414f0490e369039290819af8925e4b5f8c54f1", checked := Try.checked }
namespace Rows
def none {H : Type} : Left H := { results := [], args := [] }

/-- 'curtilagelaw06.AluReckons': WHATEVER THE INPUT: true; the input reads as it did. -/
def aluReckonsSpec : ChangeSpec := { name := "aluReckons", fn := fun _ => fun
  | [d1, d2, d3] => { results := [.lit (.bool true)], args := [d1, d2, d3] }
  | _ => none }
def aluReckonsRow : OpenClaim := { program := "ytmeebniadgngpaa", sum := "b0b981627e761ae356e0201aea414f0490e369039290819af8925e4b5f8c54f1", func := "curtilage/curtilagelaw06.AluReckons", spec := "aluReckons", unfollowed := true, recurses := true, apart := false }
def AluReckonsSaid : Prop := aluReckonsRow.holds Try.pinned (OpenSpec.ofChange aluReckonsSpec)

/-- ITS FALSE NEIGHBOUR: 'it returns false'. Refute it at one input. -/
def aluReckonsWrong : ChangeSpec := { name := "aluReckons", fn := fun _ => fun
  | [d1, d2, d3] => { results := [.lit (.bool false)], args := [d1, d2, d3] }
  | _ => none }
def AluReckonsWrongFalsely : Prop := aluReckonsRow.holds Try.pinned (OpenSpec.ofChange aluReckonsWrong)

/-- 'curtilagelaw06.AluDivides': WHATEVER THE INPUT: true; the input reads as it did. -/
def aluDividesSpec : ChangeSpec := { name := "aluDivides", fn := fun _ => fun
  | [d1, d2] => { results := [.lit (.bool true)], args := [d1, d2] }
  | _ => none }
def aluDividesRow : OpenClaim := { program := "ytmeebniadgngpaa", sum := "b0b981627e761ae356e0201aea414f0490e369039290819af8925e4b5f8c54f1", func := "curtilage/curtilagelaw06.AluDivides", spec := "aluDivides", unfollowed := true, recurses := true, apart := false }
def AluDividesSaid : Prop := aluDividesRow.holds Try.pinned (OpenSpec.ofChange aluDividesSpec)

/-- ITS FALSE NEIGHBOUR: 'it returns false'. Refute it at one input. -/
def aluDividesWrong : ChangeSpec := { name := "aluDivides", fn := fun _ => fun
  | [d1, d2] => { results := [.lit (.bool false)], args := [d1, d2] }
  | _ => none }
def AluDividesWrongFalsely : Prop := aluDividesRow.holds Try.pinned (OpenSpec.ofChange aluDividesWrong)

/-- 'curtilagelaw06.AluShort': WHATEVER THE INPUT: true; the input reads as it did. -/
def aluShortSpec : ChangeSpec := { name := "aluShort", fn := fun _ => fun
  | [d1, d2] => { results := [.lit (.bool true)], args := [d1, d2] }
  | _ => none }
def aluShortRow : OpenClaim := { program := "ytmeebniadgngpaa", sum := "b0b981627e761ae356e0201aea414f0490e369039290819af8925e4b5f8c54f1", func := "curtilage/curtilagelaw06.AluShort", spec := "aluShort", unfollowed := true, recurses := true, apart := false }
def AluShortSaid : Prop := aluShortRow.holds Try.pinned (OpenSpec.ofChange aluShortSpec)

/-- ITS FALSE NEIGHBOUR: 'it returns false'. Refute it at one input. -/
def aluShortWrong : ChangeSpec := { name := "aluShort", fn := fun _ => fun
  | [d1, d2] => { results := [.lit (.bool false)], args := [d1, d2] }
  | _ => none }
def AluShortWrongFalsely : Prop := aluShortRow.holds Try.pinned (OpenSpec.ofChange aluShortWrong)

/-- 'curtilagelaw06.AluConditions': WHATEVER THE INPUT: true; the input reads as it did. -/
def aluConditionsSpec : ChangeSpec := { name := "aluConditions", fn := fun _ => fun
  | [d1, d2] => { results := [.lit (.bool true)], args := [d1, d2] }
  | _ => none }
def aluConditionsRow : OpenClaim := { program := "ytmeebniadgngpaa", sum := "b0b981627e761ae356e0201aea414f0490e369039290819af8925e4b5f8c54f1", func := "curtilage/curtilagelaw06.AluConditions", spec := "aluConditions", unfollowed := true, recurses := true, apart := false }
def AluConditionsSaid : Prop := aluConditionsRow.holds Try.pinned (OpenSpec.ofChange aluConditionsSpec)

/-- ITS FALSE NEIGHBOUR: 'it returns false'. Refute it at one input. -/
def aluConditionsWrong : ChangeSpec := { name := "aluConditions", fn := fun _ => fun
  | [d1, d2] => { results := [.lit (.bool false)], args := [d1, d2] }
  | _ => none }
def AluConditionsWrongFalsely : Prop := aluConditionsRow.holds Try.pinned (OpenSpec.ofChange aluConditionsWrong)

/-- 'curtilagelaw06.AluMoves': WHATEVER THE INPUT: true; the input reads as it did. -/
def aluMovesSpec : ChangeSpec := { name := "aluMoves", fn := fun _ => fun
  | [d1, d2] => { results := [.lit (.bool true)], args := [d1, d2] }
  | _ => none }
def aluMovesRow : OpenClaim := { program := "ytmeebniadgngpaa", sum := "b0b981627e761ae356e0201aea414f0490e369039290819af8925e4b5f8c54f1", func := "curtilage/curtilagelaw06.AluMoves", spec := "aluMoves", unfollowed := true, recurses := true, apart := false }
def AluMovesSaid : Prop := aluMovesRow.holds Try.pinned (OpenSpec.ofChange aluMovesSpec)

/-- ITS FALSE NEIGHBOUR: 'it returns false'. Refute it at one input. -/
def aluMovesWrong : ChangeSpec := { name := "aluMoves", fn := fun _ => fun
  | [d1, d2] => { results := [.lit (.bool false)], args := [d1, d2] }
  | _ => none }
def AluMovesWrongFalsely : Prop := aluMovesRow.holds Try.pinned (OpenSpec.ofChange aluMovesWrong)

/-- 'curtilagelaw06.AluBits': WHATEVER THE INPUT: true; the input reads as it did. -/
def aluBitsSpec : ChangeSpec := { name := "aluBits", fn := fun _ => fun
  | [d1, d2] => { results := [.lit (.bool true)], args := [d1, d2] }
  | _ => none }
def aluBitsRow : OpenClaim := { program := "ytmeebniadgngpaa", sum := "b0b981627e761ae356e0201aea414f0490e369039290819af8925e4b5f8c54f1", func := "curtilage/curtilagelaw06.AluBits", spec := "aluBits", unfollowed := true, recurses := true, apart := false }
def AluBitsSaid : Prop := aluBitsRow.holds Try.pinned (OpenSpec.ofChange aluBitsSpec)

/-- ITS FALSE NEIGHBOUR: 'it returns false'. Refute it at one input. -/
def aluBitsWrong : ChangeSpec := { name := "aluBits", fn := fun _ => fun
  | [d1, d2] => { results := [.lit (.bool false)], args := [d1, d2] }
  | _ => none }
def AluBitsWrongFalsely : Prop := aluBitsRow.holds Try.pinned (OpenSpec.ofChange aluBitsWrong)

/-- 'curtilagelaw06.AluTells': WHATEVER THE INPUT: true; the input reads as it did. -/
def aluTellsSpec : ChangeSpec := { name := "aluTells", fn := fun _ => fun
  | [d1, d2, d3] => { results := [.lit (.bool true)], args := [d1, d2, d3] }
  | _ => none }
def aluTellsRow : OpenClaim := { program := "ytmeebniadgngpaa", sum := "b0b981627e761ae356e0201aea414f0490e369039290819af8925e4b5f8c54f1", func := "curtilage/curtilagelaw06.AluTells", spec := "aluTells", unfollowed := true, recurses := true, apart := false }
def AluTellsSaid : Prop := aluTellsRow.holds Try.pinned (OpenSpec.ofChange aluTellsSpec)

/-- ITS FALSE NEIGHBOUR: 'it returns false'. Refute it at one input. -/
def aluTellsWrong : ChangeSpec := { name := "aluTells", fn := fun _ => fun
  | [d1, d2, d3] => { results := [.lit (.bool false)], args := [d1, d2, d3] }
  | _ => none }
def AluTellsWrongFalsely : Prop := aluTellsRow.holds Try.pinned (OpenSpec.ofChange aluTellsWrong)

/- THE SECOND FORM. 'bulk': how many values and letters a reading holds, each counted each time it is reached (what is shared counts as often as it is met; a slice's spare places count too). A statement '..UptoSaid' is the law's where the arguments, and the package variables that the reading takes, are together of bulk at most 1048576: NARROWER than '..Said'. Prove '..Said' where nothing that the law and all that it calls make is longer than what came in: it says more and counts as full. Else prove '..UptoSaid'. A law counts once. -/
mutual
def uptoBulk {H : Type} : DataW H → Nat
  | .lit (.string bytes) => bytes.length + 1
  | .lit _ => 1
  | .nil => 1
  | .ptr d => uptoBulk d + 1
  | .slice elems spare => uptoBulkAll elems + uptoBulkAll spare + 1
  | .agg parts => uptoBulkAll parts + 1
  | .iface _ d => uptoBulk d + 1
  | .map entries => uptoBulkEntries entries + 1
  | .held _ => 1
def uptoBulkAll {H : Type} : List (DataW H) → Nat
  | [] => 0
  | d :: r => uptoBulk d + uptoBulkAll r
def uptoBulkEntries {H : Type} : List (Lit × DataW H) → Nat
  | [] => 0
  | x :: r => uptoBulkEntry x + uptoBulkEntries r
def uptoBulkEntry {H : Type} : Lit × DataW H → Nat
  | (.string bytes, d) => bytes.length + uptoBulk d + 1
  | (_, d) => uptoBulk d + 1
 end
def uptoSmall : (H : Type) → List (DataW H) → Bool := fun _ ds => decide (uptoBulkAll ds ≤ 1048576)
def OpenSpec.upto (s : _root_.Go.ChangeSpec) : _root_.Go.OpenSpec := { _root_.Go.OpenSpec.ofChange s with cond := some uptoSmall }

/-- 'curtilagelaw06.AluReckons', WHERE WHAT IT READS IS OF BULK AT MOST 1048576: true; the input reads as it did. -/
def aluReckonsUptoRow : OpenClaim := { program := "ytmeebniadgngpaa", sum := "b0b981627e761ae356e0201aea414f0490e369039290819af8925e4b5f8c54f1", func := "curtilage/curtilagelaw06.AluReckons", spec := "aluReckons", unfollowed := true, recurses := true, apart := false, narrowed := true }
def AluReckonsUptoSaid : Prop := aluReckonsUptoRow.holds Try.pinned (OpenSpec.upto aluReckonsSpec)

/-- 'curtilagelaw06.AluDivides', WHERE WHAT IT READS IS OF BULK AT MOST 1048576: true; the input reads as it did. -/
def aluDividesUptoRow : OpenClaim := { program := "ytmeebniadgngpaa", sum := "b0b981627e761ae356e0201aea414f0490e369039290819af8925e4b5f8c54f1", func := "curtilage/curtilagelaw06.AluDivides", spec := "aluDivides", unfollowed := true, recurses := true, apart := false, narrowed := true }
def AluDividesUptoSaid : Prop := aluDividesUptoRow.holds Try.pinned (OpenSpec.upto aluDividesSpec)

/-- 'curtilagelaw06.AluShort', WHERE WHAT IT READS IS OF BULK AT MOST 1048576: true; the input reads as it did. -/
def aluShortUptoRow : OpenClaim := { program := "ytmeebniadgngpaa", sum := "b0b981627e761ae356e0201aea414f0490e369039290819af8925e4b5f8c54f1", func := "curtilage/curtilagelaw06.AluShort", spec := "aluShort", unfollowed := true, recurses := true, apart := false, narrowed := true }
def AluShortUptoSaid : Prop := aluShortUptoRow.holds Try.pinned (OpenSpec.upto aluShortSpec)

/-- 'curtilagelaw06.AluConditions', WHERE WHAT IT READS IS OF BULK AT MOST 1048576: true; the input reads as it did. -/
def aluConditionsUptoRow : OpenClaim := { program := "ytmeebniadgngpaa", sum := "b0b981627e761ae356e0201aea414f0490e369039290819af8925e4b5f8c54f1", func := "curtilage/curtilagelaw06.AluConditions", spec := "aluConditions", unfollowed := true, recurses := true, apart := false, narrowed := true }
def AluConditionsUptoSaid : Prop := aluConditionsUptoRow.holds Try.pinned (OpenSpec.upto aluConditionsSpec)

/-- 'curtilagelaw06.AluMoves', WHERE WHAT IT READS IS OF BULK AT MOST 1048576: true; the input reads as it did. -/
def aluMovesUptoRow : OpenClaim := { program := "ytmeebniadgngpaa", sum := "b0b981627e761ae356e0201aea414f0490e369039290819af8925e4b5f8c54f1", func := "curtilage/curtilagelaw06.AluMoves", spec := "aluMoves", unfollowed := true, recurses := true, apart := false, narrowed := true }
def AluMovesUptoSaid : Prop := aluMovesUptoRow.holds Try.pinned (OpenSpec.upto aluMovesSpec)

/-- 'curtilagelaw06.AluBits', WHERE WHAT IT READS IS OF BULK AT MOST 1048576: true; the input reads as it did. -/
def aluBitsUptoRow : OpenClaim := { program := "ytmeebniadgngpaa", sum := "b0b981627e761ae356e0201aea414f0490e369039290819af8925e4b5f8c54f1", func := "curtilage/curtilagelaw06.AluBits", spec := "aluBits", unfollowed := true, recurses := true, apart := false, narrowed := true }
def AluBitsUptoSaid : Prop := aluBitsUptoRow.holds Try.pinned (OpenSpec.upto aluBitsSpec)

/-- 'curtilagelaw06.AluTells', WHERE WHAT IT READS IS OF BULK AT MOST 1048576: true; the input reads as it did. -/
def aluTellsUptoRow : OpenClaim := { program := "ytmeebniadgngpaa", sum := "b0b981627e761ae356e0201aea414f0490e369039290819af8925e4b5f8c54f1", func := "curtilage/curtilagelaw06.AluTells", spec := "aluTells", unfollowed := true, recurses := true, apart := false, narrowed := true }
def AluTellsUptoSaid : Prop := aluTellsUptoRow.holds Try.pinned (OpenSpec.upto aluTellsSpec)

end Rows
end Go.Proofs.Ytmeebniadgngpaa
