/- Package isa's Name and Kind. No conditions. -/
import Derived.Test.YtmeebniadgngpaaO5
namespace Go.Proofs.Ytmeebniadgngpaa
open Go.RowKit
set_option linter.unusedVariables false
set_option linter.unusedSimpArgs false

def isaAt (op : Int) : OpR := if 1 ≤ op then (isaList[op.toNat - 1]?).getD opNone else opNone
theorem isaAt_out (op : Int) (h : op < 1 ∨ 82 < op) : isaAt op = opNone := by
  unfold isaAt
  split
  · rw [List.getElem?_eq_none (by show 82 ≤ op.toNat - 1; omega)]; rfl
  · rfl
/-- One entry of the table. -/
theorem idx_1 (w : World) : (Instr.index 58 (.agg isaCells) (.int .i64 (1 - 1))).run Try.prog w = .ok (.agg (isaAt 1).pcells.toArray) w := by kernel_rfl
theorem idx_2 (w : World) : (Instr.index 58 (.agg isaCells) (.int .i64 (2 - 1))).run Try.prog w = .ok (.agg (isaAt 2).pcells.toArray) w := by kernel_rfl
theorem idx_3 (w : World) : (Instr.index 58 (.agg isaCells) (.int .i64 (3 - 1))).run Try.prog w = .ok (.agg (isaAt 3).pcells.toArray) w := by kernel_rfl
theorem idx_4 (w : World) : (Instr.index 58 (.agg isaCells) (.int .i64 (4 - 1))).run Try.prog w = .ok (.agg (isaAt 4).pcells.toArray) w := by kernel_rfl
theorem idx_5 (w : World) : (Instr.index 58 (.agg isaCells) (.int .i64 (5 - 1))).run Try.prog w = .ok (.agg (isaAt 5).pcells.toArray) w := by kernel_rfl
theorem idx_6 (w : World) : (Instr.index 58 (.agg isaCells) (.int .i64 (6 - 1))).run Try.prog w = .ok (.agg (isaAt 6).pcells.toArray) w := by kernel_rfl
theorem idx_7 (w : World) : (Instr.index 58 (.agg isaCells) (.int .i64 (7 - 1))).run Try.prog w = .ok (.agg (isaAt 7).pcells.toArray) w := by kernel_rfl
theorem idx_8 (w : World) : (Instr.index 58 (.agg isaCells) (.int .i64 (8 - 1))).run Try.prog w = .ok (.agg (isaAt 8).pcells.toArray) w := by kernel_rfl
theorem idx_9 (w : World) : (Instr.index 58 (.agg isaCells) (.int .i64 (9 - 1))).run Try.prog w = .ok (.agg (isaAt 9).pcells.toArray) w := by kernel_rfl
theorem idx_10 (w : World) : (Instr.index 58 (.agg isaCells) (.int .i64 (10 - 1))).run Try.prog w = .ok (.agg (isaAt 10).pcells.toArray) w := by kernel_rfl
theorem idx_11 (w : World) : (Instr.index 58 (.agg isaCells) (.int .i64 (11 - 1))).run Try.prog w = .ok (.agg (isaAt 11).pcells.toArray) w := by kernel_rfl
theorem idx_12 (w : World) : (Instr.index 58 (.agg isaCells) (.int .i64 (12 - 1))).run Try.prog w = .ok (.agg (isaAt 12).pcells.toArray) w := by kernel_rfl
theorem idx_13 (w : World) : (Instr.index 58 (.agg isaCells) (.int .i64 (13 - 1))).run Try.prog w = .ok (.agg (isaAt 13).pcells.toArray) w := by kernel_rfl
theorem idx_14 (w : World) : (Instr.index 58 (.agg isaCells) (.int .i64 (14 - 1))).run Try.prog w = .ok (.agg (isaAt 14).pcells.toArray) w := by kernel_rfl
theorem idx_15 (w : World) : (Instr.index 58 (.agg isaCells) (.int .i64 (15 - 1))).run Try.prog w = .ok (.agg (isaAt 15).pcells.toArray) w := by kernel_rfl
theorem idx_16 (w : World) : (Instr.index 58 (.agg isaCells) (.int .i64 (16 - 1))).run Try.prog w = .ok (.agg (isaAt 16).pcells.toArray) w := by kernel_rfl
theorem idx_17 (w : World) : (Instr.index 58 (.agg isaCells) (.int .i64 (17 - 1))).run Try.prog w = .ok (.agg (isaAt 17).pcells.toArray) w := by kernel_rfl
theorem idx_18 (w : World) : (Instr.index 58 (.agg isaCells) (.int .i64 (18 - 1))).run Try.prog w = .ok (.agg (isaAt 18).pcells.toArray) w := by kernel_rfl
theorem idx_19 (w : World) : (Instr.index 58 (.agg isaCells) (.int .i64 (19 - 1))).run Try.prog w = .ok (.agg (isaAt 19).pcells.toArray) w := by kernel_rfl
theorem idx_20 (w : World) : (Instr.index 58 (.agg isaCells) (.int .i64 (20 - 1))).run Try.prog w = .ok (.agg (isaAt 20).pcells.toArray) w := by kernel_rfl
theorem idx_21 (w : World) : (Instr.index 58 (.agg isaCells) (.int .i64 (21 - 1))).run Try.prog w = .ok (.agg (isaAt 21).pcells.toArray) w := by kernel_rfl
theorem idx_22 (w : World) : (Instr.index 58 (.agg isaCells) (.int .i64 (22 - 1))).run Try.prog w = .ok (.agg (isaAt 22).pcells.toArray) w := by kernel_rfl
theorem idx_23 (w : World) : (Instr.index 58 (.agg isaCells) (.int .i64 (23 - 1))).run Try.prog w = .ok (.agg (isaAt 23).pcells.toArray) w := by kernel_rfl
theorem idx_24 (w : World) : (Instr.index 58 (.agg isaCells) (.int .i64 (24 - 1))).run Try.prog w = .ok (.agg (isaAt 24).pcells.toArray) w := by kernel_rfl
theorem idx_25 (w : World) : (Instr.index 58 (.agg isaCells) (.int .i64 (25 - 1))).run Try.prog w = .ok (.agg (isaAt 25).pcells.toArray) w := by kernel_rfl
theorem idx_26 (w : World) : (Instr.index 58 (.agg isaCells) (.int .i64 (26 - 1))).run Try.prog w = .ok (.agg (isaAt 26).pcells.toArray) w := by kernel_rfl
theorem idx_27 (w : World) : (Instr.index 58 (.agg isaCells) (.int .i64 (27 - 1))).run Try.prog w = .ok (.agg (isaAt 27).pcells.toArray) w := by kernel_rfl
theorem idx_28 (w : World) : (Instr.index 58 (.agg isaCells) (.int .i64 (28 - 1))).run Try.prog w = .ok (.agg (isaAt 28).pcells.toArray) w := by kernel_rfl
theorem idx_29 (w : World) : (Instr.index 58 (.agg isaCells) (.int .i64 (29 - 1))).run Try.prog w = .ok (.agg (isaAt 29).pcells.toArray) w := by kernel_rfl
theorem idx_30 (w : World) : (Instr.index 58 (.agg isaCells) (.int .i64 (30 - 1))).run Try.prog w = .ok (.agg (isaAt 30).pcells.toArray) w := by kernel_rfl
theorem idx_31 (w : World) : (Instr.index 58 (.agg isaCells) (.int .i64 (31 - 1))).run Try.prog w = .ok (.agg (isaAt 31).pcells.toArray) w := by kernel_rfl
theorem idx_32 (w : World) : (Instr.index 58 (.agg isaCells) (.int .i64 (32 - 1))).run Try.prog w = .ok (.agg (isaAt 32).pcells.toArray) w := by kernel_rfl
theorem idx_33 (w : World) : (Instr.index 58 (.agg isaCells) (.int .i64 (33 - 1))).run Try.prog w = .ok (.agg (isaAt 33).pcells.toArray) w := by kernel_rfl
theorem idx_34 (w : World) : (Instr.index 58 (.agg isaCells) (.int .i64 (34 - 1))).run Try.prog w = .ok (.agg (isaAt 34).pcells.toArray) w := by kernel_rfl
theorem idx_35 (w : World) : (Instr.index 58 (.agg isaCells) (.int .i64 (35 - 1))).run Try.prog w = .ok (.agg (isaAt 35).pcells.toArray) w := by kernel_rfl
theorem idx_36 (w : World) : (Instr.index 58 (.agg isaCells) (.int .i64 (36 - 1))).run Try.prog w = .ok (.agg (isaAt 36).pcells.toArray) w := by kernel_rfl
theorem idx_37 (w : World) : (Instr.index 58 (.agg isaCells) (.int .i64 (37 - 1))).run Try.prog w = .ok (.agg (isaAt 37).pcells.toArray) w := by kernel_rfl
theorem idx_38 (w : World) : (Instr.index 58 (.agg isaCells) (.int .i64 (38 - 1))).run Try.prog w = .ok (.agg (isaAt 38).pcells.toArray) w := by kernel_rfl
theorem idx_39 (w : World) : (Instr.index 58 (.agg isaCells) (.int .i64 (39 - 1))).run Try.prog w = .ok (.agg (isaAt 39).pcells.toArray) w := by kernel_rfl
theorem idx_40 (w : World) : (Instr.index 58 (.agg isaCells) (.int .i64 (40 - 1))).run Try.prog w = .ok (.agg (isaAt 40).pcells.toArray) w := by kernel_rfl
theorem idx_41 (w : World) : (Instr.index 58 (.agg isaCells) (.int .i64 (41 - 1))).run Try.prog w = .ok (.agg (isaAt 41).pcells.toArray) w := by kernel_rfl
theorem idx_42 (w : World) : (Instr.index 58 (.agg isaCells) (.int .i64 (42 - 1))).run Try.prog w = .ok (.agg (isaAt 42).pcells.toArray) w := by kernel_rfl
theorem idx_43 (w : World) : (Instr.index 58 (.agg isaCells) (.int .i64 (43 - 1))).run Try.prog w = .ok (.agg (isaAt 43).pcells.toArray) w := by kernel_rfl
theorem idx_44 (w : World) : (Instr.index 58 (.agg isaCells) (.int .i64 (44 - 1))).run Try.prog w = .ok (.agg (isaAt 44).pcells.toArray) w := by kernel_rfl
theorem idx_45 (w : World) : (Instr.index 58 (.agg isaCells) (.int .i64 (45 - 1))).run Try.prog w = .ok (.agg (isaAt 45).pcells.toArray) w := by kernel_rfl
theorem idx_46 (w : World) : (Instr.index 58 (.agg isaCells) (.int .i64 (46 - 1))).run Try.prog w = .ok (.agg (isaAt 46).pcells.toArray) w := by kernel_rfl
theorem idx_47 (w : World) : (Instr.index 58 (.agg isaCells) (.int .i64 (47 - 1))).run Try.prog w = .ok (.agg (isaAt 47).pcells.toArray) w := by kernel_rfl
theorem idx_48 (w : World) : (Instr.index 58 (.agg isaCells) (.int .i64 (48 - 1))).run Try.prog w = .ok (.agg (isaAt 48).pcells.toArray) w := by kernel_rfl
theorem idx_49 (w : World) : (Instr.index 58 (.agg isaCells) (.int .i64 (49 - 1))).run Try.prog w = .ok (.agg (isaAt 49).pcells.toArray) w := by kernel_rfl
theorem idx_50 (w : World) : (Instr.index 58 (.agg isaCells) (.int .i64 (50 - 1))).run Try.prog w = .ok (.agg (isaAt 50).pcells.toArray) w := by kernel_rfl
theorem idx_51 (w : World) : (Instr.index 58 (.agg isaCells) (.int .i64 (51 - 1))).run Try.prog w = .ok (.agg (isaAt 51).pcells.toArray) w := by kernel_rfl
theorem idx_52 (w : World) : (Instr.index 58 (.agg isaCells) (.int .i64 (52 - 1))).run Try.prog w = .ok (.agg (isaAt 52).pcells.toArray) w := by kernel_rfl
theorem idx_53 (w : World) : (Instr.index 58 (.agg isaCells) (.int .i64 (53 - 1))).run Try.prog w = .ok (.agg (isaAt 53).pcells.toArray) w := by kernel_rfl
theorem idx_54 (w : World) : (Instr.index 58 (.agg isaCells) (.int .i64 (54 - 1))).run Try.prog w = .ok (.agg (isaAt 54).pcells.toArray) w := by kernel_rfl
theorem idx_55 (w : World) : (Instr.index 58 (.agg isaCells) (.int .i64 (55 - 1))).run Try.prog w = .ok (.agg (isaAt 55).pcells.toArray) w := by kernel_rfl
theorem idx_56 (w : World) : (Instr.index 58 (.agg isaCells) (.int .i64 (56 - 1))).run Try.prog w = .ok (.agg (isaAt 56).pcells.toArray) w := by kernel_rfl
theorem idx_57 (w : World) : (Instr.index 58 (.agg isaCells) (.int .i64 (57 - 1))).run Try.prog w = .ok (.agg (isaAt 57).pcells.toArray) w := by kernel_rfl
theorem idx_58 (w : World) : (Instr.index 58 (.agg isaCells) (.int .i64 (58 - 1))).run Try.prog w = .ok (.agg (isaAt 58).pcells.toArray) w := by kernel_rfl
theorem idx_59 (w : World) : (Instr.index 58 (.agg isaCells) (.int .i64 (59 - 1))).run Try.prog w = .ok (.agg (isaAt 59).pcells.toArray) w := by kernel_rfl
theorem idx_60 (w : World) : (Instr.index 58 (.agg isaCells) (.int .i64 (60 - 1))).run Try.prog w = .ok (.agg (isaAt 60).pcells.toArray) w := by kernel_rfl
theorem idx_61 (w : World) : (Instr.index 58 (.agg isaCells) (.int .i64 (61 - 1))).run Try.prog w = .ok (.agg (isaAt 61).pcells.toArray) w := by kernel_rfl
theorem idx_62 (w : World) : (Instr.index 58 (.agg isaCells) (.int .i64 (62 - 1))).run Try.prog w = .ok (.agg (isaAt 62).pcells.toArray) w := by kernel_rfl
theorem idx_63 (w : World) : (Instr.index 58 (.agg isaCells) (.int .i64 (63 - 1))).run Try.prog w = .ok (.agg (isaAt 63).pcells.toArray) w := by kernel_rfl
theorem idx_64 (w : World) : (Instr.index 58 (.agg isaCells) (.int .i64 (64 - 1))).run Try.prog w = .ok (.agg (isaAt 64).pcells.toArray) w := by kernel_rfl
theorem idx_65 (w : World) : (Instr.index 58 (.agg isaCells) (.int .i64 (65 - 1))).run Try.prog w = .ok (.agg (isaAt 65).pcells.toArray) w := by kernel_rfl
theorem idx_66 (w : World) : (Instr.index 58 (.agg isaCells) (.int .i64 (66 - 1))).run Try.prog w = .ok (.agg (isaAt 66).pcells.toArray) w := by kernel_rfl
theorem idx_67 (w : World) : (Instr.index 58 (.agg isaCells) (.int .i64 (67 - 1))).run Try.prog w = .ok (.agg (isaAt 67).pcells.toArray) w := by kernel_rfl
theorem idx_68 (w : World) : (Instr.index 58 (.agg isaCells) (.int .i64 (68 - 1))).run Try.prog w = .ok (.agg (isaAt 68).pcells.toArray) w := by kernel_rfl
theorem idx_69 (w : World) : (Instr.index 58 (.agg isaCells) (.int .i64 (69 - 1))).run Try.prog w = .ok (.agg (isaAt 69).pcells.toArray) w := by kernel_rfl
theorem idx_70 (w : World) : (Instr.index 58 (.agg isaCells) (.int .i64 (70 - 1))).run Try.prog w = .ok (.agg (isaAt 70).pcells.toArray) w := by kernel_rfl
theorem idx_71 (w : World) : (Instr.index 58 (.agg isaCells) (.int .i64 (71 - 1))).run Try.prog w = .ok (.agg (isaAt 71).pcells.toArray) w := by kernel_rfl
theorem idx_72 (w : World) : (Instr.index 58 (.agg isaCells) (.int .i64 (72 - 1))).run Try.prog w = .ok (.agg (isaAt 72).pcells.toArray) w := by kernel_rfl
theorem idx_73 (w : World) : (Instr.index 58 (.agg isaCells) (.int .i64 (73 - 1))).run Try.prog w = .ok (.agg (isaAt 73).pcells.toArray) w := by kernel_rfl
theorem idx_74 (w : World) : (Instr.index 58 (.agg isaCells) (.int .i64 (74 - 1))).run Try.prog w = .ok (.agg (isaAt 74).pcells.toArray) w := by kernel_rfl
theorem idx_75 (w : World) : (Instr.index 58 (.agg isaCells) (.int .i64 (75 - 1))).run Try.prog w = .ok (.agg (isaAt 75).pcells.toArray) w := by kernel_rfl
theorem idx_76 (w : World) : (Instr.index 58 (.agg isaCells) (.int .i64 (76 - 1))).run Try.prog w = .ok (.agg (isaAt 76).pcells.toArray) w := by kernel_rfl
theorem idx_77 (w : World) : (Instr.index 58 (.agg isaCells) (.int .i64 (77 - 1))).run Try.prog w = .ok (.agg (isaAt 77).pcells.toArray) w := by kernel_rfl
theorem idx_78 (w : World) : (Instr.index 58 (.agg isaCells) (.int .i64 (78 - 1))).run Try.prog w = .ok (.agg (isaAt 78).pcells.toArray) w := by kernel_rfl
theorem idx_79 (w : World) : (Instr.index 58 (.agg isaCells) (.int .i64 (79 - 1))).run Try.prog w = .ok (.agg (isaAt 79).pcells.toArray) w := by kernel_rfl
theorem idx_80 (w : World) : (Instr.index 58 (.agg isaCells) (.int .i64 (80 - 1))).run Try.prog w = .ok (.agg (isaAt 80).pcells.toArray) w := by kernel_rfl
theorem idx_81 (w : World) : (Instr.index 58 (.agg isaCells) (.int .i64 (81 - 1))).run Try.prog w = .ok (.agg (isaAt 81).pcells.toArray) w := by kernel_rfl
theorem idx_82 (w : World) : (Instr.index 58 (.agg isaCells) (.int .i64 (82 - 1))).run Try.prog w = .ok (.agg (isaAt 82).pcells.toArray) w := by kernel_rfl
theorem idx_any (op : Int) (h1 : 1 ≤ op) (h2 : op ≤ 82) (w : World) : (Instr.index 58 (.agg isaCells) (.int .i64 (op - 1))).run Try.prog w =
    .ok (.agg #[.string (isaAt op).name, .int .i64 (isaAt op).kind, .int .u32 (isaAt op).code, .int .u32 (isaAt op).f3, .int .u32 (isaAt op).f7, .int .i64 (isaAt op).shift]) w := by
  have hc : op = 1 ∨ op = 2 ∨ op = 3 ∨ op = 4 ∨ op = 5 ∨ op = 6 ∨ op = 7 ∨ op = 8 ∨ op = 9 ∨ op = 10 ∨ op = 11 ∨ op = 12 ∨ op = 13 ∨ op = 14 ∨ op = 15 ∨ op = 16 ∨ op = 17 ∨ op = 18 ∨ op = 19 ∨ op = 20 ∨ op = 21 ∨ op = 22 ∨ op = 23 ∨ op = 24 ∨ op = 25 ∨ op = 26 ∨ op = 27 ∨ op = 28 ∨ op = 29 ∨ op = 30 ∨ op = 31 ∨ op = 32 ∨ op = 33 ∨ op = 34 ∨ op = 35 ∨ op = 36 ∨ op = 37 ∨ op = 38 ∨ op = 39 ∨ op = 40 ∨ op = 41 ∨ op = 42 ∨ op = 43 ∨ op = 44 ∨ op = 45 ∨ op = 46 ∨ op = 47 ∨ op = 48 ∨ op = 49 ∨ op = 50 ∨ op = 51 ∨ op = 52 ∨ op = 53 ∨ op = 54 ∨ op = 55 ∨ op = 56 ∨ op = 57 ∨ op = 58 ∨ op = 59 ∨ op = 60 ∨ op = 61 ∨ op = 62 ∨ op = 63 ∨ op = 64 ∨ op = 65 ∨ op = 66 ∨ op = 67 ∨ op = 68 ∨ op = 69 ∨ op = 70 ∨ op = 71 ∨ op = 72 ∨ op = 73 ∨ op = 74 ∨ op = 75 ∨ op = 76 ∨ op = 77 ∨ op = 78 ∨ op = 79 ∨ op = 80 ∨ op = 81 ∨ op = 82 := by omega
  rcases hc with rfl | rfl | rfl | rfl | rfl | rfl | rfl | rfl | rfl | rfl | rfl | rfl | rfl | rfl | rfl | rfl | rfl | rfl | rfl | rfl | rfl | rfl | rfl | rfl | rfl | rfl | rfl | rfl | rfl | rfl | rfl | rfl | rfl | rfl | rfl | rfl | rfl | rfl | rfl | rfl | rfl | rfl | rfl | rfl | rfl | rfl | rfl | rfl | rfl | rfl | rfl | rfl | rfl | rfl | rfl | rfl | rfl | rfl | rfl | rfl | rfl | rfl | rfl | rfl | rfl | rfl | rfl | rfl | rfl | rfl | rfl | rfl | rfl | rfl | rfl | rfl | rfl | rfl | rfl | rfl | rfl | rfl
  · exact idx_1 w
  · exact idx_2 w
  · exact idx_3 w
  · exact idx_4 w
  · exact idx_5 w
  · exact idx_6 w
  · exact idx_7 w
  · exact idx_8 w
  · exact idx_9 w
  · exact idx_10 w
  · exact idx_11 w
  · exact idx_12 w
  · exact idx_13 w
  · exact idx_14 w
  · exact idx_15 w
  · exact idx_16 w
  · exact idx_17 w
  · exact idx_18 w
  · exact idx_19 w
  · exact idx_20 w
  · exact idx_21 w
  · exact idx_22 w
  · exact idx_23 w
  · exact idx_24 w
  · exact idx_25 w
  · exact idx_26 w
  · exact idx_27 w
  · exact idx_28 w
  · exact idx_29 w
  · exact idx_30 w
  · exact idx_31 w
  · exact idx_32 w
  · exact idx_33 w
  · exact idx_34 w
  · exact idx_35 w
  · exact idx_36 w
  · exact idx_37 w
  · exact idx_38 w
  · exact idx_39 w
  · exact idx_40 w
  · exact idx_41 w
  · exact idx_42 w
  · exact idx_43 w
  · exact idx_44 w
  · exact idx_45 w
  · exact idx_46 w
  · exact idx_47 w
  · exact idx_48 w
  · exact idx_49 w
  · exact idx_50 w
  · exact idx_51 w
  · exact idx_52 w
  · exact idx_53 w
  · exact idx_54 w
  · exact idx_55 w
  · exact idx_56 w
  · exact idx_57 w
  · exact idx_58 w
  · exact idx_59 w
  · exact idx_60 w
  · exact idx_61 w
  · exact idx_62 w
  · exact idx_63 w
  · exact idx_64 w
  · exact idx_65 w
  · exact idx_66 w
  · exact idx_67 w
  · exact idx_68 w
  · exact idx_69 w
  · exact idx_70 w
  · exact idx_71 w
  · exact idx_72 w
  · exact idx_73 w
  · exact idx_74 w
  · exact idx_75 w
  · exact idx_76 w
  · exact idx_77 w
  · exact idx_78 w
  · exact idx_79 w
  · exact idx_80 w
  · exact idx_81 w
  · exact idx_82 w
theorem isa_name (op : Int) : (isaAt op).name.data = (opAt op).name.data ∧ (isaAt op).kind = (opAt op).kind := by
  by_cases h : op < 1 ∨ 82 < op
  · rw [isaAt_out op h, opAt_out op h]; exact ⟨rfl, rfl⟩
  · unfold isaAt opAt
    rw [if_pos (by omega), if_pos (by omega)]
    have e := congrArg (fun l => l[op.toNat - 1]?) isaList_eq
    have l1 : isaList.length = 82 := by decide
    have l2 : opList.length = 82 := by decide
    simp only [List.getElem?_map] at e
    rw [List.getElem?_eq_getElem (by omega), List.getElem?_eq_getElem (by omega)] at e ⊢
    simp only [Option.map_some, Option.some.injEq, Prod.mk.injEq, Option.getD_some] at e ⊢
    exact e
theorem isa_name' (op : Int) : (isaAt op).name = (opAt op).name := by
  have h := (isa_name op).1
  cases h1 : (isaAt op).name; cases h2 : (opAt op).name
  rw [h1, h2] at h
  cases h; rfl

end Go.Proofs.Ytmeebniadgngpaa
