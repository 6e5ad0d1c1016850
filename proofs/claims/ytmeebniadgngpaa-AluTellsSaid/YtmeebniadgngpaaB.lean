/- Unsigned words of 64, 32 and 8 bits as bit vectors: one value form a width, and what each operation of the model gives on it. No conditions. -/
import Derived.Test.YtmeebniadgngpaaProg
import Derived.WalkKit
import Derived.WalkLawsBesides
import Derived.WalkSpells
import Derived.Deep.LoopGhost
import Derived.Deep.QuietTactic
import Derived.BigQuiet
import Derived.Deep.RegionWith
import Derived.Deep.DeepFit
namespace Go.Proofs.Ytmeebniadgngpaa
open Go.RowKit
set_option linter.unusedVariables false
set_option linter.unusedSimpArgs false

/-- A fact that the walk doesn't look into. -/
structure Hd (p : Prop) : Prop where
  out : p
/-- Words held against each other: kept shut. -/
def ltB {n : Nat} (a b : BitVec n) : Bool := decide (a.toNat < b.toNat)
def leB {n : Nat} (a b : BitVec n) : Bool := decide (a.toNat ≤ b.toNat)
@[go_sem] theorem ltB_lit (n a b : Nat) : ltB (BitVec.ofNat n a) (BitVec.ofNat n b) = decide (a % 2 ^ n < b % 2 ^ n) := by simp [ltB]
@[go_sem] theorem leB_lit (n a b : Nat) : leB (BitVec.ofNat n a) (BitVec.ofNat n b) = decide (a % 2 ^ n ≤ b % 2 ^ n) := by simp [leB]
theorem two_pow_dvd (n s : Nat) : (2 : Int) ^ n = ((2 ^ n : Nat) : Int) := by simp

/-! ### u64 -/
def U (a : BitVec 64) : Value := .int .u64 (a.toNat : Int)
theorem U_eq (a : BitVec 64) : U a = .int .u64 (a.toNat : Int) := rfl
theorem U_inj {a b : BitVec 64} (h : U a = U b) : a = b := by
  unfold U at h; injection h with _ h; exact BitVec.eq_of_toNat_eq (by omega)
theorem U_wrap (m : Int) : IntKind.u64.wrap m = ((BitVec.ofInt 64 m).toNat : Int) := by
  simp [IntKind.wrap, IntKind.bits, IntKind.signed, BitVec.toNat_ofInt] <;> omega
theorem U_of (m : Int) (h0 : 0 ≤ m) (h1 : m < 2 ^ 64) : Value.int .u64 m = U (BitVec.ofInt 64 m) := by
  unfold U; congr 1; simp [BitVec.toNat_ofInt]; omega
theorem U_nat (m : Nat) (h1 : m < 2 ^ 64) : Value.int .u64 (m : Int) = U (BitVec.ofNat 64 m) := by
  unfold U; congr 1; rw [BitVec.toNat_ofNat, Nat.mod_eq_of_lt h1]
theorem U_ofInt (a : BitVec 64) : BitVec.ofInt 64 (a.toNat : Int) = a := by
  apply BitVec.eq_of_toNat_eq; have := a.isLt; simp [BitVec.toNat_ofInt] <;> omega
theorem U_lt (a : BitVec 64) : (a.toNat : Int) < 2 ^ 64 := by have := a.isLt; omega
section
variable {P : Program} (w : World) (t : TypeId) (op : BinOp) (x y : Operand) (v : Value) (a b : BitVec 64)
@[go_sem] theorem U_guard : eqGuard op t x y (U a) v = pure () := by cases op <;> rfl
@[go_sem] theorem U_add : binOp .add t (U a) (U b) = pure (U (a + b)) := by
  simp only [U, binOp_add, Op.intArith]; rw [U_wrap, BitVec.ofInt_add, U_ofInt, U_ofInt]
@[go_sem] theorem U_sub : binOp .sub t (U a) (U b) = pure (U (a - b)) := by
  simp only [U, binOp_sub, Op.intArith]; rw [U_wrap, Int.sub_eq_add_neg, BitVec.ofInt_add, BitVec.ofInt_neg, U_ofInt, U_ofInt, BitVec.sub_eq_add_neg]
@[go_sem] theorem U_mul : binOp .mul t (U a) (U b) = pure (U (a * b)) := by
  simp only [U, binOp_mul, Op.intArith]; rw [U_wrap, BitVec.ofInt_mul, U_ofInt, U_ofInt]
theorem U_bits (r : BitVec 64) : IntKind.u64.wrap (r.toNat : Int) = (r.toNat : Int) := by rw [U_wrap, U_ofInt]
@[go_sem] theorem U_and : binOp .and t (U a) (U b) = pure (U (a &&& b)) := by
  simp only [U, binOp_and, Op.intBits, IntKind.bits]; rw [U_ofInt, U_ofInt, U_bits]; rfl
@[go_sem] theorem U_or : binOp .or t (U a) (U b) = pure (U (a ||| b)) := by
  simp only [U, binOp_or, Op.intBits, IntKind.bits]; rw [U_ofInt, U_ofInt, U_bits]; rfl
@[go_sem] theorem U_xor : binOp .xor t (U a) (U b) = pure (U (a ^^^ b)) := by
  simp only [U, binOp_xor, Op.intBits, IntKind.bits]; rw [U_ofInt, U_ofInt, U_bits]; rfl
@[go_sem] theorem U_andNot : binOp .andNot t (U a) (U b) = pure (U (a &&& ~~~b)) := by
  simp only [U, binOp_andNot, Op.intBits, IntKind.bits]; rw [U_ofInt, U_ofInt, U_bits]; rfl
@[go_sem] theorem U_quo (h : (b == 0#64) = false) : binOp .quo t (U a) (U b) = pure (U (a / b)) := by
  have hb : b.toNat ≠ 0 := fun e => by have : b = 0#64 := BitVec.eq_of_toNat_eq (by simpa using e); simp [this] at h
  simp only [U, binOp_quo, Op.intDiv]; rw [if_neg (by omega)]; rw [U_wrap]; congr 3
  rw [BitVec.toNat_ofInt, Int.tdiv_eq_ediv_of_nonneg (by omega), BitVec.toNat_udiv, ← Int.natCast_ediv]
  have h1 := Nat.div_le_self a.toNat b.toNat
  have h2 := a.isLt
  generalize a.toNat / b.toNat = q at h1
  omega
@[go_sem] theorem U_rem (h : (b == 0#64) = false) : binOp .rem t (U a) (U b) = pure (U (a % b)) := by
  have hb : b.toNat ≠ 0 := fun e => by have : b = 0#64 := BitVec.eq_of_toNat_eq (by simpa using e); simp [this] at h
  simp only [U, binOp_rem, Op.intDiv]; rw [if_neg (by omega), Int.tmod_eq_emod_of_nonneg (by omega), BitVec.toNat_umod, Int.natCast_emod]
@[go_sem] theorem U_eql : binOp .eql t (U a) (U b) = pure (.bool (a == b)) := by
  simp only [U, binOp_eql]; congr 2
  rw [Bool.eq_iff_iff]; simp only [beq_iff_eq]; rw [← BitVec.toNat_inj]; omega
@[go_sem] theorem U_neq : binOp .neq t (U a) (U b) = pure (.bool (a != b)) := by
  simp only [U, binOp_neq]; congr 2
  rw [Bool.eq_iff_iff]; simp only [bne_iff_ne, ne_eq]; rw [← BitVec.toNat_inj]; omega
@[go_sem] theorem U_lss : binOp .lss t (U a) (U b) = pure (.bool (ltB a b)) := by
  simp only [U, binOp_lss, ltB]; congr 2; exact decide_eq_decide.2 (by omega)
@[go_sem] theorem U_leq : binOp .leq t (U a) (U b) = pure (.bool (leB a b)) := by
  simp only [U, binOp_leq, leB]; congr 2; exact decide_eq_decide.2 (by omega)
@[go_sem] theorem U_gtr : binOp .gtr t (U a) (U b) = pure (.bool (ltB b a)) := by
  simp only [U, binOp_gtr, ltB]; congr 2; exact decide_eq_decide.2 (by omega)
@[go_sem] theorem U_geq : binOp .geq t (U a) (U b) = pure (.bool (leB b a)) := by
  simp only [U, binOp_geq, leB]; congr 2; exact decide_eq_decide.2 (by omega)
theorem U_shl0 (yk : IntKind) (s : Nat) : Op.shift .shl .u64 (a.toNat : Int) yk (s : Int) = pure (U (a <<< s)) := by
  rw [shift_shl_any _ _ _ _ (by omega), U_wrap]; simp only [Int.toNat_natCast, IntKind.bits, U]; congr 3
  rw [BitVec.toNat_ofInt, BitVec.toNat_shiftLeft, Nat.shiftLeft_eq]
  have e : ((a.toNat : Int) * 2 ^ min s 64) = ((a.toNat * 2 ^ min s 64 : Nat) : Int) := by simp
  rw [e]
  rcases Nat.lt_or_ge s 64 with h | h
  · rw [Nat.min_eq_left (by omega)]; omega
  · rw [Nat.min_eq_right h]
    have e2 : 2 ^ s = 2 ^ 64 * 2 ^ (s - 64) := by rw [← Nat.pow_add]; congr 1; omega
    rw [e2, Nat.mul_left_comm, Nat.mul_mod_right]
    omega
theorem U_shr0 (yk : IntKind) (s : Nat) : Op.shift .shr .u64 (a.toNat : Int) yk (s : Int) = pure (U (a >>> s)) := by
  rw [shift_shr_any _ _ _ _ (by omega)]; simp only [Int.toNat_natCast, IntKind.bits, U]; congr 2
  rw [BitVec.toNat_ushiftRight, Nat.shiftRight_eq_div_pow]
  have e : ((a.toNat : Int) / 2 ^ min s 64) = ((a.toNat / 2 ^ min s 64 : Nat) : Int) := by simp
  rw [e]; congr 1
  rcases Nat.lt_or_ge s 64 with h | h
  · rw [Nat.min_eq_left (by omega)]
  · rw [Nat.min_eq_right h, Nat.div_eq_of_lt a.isLt]
    have : 2 ^ 64 ≤ 2 ^ s := Nat.pow_le_pow_right (by omega) h
    rw [Nat.div_eq_of_lt (by have := a.isLt; omega)]
@[go_sem] theorem U_shl (yk : IntKind) (s : Int) (h : 0 ≤ s) : binOp .shl t (U a) (.int yk s) = pure (U (a <<< s.toNat)) := by
  obtain ⟨n, rfl⟩ := Int.eq_ofNat_of_zero_le h
  exact U_shl0 a yk n
@[go_sem] theorem U_shr (yk : IntKind) (s : Int) (h : 0 ≤ s) : binOp .shr t (U a) (.int yk s) = pure (U (a >>> s.toNat)) := by
  obtain ⟨n, rfl⟩ := Int.eq_ofNat_of_zero_le h
  exact U_shr0 a yk n
@[go_sem] theorem U_neg : Op.unary .neg (U a) = pure (U (-a)) := by
  simp only [U, Op.unary, Op.intArith]; rw [U_wrap, Int.sub_eq_add_neg, Int.zero_add, BitVec.ofInt_neg, U_ofInt]
@[go_sem] theorem U_compl : Op.unary .xor (U a) = pure (U (~~~a)) := by
  simp only [U, Op.unary, Op.intBits, IntKind.bits, IntKind.signed]; rw [U_ofInt, U_bits]
  have e : BitVec.ofInt 64 (IntKind.max .u64) = BitVec.allOnes 64 := by decide
  simp only [Bool.false_eq_true, if_false]
  show pure (Value.int .u64 ((BitVec.ofInt 64 (IntKind.max .u64) ^^^ a).toNat : Int)) = _
  rw [e, BitVec.allOnes_xor]
@[go_sem] theorem U_cells : Value.cells (U a) = #[U a] := rfl
@[go_sem] theorem U_one : Value.oneCell' (U a) = true := rfl
@[go_sem] theorem U_store (ad : Addr) (m : Mode) : (store ad (U a) m).run P w = stored P w ad (U a) m := run_store P w ad _ m rfl
@[go_sem] theorem U_min : Builtin.min2 (U a) (U b) = pure (U (if b.toNat < a.toNat then b else a)) := by
  simp only [Builtin.min2, U]; congr 2
  by_cases h : b.toNat < a.toNat
  · rw [if_pos h, if_pos (by omega)]
  · rw [if_neg h, if_neg (by omega)]
end

/-! ### u32 -/
def W (a : BitVec 32) : Value := .int .u32 (a.toNat : Int)
theorem W_eq (a : BitVec 32) : W a = .int .u32 (a.toNat : Int) := rfl
theorem W_inj {a b : BitVec 32} (h : W a = W b) : a = b := by
  unfold W at h; injection h with _ h; exact BitVec.eq_of_toNat_eq (by omega)
theorem W_wrap (m : Int) : IntKind.u32.wrap m = ((BitVec.ofInt 32 m).toNat : Int) := by
  simp [IntKind.wrap, IntKind.bits, IntKind.signed, BitVec.toNat_ofInt] <;> omega
theorem W_of (m : Int) (h0 : 0 ≤ m) (h1 : m < 2 ^ 32) : Value.int .u32 m = W (BitVec.ofInt 32 m) := by
  unfold W; congr 1; simp [BitVec.toNat_ofInt]; omega
theorem W_nat (m : Nat) (h1 : m < 2 ^ 32) : Value.int .u32 (m : Int) = W (BitVec.ofNat 32 m) := by
  unfold W; congr 1; rw [BitVec.toNat_ofNat, Nat.mod_eq_of_lt h1]
theorem W_ofInt (a : BitVec 32) : BitVec.ofInt 32 (a.toNat : Int) = a := by
  apply BitVec.eq_of_toNat_eq; have := a.isLt; simp [BitVec.toNat_ofInt] <;> omega
theorem W_lt (a : BitVec 32) : (a.toNat : Int) < 2 ^ 32 := by have := a.isLt; omega
section
variable {P : Program} (w : World) (t : TypeId) (op : BinOp) (x y : Operand) (v : Value) (a b : BitVec 32)
@[go_sem] theorem W_guard : eqGuard op t x y (W a) v = pure () := by cases op <;> rfl
@[go_sem] theorem W_add : binOp .add t (W a) (W b) = pure (W (a + b)) := by
  simp only [W, binOp_add, Op.intArith]; rw [W_wrap, BitVec.ofInt_add, W_ofInt, W_ofInt]
@[go_sem] theorem W_sub : binOp .sub t (W a) (W b) = pure (W (a - b)) := by
  simp only [W, binOp_sub, Op.intArith]; rw [W_wrap, Int.sub_eq_add_neg, BitVec.ofInt_add, BitVec.ofInt_neg, W_ofInt, W_ofInt, BitVec.sub_eq_add_neg]
@[go_sem] theorem W_mul : binOp .mul t (W a) (W b) = pure (W (a * b)) := by
  simp only [W, binOp_mul, Op.intArith]; rw [W_wrap, BitVec.ofInt_mul, W_ofInt, W_ofInt]
theorem W_bits (r : BitVec 32) : IntKind.u32.wrap (r.toNat : Int) = (r.toNat : Int) := by rw [W_wrap, W_ofInt]
@[go_sem] theorem W_and : binOp .and t (W a) (W b) = pure (W (a &&& b)) := by
  simp only [W, binOp_and, Op.intBits, IntKind.bits]; rw [W_ofInt, W_ofInt, W_bits]; rfl
@[go_sem] theorem W_or : binOp .or t (W a) (W b) = pure (W (a ||| b)) := by
  simp only [W, binOp_or, Op.intBits, IntKind.bits]; rw [W_ofInt, W_ofInt, W_bits]; rfl
@[go_sem] theorem W_xor : binOp .xor t (W a) (W b) = pure (W (a ^^^ b)) := by
  simp only [W, binOp_xor, Op.intBits, IntKind.bits]; rw [W_ofInt, W_ofInt, W_bits]; rfl
@[go_sem] theorem W_andNot : binOp .andNot t (W a) (W b) = pure (W (a &&& ~~~b)) := by
  simp only [W, binOp_andNot, Op.intBits, IntKind.bits]; rw [W_ofInt, W_ofInt, W_bits]; rfl
@[go_sem] theorem W_quo (h : (b == 0#32) = false) : binOp .quo t (W a) (W b) = pure (W (a / b)) := by
  have hb : b.toNat ≠ 0 := fun e => by have : b = 0#32 := BitVec.eq_of_toNat_eq (by simpa using e); simp [this] at h
  simp only [W, binOp_quo, Op.intDiv]; rw [if_neg (by omega)]; rw [W_wrap]; congr 3
  rw [BitVec.toNat_ofInt, Int.tdiv_eq_ediv_of_nonneg (by omega), BitVec.toNat_udiv, ← Int.natCast_ediv]
  have h1 := Nat.div_le_self a.toNat b.toNat
  have h2 := a.isLt
  generalize a.toNat / b.toNat = q at h1
  omega
@[go_sem] theorem W_rem (h : (b == 0#32) = false) : binOp .rem t (W a) (W b) = pure (W (a % b)) := by
  have hb : b.toNat ≠ 0 := fun e => by have : b = 0#32 := BitVec.eq_of_toNat_eq (by simpa using e); simp [this] at h
  simp only [W, binOp_rem, Op.intDiv]; rw [if_neg (by omega), Int.tmod_eq_emod_of_nonneg (by omega), BitVec.toNat_umod, Int.natCast_emod]
@[go_sem] theorem W_eql : binOp .eql t (W a) (W b) = pure (.bool (a == b)) := by
  simp only [W, binOp_eql]; congr 2
  rw [Bool.eq_iff_iff]; simp only [beq_iff_eq]; rw [← BitVec.toNat_inj]; omega
@[go_sem] theorem W_neq : binOp .neq t (W a) (W b) = pure (.bool (a != b)) := by
  simp only [W, binOp_neq]; congr 2
  rw [Bool.eq_iff_iff]; simp only [bne_iff_ne, ne_eq]; rw [← BitVec.toNat_inj]; omega
@[go_sem] theorem W_lss : binOp .lss t (W a) (W b) = pure (.bool (ltB a b)) := by
  simp only [W, binOp_lss, ltB]; congr 2; exact decide_eq_decide.2 (by omega)
@[go_sem] theorem W_leq : binOp .leq t (W a) (W b) = pure (.bool (leB a b)) := by
  simp only [W, binOp_leq, leB]; congr 2; exact decide_eq_decide.2 (by omega)
@[go_sem] theorem W_gtr : binOp .gtr t (W a) (W b) = pure (.bool (ltB b a)) := by
  simp only [W, binOp_gtr, ltB]; congr 2; exact decide_eq_decide.2 (by omega)
@[go_sem] theorem W_geq : binOp .geq t (W a) (W b) = pure (.bool (leB b a)) := by
  simp only [W, binOp_geq, leB]; congr 2; exact decide_eq_decide.2 (by omega)
theorem W_shl0 (yk : IntKind) (s : Nat) : Op.shift .shl .u32 (a.toNat : Int) yk (s : Int) = pure (W (a <<< s)) := by
  rw [shift_shl_any _ _ _ _ (by omega), W_wrap]; simp only [Int.toNat_natCast, IntKind.bits, W]; congr 3
  rw [BitVec.toNat_ofInt, BitVec.toNat_shiftLeft, Nat.shiftLeft_eq]
  have e : ((a.toNat : Int) * 2 ^ min s 32) = ((a.toNat * 2 ^ min s 32 : Nat) : Int) := by simp
  rw [e]
  rcases Nat.lt_or_ge s 32 with h | h
  · rw [Nat.min_eq_left (by omega)]; omega
  · rw [Nat.min_eq_right h]
    have e2 : 2 ^ s = 2 ^ 32 * 2 ^ (s - 32) := by rw [← Nat.pow_add]; congr 1; omega
    rw [e2, Nat.mul_left_comm, Nat.mul_mod_right]
    omega
theorem W_shr0 (yk : IntKind) (s : Nat) : Op.shift .shr .u32 (a.toNat : Int) yk (s : Int) = pure (W (a >>> s)) := by
  rw [shift_shr_any _ _ _ _ (by omega)]; simp only [Int.toNat_natCast, IntKind.bits, W]; congr 2
  rw [BitVec.toNat_ushiftRight, Nat.shiftRight_eq_div_pow]
  have e : ((a.toNat : Int) / 2 ^ min s 32) = ((a.toNat / 2 ^ min s 32 : Nat) : Int) := by simp
  rw [e]; congr 1
  rcases Nat.lt_or_ge s 32 with h | h
  · rw [Nat.min_eq_left (by omega)]
  · rw [Nat.min_eq_right h, Nat.div_eq_of_lt a.isLt]
    have : 2 ^ 32 ≤ 2 ^ s := Nat.pow_le_pow_right (by omega) h
    rw [Nat.div_eq_of_lt (by have := a.isLt; omega)]
@[go_sem] theorem W_shl (yk : IntKind) (s : Int) (h : 0 ≤ s) : binOp .shl t (W a) (.int yk s) = pure (W (a <<< s.toNat)) := by
  obtain ⟨n, rfl⟩ := Int.eq_ofNat_of_zero_le h
  exact W_shl0 a yk n
@[go_sem] theorem W_shr (yk : IntKind) (s : Int) (h : 0 ≤ s) : binOp .shr t (W a) (.int yk s) = pure (W (a >>> s.toNat)) := by
  obtain ⟨n, rfl⟩ := Int.eq_ofNat_of_zero_le h
  exact W_shr0 a yk n
@[go_sem] theorem W_neg : Op.unary .neg (W a) = pure (W (-a)) := by
  simp only [W, Op.unary, Op.intArith]; rw [W_wrap, Int.sub_eq_add_neg, Int.zero_add, BitVec.ofInt_neg, W_ofInt]
@[go_sem] theorem W_compl : Op.unary .xor (W a) = pure (W (~~~a)) := by
  simp only [W, Op.unary, Op.intBits, IntKind.bits, IntKind.signed]; rw [W_ofInt, W_bits]
  have e : BitVec.ofInt 32 (IntKind.max .u32) = BitVec.allOnes 32 := by decide
  simp only [Bool.false_eq_true, if_false]
  show pure (Value.int .u32 ((BitVec.ofInt 32 (IntKind.max .u32) ^^^ a).toNat : Int)) = _
  rw [e, BitVec.allOnes_xor]
@[go_sem] theorem W_cells : Value.cells (W a) = #[W a] := rfl
@[go_sem] theorem W_one : Value.oneCell' (W a) = true := rfl
@[go_sem] theorem W_store (ad : Addr) (m : Mode) : (store ad (W a) m).run P w = stored P w ad (W a) m := run_store P w ad _ m rfl
@[go_sem] theorem W_min : Builtin.min2 (W a) (W b) = pure (W (if b.toNat < a.toNat then b else a)) := by
  simp only [Builtin.min2, W]; congr 2
  by_cases h : b.toNat < a.toNat
  · rw [if_pos h, if_pos (by omega)]
  · rw [if_neg h, if_neg (by omega)]
end

/-! ### u8 -/
def Y (a : BitVec 8) : Value := .int .u8 (a.toNat : Int)
theorem Y_eq (a : BitVec 8) : Y a = .int .u8 (a.toNat : Int) := rfl
theorem Y_inj {a b : BitVec 8} (h : Y a = Y b) : a = b := by
  unfold Y at h; injection h with _ h; exact BitVec.eq_of_toNat_eq (by omega)
theorem Y_wrap (m : Int) : IntKind.u8.wrap m = ((BitVec.ofInt 8 m).toNat : Int) := by
  simp [IntKind.wrap, IntKind.bits, IntKind.signed, BitVec.toNat_ofInt] <;> omega
theorem Y_of (m : Int) (h0 : 0 ≤ m) (h1 : m < 2 ^ 8) : Value.int .u8 m = Y (BitVec.ofInt 8 m) := by
  unfold Y; congr 1; simp [BitVec.toNat_ofInt]; omega
theorem Y_nat (m : Nat) (h1 : m < 2 ^ 8) : Value.int .u8 (m : Int) = Y (BitVec.ofNat 8 m) := by
  unfold Y; congr 1; rw [BitVec.toNat_ofNat, Nat.mod_eq_of_lt h1]
theorem Y_ofInt (a : BitVec 8) : BitVec.ofInt 8 (a.toNat : Int) = a := by
  apply BitVec.eq_of_toNat_eq; have := a.isLt; simp [BitVec.toNat_ofInt] <;> omega
theorem Y_lt (a : BitVec 8) : (a.toNat : Int) < 2 ^ 8 := by have := a.isLt; omega
section
variable {P : Program} (w : World) (t : TypeId) (op : BinOp) (x y : Operand) (v : Value) (a b : BitVec 8)
@[go_sem] theorem Y_guard : eqGuard op t x y (Y a) v = pure () := by cases op <;> rfl
@[go_sem] theorem Y_add : binOp .add t (Y a) (Y b) = pure (Y (a + b)) := by
  simp only [Y, binOp_add, Op.intArith]; rw [Y_wrap, BitVec.ofInt_add, Y_ofInt, Y_ofInt]
@[go_sem] theorem Y_sub : binOp .sub t (Y a) (Y b) = pure (Y (a - b)) := by
  simp only [Y, binOp_sub, Op.intArith]; rw [Y_wrap, Int.sub_eq_add_neg, BitVec.ofInt_add, BitVec.ofInt_neg, Y_ofInt, Y_ofInt, BitVec.sub_eq_add_neg]
@[go_sem] theorem Y_mul : binOp .mul t (Y a) (Y b) = pure (Y (a * b)) := by
  simp only [Y, binOp_mul, Op.intArith]; rw [Y_wrap, BitVec.ofInt_mul, Y_ofInt, Y_ofInt]
theorem Y_bits (r : BitVec 8) : IntKind.u8.wrap (r.toNat : Int) = (r.toNat : Int) := by rw [Y_wrap, Y_ofInt]
@[go_sem] theorem Y_and : binOp .and t (Y a) (Y b) = pure (Y (a &&& b)) := by
  simp only [Y, binOp_and, Op.intBits, IntKind.bits]; rw [Y_ofInt, Y_ofInt, Y_bits]; rfl
@[go_sem] theorem Y_or : binOp .or t (Y a) (Y b) = pure (Y (a ||| b)) := by
  simp only [Y, binOp_or, Op.intBits, IntKind.bits]; rw [Y_ofInt, Y_ofInt, Y_bits]; rfl
@[go_sem] theorem Y_xor : binOp .xor t (Y a) (Y b) = pure (Y (a ^^^ b)) := by
  simp only [Y, binOp_xor, Op.intBits, IntKind.bits]; rw [Y_ofInt, Y_ofInt, Y_bits]; rfl
@[go_sem] theorem Y_andNot : binOp .andNot t (Y a) (Y b) = pure (Y (a &&& ~~~b)) := by
  simp only [Y, binOp_andNot, Op.intBits, IntKind.bits]; rw [Y_ofInt, Y_ofInt, Y_bits]; rfl
@[go_sem] theorem Y_quo (h : (b == 0#8) = false) : binOp .quo t (Y a) (Y b) = pure (Y (a / b)) := by
  have hb : b.toNat ≠ 0 := fun e => by have : b = 0#8 := BitVec.eq_of_toNat_eq (by simpa using e); simp [this] at h
  simp only [Y, binOp_quo, Op.intDiv]; rw [if_neg (by omega)]; rw [Y_wrap]; congr 3
  rw [BitVec.toNat_ofInt, Int.tdiv_eq_ediv_of_nonneg (by omega), BitVec.toNat_udiv, ← Int.natCast_ediv]
  have h1 := Nat.div_le_self a.toNat b.toNat
  have h2 := a.isLt
  generalize a.toNat / b.toNat = q at h1
  omega
@[go_sem] theorem Y_rem (h : (b == 0#8) = false) : binOp .rem t (Y a) (Y b) = pure (Y (a % b)) := by
  have hb : b.toNat ≠ 0 := fun e => by have : b = 0#8 := BitVec.eq_of_toNat_eq (by simpa using e); simp [this] at h
  simp only [Y, binOp_rem, Op.intDiv]; rw [if_neg (by omega), Int.tmod_eq_emod_of_nonneg (by omega), BitVec.toNat_umod, Int.natCast_emod]
@[go_sem] theorem Y_eql : binOp .eql t (Y a) (Y b) = pure (.bool (a == b)) := by
  simp only [Y, binOp_eql]; congr 2
  rw [Bool.eq_iff_iff]; simp only [beq_iff_eq]; rw [← BitVec.toNat_inj]; omega
@[go_sem] theorem Y_neq : binOp .neq t (Y a) (Y b) = pure (.bool (a != b)) := by
  simp only [Y, binOp_neq]; congr 2
  rw [Bool.eq_iff_iff]; simp only [bne_iff_ne, ne_eq]; rw [← BitVec.toNat_inj]; omega
@[go_sem] theorem Y_lss : binOp .lss t (Y a) (Y b) = pure (.bool (ltB a b)) := by
  simp only [Y, binOp_lss, ltB]; congr 2; exact decide_eq_decide.2 (by omega)
@[go_sem] theorem Y_leq : binOp .leq t (Y a) (Y b) = pure (.bool (leB a b)) := by
  simp only [Y, binOp_leq, leB]; congr 2; exact decide_eq_decide.2 (by omega)
@[go_sem] theorem Y_gtr : binOp .gtr t (Y a) (Y b) = pure (.bool (ltB b a)) := by
  simp only [Y, binOp_gtr, ltB]; congr 2; exact decide_eq_decide.2 (by omega)
@[go_sem] theorem Y_geq : binOp .geq t (Y a) (Y b) = pure (.bool (leB b a)) := by
  simp only [Y, binOp_geq, leB]; congr 2; exact decide_eq_decide.2 (by omega)
theorem Y_shl0 (yk : IntKind) (s : Nat) : Op.shift .shl .u8 (a.toNat : Int) yk (s : Int) = pure (Y (a <<< s)) := by
  rw [shift_shl_any _ _ _ _ (by omega), Y_wrap]; simp only [Int.toNat_natCast, IntKind.bits, Y]; congr 3
  rw [BitVec.toNat_ofInt, BitVec.toNat_shiftLeft, Nat.shiftLeft_eq]
  have e : ((a.toNat : Int) * 2 ^ min s 8) = ((a.toNat * 2 ^ min s 8 : Nat) : Int) := by simp
  rw [e]
  rcases Nat.lt_or_ge s 8 with h | h
  · rw [Nat.min_eq_left (by omega)]; omega
  · rw [Nat.min_eq_right h]
    have e2 : 2 ^ s = 2 ^ 8 * 2 ^ (s - 8) := by rw [← Nat.pow_add]; congr 1; omega
    rw [e2, Nat.mul_left_comm, Nat.mul_mod_right]
    omega
theorem Y_shr0 (yk : IntKind) (s : Nat) : Op.shift .shr .u8 (a.toNat : Int) yk (s : Int) = pure (Y (a >>> s)) := by
  rw [shift_shr_any _ _ _ _ (by omega)]; simp only [Int.toNat_natCast, IntKind.bits, Y]; congr 2
  rw [BitVec.toNat_ushiftRight, Nat.shiftRight_eq_div_pow]
  have e : ((a.toNat : Int) / 2 ^ min s 8) = ((a.toNat / 2 ^ min s 8 : Nat) : Int) := by simp
  rw [e]; congr 1
  rcases Nat.lt_or_ge s 8 with h | h
  · rw [Nat.min_eq_left (by omega)]
  · rw [Nat.min_eq_right h, Nat.div_eq_of_lt a.isLt]
    have : 2 ^ 8 ≤ 2 ^ s := Nat.pow_le_pow_right (by omega) h
    rw [Nat.div_eq_of_lt (by have := a.isLt; omega)]
@[go_sem] theorem Y_shl (yk : IntKind) (s : Int) (h : 0 ≤ s) : binOp .shl t (Y a) (.int yk s) = pure (Y (a <<< s.toNat)) := by
  obtain ⟨n, rfl⟩ := Int.eq_ofNat_of_zero_le h
  exact Y_shl0 a yk n
@[go_sem] theorem Y_shr (yk : IntKind) (s : Int) (h : 0 ≤ s) : binOp .shr t (Y a) (.int yk s) = pure (Y (a >>> s.toNat)) := by
  obtain ⟨n, rfl⟩ := Int.eq_ofNat_of_zero_le h
  exact Y_shr0 a yk n
@[go_sem] theorem Y_neg : Op.unary .neg (Y a) = pure (Y (-a)) := by
  simp only [Y, Op.unary, Op.intArith]; rw [Y_wrap, Int.sub_eq_add_neg, Int.zero_add, BitVec.ofInt_neg, Y_ofInt]
@[go_sem] theorem Y_compl : Op.unary .xor (Y a) = pure (Y (~~~a)) := by
  simp only [Y, Op.unary, Op.intBits, IntKind.bits, IntKind.signed]; rw [Y_ofInt, Y_bits]
  have e : BitVec.ofInt 8 (IntKind.max .u8) = BitVec.allOnes 8 := by decide
  simp only [Bool.false_eq_true, if_false]
  show pure (Value.int .u8 ((BitVec.ofInt 8 (IntKind.max .u8) ^^^ a).toNat : Int)) = _
  rw [e, BitVec.allOnes_xor]
@[go_sem] theorem Y_cells : Value.cells (Y a) = #[Y a] := rfl
@[go_sem] theorem Y_one : Value.oneCell' (Y a) = true := rfl
@[go_sem] theorem Y_store (ad : Addr) (m : Mode) : (store ad (Y a) m).run P w = stored P w ad (Y a) m := run_store P w ad _ m rfl
@[go_sem] theorem Y_min : Builtin.min2 (Y a) (Y b) = pure (Y (if b.toNat < a.toNat then b else a)) := by
  simp only [Builtin.min2, Y]; congr 2
  by_cases h : b.toNat < a.toNat
  · rw [if_pos h, if_pos (by omega)]
  · rw [if_neg h, if_neg (by omega)]
end

@[go_sem] theorem U_shlU (t : TypeId) (a : BitVec 64) (s : BitVec 64) : binOp .shl t (U a) (U s) = pure (U (a <<< s.toNat)) := U_shl0 a .u64 s.toNat
@[go_sem] theorem U_shrU (t : TypeId) (a : BitVec 64) (s : BitVec 64) : binOp .shr t (U a) (U s) = pure (U (a >>> s.toNat)) := U_shr0 a .u64 s.toNat
@[go_sem] theorem U_shlW (t : TypeId) (a : BitVec 64) (s : BitVec 32) : binOp .shl t (U a) (W s) = pure (U (a <<< s.toNat)) := U_shl0 a .u32 s.toNat
@[go_sem] theorem U_shrW (t : TypeId) (a : BitVec 64) (s : BitVec 32) : binOp .shr t (U a) (W s) = pure (U (a >>> s.toNat)) := U_shr0 a .u32 s.toNat
@[go_sem] theorem U_shlY (t : TypeId) (a : BitVec 64) (s : BitVec 8) : binOp .shl t (U a) (Y s) = pure (U (a <<< s.toNat)) := U_shl0 a .u8 s.toNat
@[go_sem] theorem U_shrY (t : TypeId) (a : BitVec 64) (s : BitVec 8) : binOp .shr t (U a) (Y s) = pure (U (a >>> s.toNat)) := U_shr0 a .u8 s.toNat
@[go_sem] theorem W_shlU (t : TypeId) (a : BitVec 32) (s : BitVec 64) : binOp .shl t (W a) (U s) = pure (W (a <<< s.toNat)) := W_shl0 a .u64 s.toNat
@[go_sem] theorem W_shrU (t : TypeId) (a : BitVec 32) (s : BitVec 64) : binOp .shr t (W a) (U s) = pure (W (a >>> s.toNat)) := W_shr0 a .u64 s.toNat
@[go_sem] theorem W_shlW (t : TypeId) (a : BitVec 32) (s : BitVec 32) : binOp .shl t (W a) (W s) = pure (W (a <<< s.toNat)) := W_shl0 a .u32 s.toNat
@[go_sem] theorem W_shrW (t : TypeId) (a : BitVec 32) (s : BitVec 32) : binOp .shr t (W a) (W s) = pure (W (a >>> s.toNat)) := W_shr0 a .u32 s.toNat
@[go_sem] theorem W_shlY (t : TypeId) (a : BitVec 32) (s : BitVec 8) : binOp .shl t (W a) (Y s) = pure (W (a <<< s.toNat)) := W_shl0 a .u8 s.toNat
@[go_sem] theorem W_shrY (t : TypeId) (a : BitVec 32) (s : BitVec 8) : binOp .shr t (W a) (Y s) = pure (W (a >>> s.toNat)) := W_shr0 a .u8 s.toNat
@[go_sem] theorem Y_shlU (t : TypeId) (a : BitVec 8) (s : BitVec 64) : binOp .shl t (Y a) (U s) = pure (Y (a <<< s.toNat)) := Y_shl0 a .u64 s.toNat
@[go_sem] theorem Y_shrU (t : TypeId) (a : BitVec 8) (s : BitVec 64) : binOp .shr t (Y a) (U s) = pure (Y (a >>> s.toNat)) := Y_shr0 a .u64 s.toNat
@[go_sem] theorem Y_shlW (t : TypeId) (a : BitVec 8) (s : BitVec 32) : binOp .shl t (Y a) (W s) = pure (Y (a <<< s.toNat)) := Y_shl0 a .u32 s.toNat
@[go_sem] theorem Y_shrW (t : TypeId) (a : BitVec 8) (s : BitVec 32) : binOp .shr t (Y a) (W s) = pure (Y (a >>> s.toNat)) := Y_shr0 a .u32 s.toNat
@[go_sem] theorem Y_shlY (t : TypeId) (a : BitVec 8) (s : BitVec 8) : binOp .shl t (Y a) (Y s) = pure (Y (a <<< s.toNat)) := Y_shl0 a .u8 s.toNat
@[go_sem] theorem Y_shrY (t : TypeId) (a : BitVec 8) (s : BitVec 8) : binOp .shr t (Y a) (Y s) = pure (Y (a >>> s.toNat)) := Y_shr0 a .u8 s.toNat
@[go_sem] theorem I_shlU (t : TypeId) (n : Int) (s : BitVec 64) : binOp .shl t (.int .i64 n) (U s) = pure (.int .i64 (IntKind.i64.wrap (n * 2 ^ min s.toNat 64))) := by
  show Op.shift .shl .i64 n .u64 (s.toNat : Int) = _
  rw [shift_shl_any _ _ _ _ (by omega)]; rfl
@[go_sem] theorem I_shrU (t : TypeId) (n : Int) (s : BitVec 64) : binOp .shr t (.int .i64 n) (U s) = pure (.int .i64 (n / 2 ^ min s.toNat 64)) := by
  show Op.shift .shr .i64 n .u64 (s.toNat : Int) = _
  rw [shift_shr_any _ _ _ _ (by omega)]; rfl
@[go_sem] theorem I_shlW (t : TypeId) (n : Int) (s : BitVec 32) : binOp .shl t (.int .i64 n) (W s) = pure (.int .i64 (IntKind.i64.wrap (n * 2 ^ min s.toNat 64))) := by
  show Op.shift .shl .i64 n .u32 (s.toNat : Int) = _
  rw [shift_shl_any _ _ _ _ (by omega)]; rfl
@[go_sem] theorem I_shrW (t : TypeId) (n : Int) (s : BitVec 32) : binOp .shr t (.int .i64 n) (W s) = pure (.int .i64 (n / 2 ^ min s.toNat 64)) := by
  show Op.shift .shr .i64 n .u32 (s.toNat : Int) = _
  rw [shift_shr_any _ _ _ _ (by omega)]; rfl
@[go_sem] theorem I_shlY (t : TypeId) (n : Int) (s : BitVec 8) : binOp .shl t (.int .i64 n) (Y s) = pure (.int .i64 (IntKind.i64.wrap (n * 2 ^ min s.toNat 64))) := by
  show Op.shift .shl .i64 n .u8 (s.toNat : Int) = _
  rw [shift_shl_any _ _ _ _ (by omega)]; rfl
@[go_sem] theorem I_shrY (t : TypeId) (n : Int) (s : BitVec 8) : binOp .shr t (.int .i64 n) (Y s) = pure (.int .i64 (n / 2 ^ min s.toNat 64)) := by
  show Op.shift .shr .i64 n .u8 (s.toNat : Int) = _
  rw [shift_shr_any _ _ _ _ (by omega)]; rfl

/-! ### conversions -/
/-- A word's number with its sign: kept shut. -/
def si (a : BitVec 64) : Int := a.toInt
theorem si_range (a : BitVec 64) : -9223372036854775808 ≤ si a ∧ si a ≤ 9223372036854775807 := by
  unfold si
  have h1 := BitVec.le_toInt a
  have h2 := BitVec.toInt_lt (x := a)
  omega
theorem si_of (a : BitVec 64) : BitVec.ofInt 64 (si a) = a := by unfold si; exact BitVec.ofInt_toInt
@[go_sem] theorem si_U (a : BitVec 64) : U (BitVec.ofInt 64 (si a)) = U a := by rw [si_of]
theorem IntWalk.wrap_small {n : Int} (h0 : -9223372036854775808 ≤ n) (h1 : n ≤ 9223372036854775807) : IntKind.i64.wrap n = n := by rw [IntKind.wrap_i64]; omega
theorem wrap_i64_toNat (a : BitVec 64) : IntKind.i64.wrap (a.toNat : Int) = si a := by
  unfold si; rw [IntKind.wrap_i64, BitVec.toInt_eq_toNat_bmod, Int.bmod_def]
  have := a.isLt
  split <;> omega

@[go_sem] theorem conv_UU {P : Program} (w : World) (src dst : TypeId) (a : BitVec 64) (hs : (P.underlying src).isSome = true) (hd : P.underlying dst = some (.int .u64)) :
    (convert src dst (U a)).run P w = .ok (U a) w := by
  have hd' : P.underlying dst = some (.int (P.intKind dst)) := by simp [Program.intKind, hd]
  have hk : P.intKind dst = .u64 := by simp [Program.intKind, hd]
  unfold U
  rw [run_convert_int w src dst _ _ hs hd', hk, U_wrap]
  try unfold U
  have e : (BitVec.ofInt 64 (a.toNat : Int)).toNat = a.toNat := by have := a.isLt; simp [BitVec.toNat_ofInt] <;> omega
  rw [e]
@[go_sem] theorem conv_UW {P : Program} (w : World) (src dst : TypeId) (a : BitVec 64) (hs : (P.underlying src).isSome = true) (hd : P.underlying dst = some (.int .u32)) :
    (convert src dst (U a)).run P w = .ok (W (a.setWidth 32)) w := by
  have hd' : P.underlying dst = some (.int (P.intKind dst)) := by simp [Program.intKind, hd]
  have hk : P.intKind dst = .u32 := by simp [Program.intKind, hd]
  unfold U
  rw [run_convert_int w src dst _ _ hs hd', hk, W_wrap]
  try unfold W
  have e : (BitVec.ofInt 32 (a.toNat : Int)).toNat = (a.setWidth 32).toNat := by have := a.isLt; simp [BitVec.toNat_ofInt] <;> omega
  rw [e]
@[go_sem] theorem conv_UY {P : Program} (w : World) (src dst : TypeId) (a : BitVec 64) (hs : (P.underlying src).isSome = true) (hd : P.underlying dst = some (.int .u8)) :
    (convert src dst (U a)).run P w = .ok (Y (a.setWidth 8)) w := by
  have hd' : P.underlying dst = some (.int (P.intKind dst)) := by simp [Program.intKind, hd]
  have hk : P.intKind dst = .u8 := by simp [Program.intKind, hd]
  unfold U
  rw [run_convert_int w src dst _ _ hs hd', hk, Y_wrap]
  try unfold Y
  have e : (BitVec.ofInt 8 (a.toNat : Int)).toNat = (a.setWidth 8).toNat := by have := a.isLt; simp [BitVec.toNat_ofInt] <;> omega
  rw [e]
@[go_sem] theorem conv_UI {P : Program} (w : World) (src dst : TypeId) (a : BitVec 64) (hs : (P.underlying src).isSome = true) (hd : P.underlying dst = some (.int .i64)) :
    (convert src dst (U a)).run P w = .ok (.int .i64 (si a)) w := by
  have hd' : P.underlying dst = some (.int (P.intKind dst)) := by simp [Program.intKind, hd]
  have hk : P.intKind dst = .i64 := by simp [Program.intKind, hd]
  unfold U
  rw [run_convert_int w src dst _ _ hs hd', hk]
  rw [wrap_i64_toNat]
theorem conv_IU {P : Program} (w : World) (src dst : TypeId) (n : Int) (hs : (P.underlying src).isSome = true) (hd : P.underlying dst = some (.int .u64)) :
    (convert src dst (.int .i64 n)).run P w = .ok (U (BitVec.ofInt 64 n)) w := by
  have hd' : P.underlying dst = some (.int (P.intKind dst)) := by simp [Program.intKind, hd]
  have hk : P.intKind dst = .u64 := by simp [Program.intKind, hd]
  rw [run_convert_int w src dst _ _ hs hd', hk, U_wrap]
  rfl
@[go_sem] theorem conv_WU {P : Program} (w : World) (src dst : TypeId) (a : BitVec 32) (hs : (P.underlying src).isSome = true) (hd : P.underlying dst = some (.int .u64)) :
    (convert src dst (W a)).run P w = .ok (U (a.setWidth 64)) w := by
  have hd' : P.underlying dst = some (.int (P.intKind dst)) := by simp [Program.intKind, hd]
  have hk : P.intKind dst = .u64 := by simp [Program.intKind, hd]
  unfold W
  rw [run_convert_int w src dst _ _ hs hd', hk, U_wrap]
  try unfold U
  have e : (BitVec.ofInt 64 (a.toNat : Int)).toNat = (a.setWidth 64).toNat := by have := a.isLt; simp [BitVec.toNat_ofInt] <;> omega
  rw [e]
@[go_sem] theorem conv_WW {P : Program} (w : World) (src dst : TypeId) (a : BitVec 32) (hs : (P.underlying src).isSome = true) (hd : P.underlying dst = some (.int .u32)) :
    (convert src dst (W a)).run P w = .ok (W a) w := by
  have hd' : P.underlying dst = some (.int (P.intKind dst)) := by simp [Program.intKind, hd]
  have hk : P.intKind dst = .u32 := by simp [Program.intKind, hd]
  unfold W
  rw [run_convert_int w src dst _ _ hs hd', hk, W_wrap]
  try unfold W
  have e : (BitVec.ofInt 32 (a.toNat : Int)).toNat = a.toNat := by have := a.isLt; simp [BitVec.toNat_ofInt] <;> omega
  rw [e]
@[go_sem] theorem conv_WY {P : Program} (w : World) (src dst : TypeId) (a : BitVec 32) (hs : (P.underlying src).isSome = true) (hd : P.underlying dst = some (.int .u8)) :
    (convert src dst (W a)).run P w = .ok (Y (a.setWidth 8)) w := by
  have hd' : P.underlying dst = some (.int (P.intKind dst)) := by simp [Program.intKind, hd]
  have hk : P.intKind dst = .u8 := by simp [Program.intKind, hd]
  unfold W
  rw [run_convert_int w src dst _ _ hs hd', hk, Y_wrap]
  try unfold Y
  have e : (BitVec.ofInt 8 (a.toNat : Int)).toNat = (a.setWidth 8).toNat := by have := a.isLt; simp [BitVec.toNat_ofInt] <;> omega
  rw [e]
@[go_sem] theorem conv_WI {P : Program} (w : World) (src dst : TypeId) (a : BitVec 32) (hs : (P.underlying src).isSome = true) (hd : P.underlying dst = some (.int .i64)) :
    (convert src dst (W a)).run P w = .ok (.int .i64 (a.toNat : Int)) w := by
  have hd' : P.underlying dst = some (.int (P.intKind dst)) := by simp [Program.intKind, hd]
  have hk : P.intKind dst = .i64 := by simp [Program.intKind, hd]
  unfold W
  rw [run_convert_int w src dst _ _ hs hd', hk]
  rw [IntWalk.wrap_small (by have := a.isLt; omega) (by have := a.isLt; omega)]
theorem conv_IW {P : Program} (w : World) (src dst : TypeId) (n : Int) (hs : (P.underlying src).isSome = true) (hd : P.underlying dst = some (.int .u32)) :
    (convert src dst (.int .i64 n)).run P w = .ok (W (BitVec.ofInt 32 n)) w := by
  have hd' : P.underlying dst = some (.int (P.intKind dst)) := by simp [Program.intKind, hd]
  have hk : P.intKind dst = .u32 := by simp [Program.intKind, hd]
  rw [run_convert_int w src dst _ _ hs hd', hk, W_wrap]
  rfl
@[go_sem] theorem conv_YU {P : Program} (w : World) (src dst : TypeId) (a : BitVec 8) (hs : (P.underlying src).isSome = true) (hd : P.underlying dst = some (.int .u64)) :
    (convert src dst (Y a)).run P w = .ok (U (a.setWidth 64)) w := by
  have hd' : P.underlying dst = some (.int (P.intKind dst)) := by simp [Program.intKind, hd]
  have hk : P.intKind dst = .u64 := by simp [Program.intKind, hd]
  unfold Y
  rw [run_convert_int w src dst _ _ hs hd', hk, U_wrap]
  try unfold U
  have e : (BitVec.ofInt 64 (a.toNat : Int)).toNat = (a.setWidth 64).toNat := by have := a.isLt; simp [BitVec.toNat_ofInt] <;> omega
  rw [e]
@[go_sem] theorem conv_YW {P : Program} (w : World) (src dst : TypeId) (a : BitVec 8) (hs : (P.underlying src).isSome = true) (hd : P.underlying dst = some (.int .u32)) :
    (convert src dst (Y a)).run P w = .ok (W (a.setWidth 32)) w := by
  have hd' : P.underlying dst = some (.int (P.intKind dst)) := by simp [Program.intKind, hd]
  have hk : P.intKind dst = .u32 := by simp [Program.intKind, hd]
  unfold Y
  rw [run_convert_int w src dst _ _ hs hd', hk, W_wrap]
  try unfold W
  have e : (BitVec.ofInt 32 (a.toNat : Int)).toNat = (a.setWidth 32).toNat := by have := a.isLt; simp [BitVec.toNat_ofInt] <;> omega
  rw [e]
@[go_sem] theorem conv_YY {P : Program} (w : World) (src dst : TypeId) (a : BitVec 8) (hs : (P.underlying src).isSome = true) (hd : P.underlying dst = some (.int .u8)) :
    (convert src dst (Y a)).run P w = .ok (Y a) w := by
  have hd' : P.underlying dst = some (.int (P.intKind dst)) := by simp [Program.intKind, hd]
  have hk : P.intKind dst = .u8 := by simp [Program.intKind, hd]
  unfold Y
  rw [run_convert_int w src dst _ _ hs hd', hk, Y_wrap]
  try unfold Y
  have e : (BitVec.ofInt 8 (a.toNat : Int)).toNat = a.toNat := by have := a.isLt; simp [BitVec.toNat_ofInt] <;> omega
  rw [e]
@[go_sem] theorem conv_YI {P : Program} (w : World) (src dst : TypeId) (a : BitVec 8) (hs : (P.underlying src).isSome = true) (hd : P.underlying dst = some (.int .i64)) :
    (convert src dst (Y a)).run P w = .ok (.int .i64 (a.toNat : Int)) w := by
  have hd' : P.underlying dst = some (.int (P.intKind dst)) := by simp [Program.intKind, hd]
  have hk : P.intKind dst = .i64 := by simp [Program.intKind, hd]
  unfold Y
  rw [run_convert_int w src dst _ _ hs hd', hk]
  rw [IntWalk.wrap_small (by have := a.isLt; omega) (by have := a.isLt; omega)]
theorem conv_IY {P : Program} (w : World) (src dst : TypeId) (n : Int) (hs : (P.underlying src).isSome = true) (hd : P.underlying dst = some (.int .u8)) :
    (convert src dst (.int .i64 n)).run P w = .ok (Y (BitVec.ofInt 8 n)) w := by
  have hd' : P.underlying dst = some (.int (P.intKind dst)) := by simp [Program.intKind, hd]
  have hk : P.intKind dst = .u8 := by simp [Program.intKind, hd]
  rw [run_convert_int w src dst _ _ hs hd', hk, Y_wrap]
  rfl

@[go_sem] theorem wrap_U (m : Int) : Value.int .u64 (IntKind.u64.wrap m) = U (BitVec.ofInt 64 m) := by rw [U_wrap]; rfl
@[go_sem] theorem wrap_W (m : Int) : Value.int .u32 (IntKind.u32.wrap m) = W (BitVec.ofInt 32 m) := by rw [W_wrap]; rfl
@[go_sem] theorem wrap_Y (m : Int) : Value.int .u8 (IntKind.u8.wrap m) = Y (BitVec.ofInt 8 m) := by rw [Y_wrap]; rfl
@[go_sem] theorem lit_U (m : Int) (h0 : 0 ≤ m) (h1 : m < 18446744073709551616) : Value.int .u64 m = U (BitVec.ofInt 64 m) := U_of m h0 h1
@[go_sem] theorem lit_W (m : Int) (h0 : 0 ≤ m) (h1 : m < 4294967296) : Value.int .u32 m = W (BitVec.ofInt 32 m) := W_of m h0 h1
@[go_sem] theorem lit_Y (m : Int) (h0 : 0 ≤ m) (h1 : m < 256) : Value.int .u8 m = Y (BitVec.ofInt 8 m) := Y_of m h0 h1
end Go.Proofs.Ytmeebniadgngpaa
