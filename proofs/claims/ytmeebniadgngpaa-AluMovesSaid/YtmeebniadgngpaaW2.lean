/- Words, the second part: products, quotients and rests, as the program and as the reference of chapter 1 reckon them. No conditions but those that each names. -/
import Derived.Test.YtmeebniadgngpaaW1
namespace Go.Proofs.Ytmeebniadgngpaa
open Go.RowKit
set_option linter.unusedVariables false
set_option linter.unusedSimpArgs false

theorem retU {x y : BitVec 64} (h : x = y) : Ending.returned (U x) = Ending.returned (U y) := by rw [h]

/-! ### bits of the program -/
def bfx (a : BitVec 64) (f m : Nat) : BitVec 64 := (a <<< (64 - f - m)) >>> (64 - m)
theorem Bits_any (a : BitVec 64) (f m : Int) (h0 : 0 ≤ f) (h1 : f ≤ 63) (h2 : 1 ≤ m) (h3 : m ≤ 64 - f) (w : World) :
    Calls Try.prog 39 #[U a, .int .i64 f, .int .i64 m] w fun e w' => e = .returned (U (bfx a f.toNat m.toNat)) ∧ w = w' := by
  have hs : (64 - f - m).toNat = 64 - f.toNat - m.toNat := by omega
  have hs2 : (64 - m).toNat = 64 - m.toNat := by omega
  have hs' := Hd.mk hs
  have hs2' := Hd.mk hs2
  clear hs hs2
  have g2 : m ≤ 64 := by omega
  go_enter Try.func39, Try.ntmps39
  go_wp2
  go_ret
  exact ⟨retU (x := (a <<< (64 - f - m).toNat) >>> (64 - m).toNat) (by rw [hs'.out, hs2'.out]; rfl), rfl⟩

/-! ### signs -/
def neg (a : BitVec 64) : Bool := decide (9223372036854775808 ≤ a.toNat)
theorem si_neg (a : BitVec 64) : decide (si a < 0) = neg a := by
  unfold si neg
  rw [decide_eq_decide, BitVec.toInt_eq_toNat_bmod, Int.bmod_def]
  have := a.isLt
  split <;> omega
def sz (a : BitVec 64) : BitVec 64 := if neg a then -a else a

theorem size_any (a : BitVec 64) (w : World) : Calls Try.prog 72 #[U a] w fun e w' => e = .returned (U (sz a)) ∧ w = w' := by
  have H := si_neg a
  unfold sz
  cases hn : neg a <;> rw [hn] at H
  · have H' : ¬ si a < 0 := by simpa using H
    clear H
    go_enter Try.func72, Try.ntmps72
    go_wp2
    go_ret
    exact ⟨by simp, rfl⟩
  · have H' : si a < 0 := by simpa using H
    clear H
    go_enter Try.func72, Try.ntmps72
    go_wp2
    go_ret
    exact ⟨by simp, rfl⟩

theorem sz_zero (b : BitVec 64) (h : (b == 0#64) = false) : (sz b == 0#64) = false := by
  unfold sz
  split
  · have hb : b ≠ 0#64 := by simpa using h
    simp only [beq_eq_false_iff_ne, ne_eq]
    intro e
    apply hb
    have := congrArg (fun x => -x) e
    simpa using this
  · exact h

def quoF (a b : BitVec 64) (s : Bool) : BitVec 64 :=
  if b == 0#64 then 18446744073709551615#64 else if !s then a / b else if neg a != neg b then -(sz a / sz b) else sz a / sz b
def resF (a b : BitVec 64) (s : Bool) : BitVec 64 :=
  if b == 0#64 then a else if !s then a % b else if neg a then -(sz a % sz b) else sz a % sz b

theorem si_neg_t {a : BitVec 64} (h : neg a = true) : si a < 0 := by have := si_neg a; rw [h] at this; simpa using this
theorem si_neg_f {a : BitVec 64} (h : neg a = false) : ¬ si a < 0 := by have := si_neg a; rw [h] at this; simpa using this

theorem Quotient_any (a b : BitVec 64) (s : Bool) (w : World) :
    Calls Try.prog 63 #[U a, U b, .bool s] w fun e w' => e = .returned (U (quoF a b s)) ∧ w = w' := by
  cases hb : (b == 0#64)
  · have hsz := sz_zero b hb
    have q1 := U_quo (t := 22) a b hb
    have q2 := U_quo (t := 22) (sz a) (sz b) hsz
    cases s
    · go_enter Try.func63, Try.ntmps63
      go_wp2
      go_ret
      exact ⟨retU (by unfold quoF; simp [hb]), rfl⟩
    · cases na : neg a <;> cases nb : neg b
      all_goals
        have ha := (si_neg a).trans na
        have hc := (si_neg b).trans nb
        have na' := Hd.mk na
        have nb' := Hd.mk nb
        clear na nb
        go_enter Try.func63, Try.ntmps63
        go_wp2_with (go_at_call 72; refine (size_any _ _).mono ?_; rintro e w' ⟨rfl, rfl⟩)
        go_ret
        exact ⟨retU (by unfold quoF; simp [hb, na'.out, nb'.out]), rfl⟩
  · go_enter Try.func63, Try.ntmps63
    go_wp2
    go_ret
    exact ⟨(retU (x := 18446744073709551615#64) (by unfold quoF; simp [hb])), rfl⟩

theorem Rest_any (a b : BitVec 64) (s : Bool) (w : World) :
    Calls Try.prog 66 #[U a, U b, .bool s] w fun e w' => e = .returned (U (resF a b s)) ∧ w = w' := by
  cases hb : (b == 0#64)
  · have hsz := sz_zero b hb
    have q1 := U_rem (t := 22) a b hb
    have q2 := U_rem (t := 22) (sz a) (sz b) hsz
    cases s
    · go_enter Try.func66, Try.ntmps66
      go_wp2
      go_ret
      exact ⟨retU (by unfold resF; simp [hb]), rfl⟩
    · cases na : neg a
      all_goals
        have ha := (si_neg a).trans na
        have na' := Hd.mk na
        clear na
        go_enter Try.func66, Try.ntmps66
        go_wp2_with (go_at_call 72; refine (size_any _ _).mono ?_; rintro e w' ⟨rfl, rfl⟩)
        go_ret
        exact ⟨retU (by unfold resF; simp [hb, na'.out]), rfl⟩
  · go_enter Try.func66, Try.ntmps66
    go_wp2
    go_ret
    exact ⟨retU (by unfold resF; simp [hb]), rfl⟩

/-! ### the product's upper half -/
def mulhi (a b : BitVec 64) : BitVec 64 := BitVec.ofNat 64 (a.toNat * b.toNat / 18446744073709551616)
def val (s : Bool) (a : BitVec 64) : Int := if s && neg a then (a.toNat : Int) - 18446744073709551616 else a.toNat
/-- The upper half of the product of two numbers, each with its sign or without. -/
def highF (a b : BitVec 64) (s t : Bool) : BitVec 64 := BitVec.ofInt 64 (val s a * val t b / 18446744073709551616)

theorem mul64_eq (a b : Nat) (ha : a < 2 ^ 64) (hb : b < 2 ^ 64) :
    a / 2 ^ 32 * (b / 2 ^ 32) + ((a / 2 ^ 32 * (b % 2 ^ 32) + a % 2 ^ 32 * (b % 2 ^ 32) / 2 ^ 32) / 2 ^ 32) +
      ((a / 2 ^ 32 * (b % 2 ^ 32) + a % 2 ^ 32 * (b % 2 ^ 32) / 2 ^ 32) % 2 ^ 32 + a % 2 ^ 32 * (b / 2 ^ 32)) / 2 ^ 32 = a * b / 2 ^ 64 := by
  have e1 : a = 2 ^ 32 * (a / 2 ^ 32) + a % 2 ^ 32 := (Nat.div_add_mod a (2 ^ 32)).symm
  have e2 : b = 2 ^ 32 * (b / 2 ^ 32) + b % 2 ^ 32 := (Nat.div_add_mod b (2 ^ 32)).symm
  generalize a / 2 ^ 32 = ah at *
  generalize a % 2 ^ 32 = al at *
  generalize b / 2 ^ 32 = bh at *
  generalize b % 2 ^ 32 = bl at *
  subst e1; subst e2
  have e3 : (2 ^ 32 * ah + al) * (2 ^ 32 * bh + bl) = 2 ^ 64 * (ah * bh) + 2 ^ 32 * (ah * bl) + 2 ^ 32 * (al * bh) + al * bl := by
    simp only [Nat.add_mul, Nat.mul_add, ← Nat.mul_assoc]
    have x1 : 2 ^ 32 * ah * 2 ^ 32 * bh = 2 ^ 64 * ah * bh := by rw [Nat.mul_right_comm (2 ^ 32) ah]
    have x2 : al * 2 ^ 32 * bh = 2 ^ 32 * al * bh := by rw [Nat.mul_comm al]
    omega
  rw [e3]
  generalize ah * bh = p
  generalize ah * bl = q
  generalize al * bh = r
  generalize al * bl = s
  omega
end Go.Proofs.Ytmeebniadgngpaa
