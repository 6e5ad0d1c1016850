/- Words, the sixth part: the reference of chapter 6, its small functions. No conditions but those that each names. -/
import Derived.Test.YtmeebniadgngpaaW5
namespace Go.Proofs.Ytmeebniadgngpaa
open Go.RowKit
set_option linter.unusedVariables false
set_option linter.unusedSimpArgs false

theorem one_any (b : Bool) (w : World) : Calls Try.prog 28 #[.bool b] w fun e w' => e = .returned (U (if b then 1#64 else 0#64)) ∧ w = w' := by
  cases b
  all_goals
    go_enter Try.func28, Try.ntmps28
    go_wp2
    go_ret
    exact ⟨rfl, rfl⟩

theorem msb_bit (j : Nat) (hj : j < 64) : (9223372036854775808#64 : BitVec 64).getLsbD j = decide (j = 63) := by
  have : (9223372036854775808#64 : BitVec 64) = BitVec.twoPow 64 63 := by decide
  rw [this, BitVec.getLsbD_twoPow]; simp; omega
theorem msb_xor (x : BitVec 64) : x ^^^ 9223372036854775808#64 = x + 9223372036854775808#64 := by
  have key : ∀ y : BitVec 64, y.getLsbD 63 = false → y + 9223372036854775808#64 = y ^^^ 9223372036854775808#64 := by
    intro y hy
    have h0 : y &&& 9223372036854775808#64 = 0#64 := by
      apply BitVec.eq_of_getLsbD_eq
      intro j hj
      rw [BitVec.getLsbD_and, msb_bit j hj]
      by_cases h : j = 63
      · subst h; rw [hy]; rfl
      · simp [h]
    rw [BitVec.add_eq_or_of_and_eq_zero _ _ h0]
    apply BitVec.eq_of_getLsbD_eq
    intro j hj
    rw [BitVec.getLsbD_or, BitVec.getLsbD_xor, msb_bit j hj]
    by_cases h : j = 63
    · subst h; rw [hy]; rfl
    · simp [h]
  cases hx : x.getLsbD 63
  · exact (key x hx).symm
  · have hy : (x ^^^ 9223372036854775808#64).getLsbD 63 = false := by rw [BitVec.getLsbD_xor, msb_bit 63 (by omega), hx]; rfl
    have := key _ hy
    rw [BitVec.xor_assoc, BitVec.xor_self, BitVec.xor_zero] at this
    have h2 : (9223372036854775808#64 : BitVec 64) + 9223372036854775808#64 = 0#64 := by decide
    have h3 := congrArg (· + 9223372036854775808#64) this
    simp only [BitVec.add_assoc, h2, BitVec.add_zero] at h3
    exact h3
def below (a b : BitVec 64) : Bool := decide (si a < si b)
theorem below_eq (a b : BitVec 64) : ltB (a ^^^ 9223372036854775808#64) (b ^^^ 9223372036854775808#64) = below a b := by
  have key : ∀ x : BitVec 64, ((x ^^^ 9223372036854775808#64).toNat : Int) = si x + 9223372036854775808 := by
    intro x
    have hx := x.isLt
    have e : x ^^^ 9223372036854775808#64 = x + 9223372036854775808#64 := msb_xor x
    have o : (9223372036854775808#64).toNat = 9223372036854775808 := by decide
    rw [e, BitVec.toNat_add, o]
    unfold si
    rw [BitVec.toInt_eq_toNat_bmod, Int.bmod_def]
    split <;> omega
  unfold ltB below
  rw [decide_eq_decide]
  have h1 := key a
  have h2 := key b
  omega

theorem below_any (a b : BitVec 64) (w : World) : Calls Try.prog 29 #[U a, U b] w fun e w' => e = .returned (.bool (below a b)) ∧ w = w' := by
  have h := Hd.mk (below_eq a b)
  go_enter Try.func29, Try.ntmps29
  go_wp2
  go_ret
  exact ⟨by rw [← h.out]; rfl, rfl⟩

theorem up_any (a n : BitVec 64) (w : World) : Calls Try.prog 27 #[U a, U n] w fun e w' => e = .returned (U (a <<< n.toNat)) ∧ w = w' := by
  go_enter Try.func27, Try.ntmps27
  go_wp2
  go_simp
  go_loopg [0, 5] (n.toNat + 1) (fun gk va vi wr => w = wr ∧ ∃ c : BitVec 64, c.toNat + gk = n.toNat + 1 ∧ 0 < gk ∧ vi = U c ∧ va = U (a <<< c.toNat))
  case atStart => exact ⟨rfl, 0#64, by simp, by omega, rfl, by simp⟩
  case round =>
    obtain ⟨rfl, c, hc, hg, rfl, rfl⟩ := hrel
    have hn := n.isLt
    cases gk with
    | zero => omega
    | succ k =>
      cases hlt : ltB c n
      · have hlt' := Hd.mk hlt
        have hc' := Hd.mk hc
        clear hc
        go_wp2
        go_ret
        have e : c.toNat = n.toNat := by have h1 := hlt'.out; have h2 := hc'.out; unfold ltB at h1; simp at h1; omega
        exact ⟨retU (by rw [e]), rfl⟩
      · have h1 : c.toNat < n.toNat := by unfold ltB at hlt; simpa using hlt
        have e1 : (c + 1#64).toNat = c.toNat + 1 := by rw [BitVec.toNat_add]; simp; omega
        have e2 : a <<< c.toNat * 2#64 = a <<< (c.toNat + 1) := by
          rw [BitVec.shiftLeft_add]
          apply BitVec.eq_of_toNat_eq
          rw [BitVec.toNat_mul, BitVec.toNat_shiftLeft (n := 1), Nat.shiftLeft_eq]
          rfl
        have e1' := Hd.mk e1
        have e2' := Hd.mk e2
        have hc' := Hd.mk hc
        have h1' := Hd.mk h1
        clear e1 e2 hc h1
        go_wp2
        go_roundg k
        case rel => exact ⟨rfl, c + 1#64, by rw [e1'.out]; have := hc'.out; omega, by have := hc'.out; have := h1'.out; omega, rfl, by rw [e1'.out, ← e2'.out]⟩
        case measure => omega

theorem down_gen (a n c : BitVec 64) (f : Nat → BitVec 64) (h0 : f 0 = a) (hs : ∀ k, f k / 2#64 + c * 9223372036854775808#64 = f (k + 1)) (w : World) :
    Calls Try.prog 31 #[U a, U n, U c] w fun e w' => e = .returned (U (f n.toNat)) ∧ w = w' := by
  subst h0
  have hs' := Hd.mk hs
  clear hs
  go_enter Try.func31, Try.ntmps31
  go_wp2
  go_simp
  go_loopg [0, 7] (n.toNat + 1) (fun gk va vi wr => w = wr ∧ ∃ i : BitVec 64, i.toNat + gk = n.toNat + 1 ∧ 0 < gk ∧ vi = U i ∧ va = U (f i.toNat))
  case atStart => exact ⟨rfl, 0#64, by simp, by omega, rfl, by simp⟩
  case round =>
    obtain ⟨rfl, i, hc, hg, rfl, rfl⟩ := hrel
    have hn := n.isLt
    cases gk with
    | zero => omega
    | succ k =>
      cases hlt : ltB i n
      · have hlt' := Hd.mk hlt
        have hc' := Hd.mk hc
        clear hc
        go_wp2
        go_ret
        have e : i.toNat = n.toNat := by have h1 := hlt'.out; have h2 := hc'.out; unfold ltB at h1; simp at h1; omega
        exact ⟨retU (by rw [e]), rfl⟩
      · have h1 : i.toNat < n.toNat := by unfold ltB at hlt; simpa using hlt
        have e1 : (i + 1#64).toNat = i.toNat + 1 := by rw [BitVec.toNat_add]; simp; omega
        have e2 := hs'.out i.toNat
        have e1' := Hd.mk e1
        have e2' := Hd.mk e2
        have hc' := Hd.mk hc
        have h1' := Hd.mk h1
        clear e1 e2 hc h1
        go_wp2
        go_roundg k
        case rel => exact ⟨rfl, i + 1#64, by rw [e1'.out]; have := hc'.out; omega, by have := hc'.out; have := h1'.out; omega, rfl, by rw [e1'.out, ← e2'.out]⟩
        case measure => omega
theorem div2 (x : BitVec 64) : x / 2#64 = x >>> 1 := by
  apply BitVec.eq_of_toNat_eq
  rw [BitVec.toNat_udiv, BitVec.toNat_ushiftRight, Nat.shiftRight_eq_div_pow]; rfl
theorem down0_any (a n : BitVec 64) (w : World) :
    Calls Try.prog 31 #[U a, U n, U 0#64] w fun e w' => e = .returned (U (a >>> n.toNat)) ∧ w = w' :=
  down_gen a n 0#64 (fun k => a >>> k) (by simp) (fun k => by simp only [div2, BitVec.zero_mul, BitVec.add_zero]; rw [BitVec.shiftRight_add]) w
theorem down1_any (a n : BitVec 64) (w : World) :
    Calls Try.prog 31 #[U a, U n, U (a >>> 63)] w fun e w' => e = .returned (U (a.sshiftRight n.toNat)) ∧ w = w' :=
  down_gen a n (a >>> 63) (fun k => a.sshiftRight k) (by simp) (fun k => by
    simp only [div2]
    have e : a >>> 63 = if a.msb then 1#64 else 0#64 := by
      have h := bit1 a 63
      rw [BitVec.msb_eq_getLsbD_last]
      rw [← h]
      apply BitVec.eq_of_getLsbD_eq
      intro j hj
      rw [BitVec.getLsbD_and, BitVec.getLsbD_ushiftRight, BitVec.getLsbD_one]
      by_cases hz : j = 0
      · subst hz; simp
      · simp [hz, show 64 ≤ 63 + j by omega]
    have e3 : (if a.msb = true then 1#64 else 0#64) * 9223372036854775808#64 = if a.msb then 9223372036854775808#64 else 0#64 := by
      cases a.msb <;> simp
    rw [e, e3]
    have h0 : (a.sshiftRight k >>> 1) &&& (if a.msb then 9223372036854775808#64 else 0#64) = 0#64 := by
      apply BitVec.eq_of_getLsbD_eq
      intro j hj
      rw [BitVec.getLsbD_and, BitVec.getLsbD_ushiftRight]
      cases a.msb
      · simp
      · simp only [if_true]
        rw [msb_bit j hj]
        by_cases h : j = 63
        · subst h; simp
        · simp [h]
    rw [BitVec.add_eq_or_of_and_eq_zero _ _ h0]
    apply BitVec.eq_of_getLsbD_eq
    intro j hj
    rw [BitVec.getLsbD_or, BitVec.getLsbD_ushiftRight, BitVec.getLsbD_sshiftRight, BitVec.getLsbD_sshiftRight]
    by_cases h : j = 63
    · subst h
      cases hm : a.msb
      · simp [hm]
      · have := msb_bit 63 (by omega)
        simp [this]
    · have h1 : 1 + j < 64 := by omega
      have h2 : (if a.msb = true then 9223372036854775808#64 else 0#64).getLsbD j = false := by
        cases a.msb
        · simp
        · simp only [if_true]; rw [msb_bit j hj]; simp [h]
      rw [h2]
      rw [show k + (1 + j) = k + 1 + j by omega]
      simp [show ¬ 64 ≤ 1 + j by omega, show ¬ 64 ≤ j by omega]) w

def bitF (how : Nat) (x y : Bool) : Bool := if how = 1 then x && y else if how = 2 then x || y else Bool.xor x y
def BitsTo (how : Nat) (a b x : BitVec 64) (k : Nat) : Prop := ∀ j, j < 64 → x.getLsbD j = (decide (j < k) && bitF how (a.getLsbD j) (b.getLsbD j))
theorem BitsTo.zero (how : Nat) (a b : BitVec 64) : BitsTo how a b 0#64 0 := by intro j hj; simp
theorem BitsTo.no {how : Nat} {a b x : BitVec 64} {k : Nat} (H : BitsTo how a b x k) (h : bitF how (a.getLsbD k) (b.getLsbD k) = false) : BitsTo how a b x (k + 1) := by
  intro j hj
  rw [H j hj]
  by_cases e : j = k
  · subst e; simp [h]
  · rw [show decide (j < k + 1) = decide (j < k) from decide_eq_decide.2 (by omega)]
theorem BitsTo.yes {how : Nat} {a b x : BitVec 64} {k : Nat} (H : BitsTo how a b x k) (hk : k < 64) (h : bitF how (a.getLsbD k) (b.getLsbD k) = true) : BitsTo how a b (x + 1#64 <<< k) (k + 1) := by
  have one : ∀ j, j < 64 → (1#64 <<< k).getLsbD j = decide (j = k) := by
    intro j hj
    rw [BitVec.getLsbD_shiftLeft, BitVec.getLsbD_one]
    by_cases e : j = k
    · subst e; simp [hk]
    · by_cases e2 : j < k
      · simp [e2, e]
      · simp [e2, e, show ¬ j - k = 0 by omega]
  have h0 : x &&& 1#64 <<< k = 0#64 := by
    apply BitVec.eq_of_getLsbD_eq
    intro j hj
    rw [BitVec.getLsbD_and, H j hj, one j hj]
    by_cases e : j = k
    · subst e; simp
    · simp [e]
  rw [BitVec.add_eq_or_of_and_eq_zero _ _ h0]
  intro j hj
  rw [BitVec.getLsbD_or, H j hj, one j hj]
  by_cases e : j = k
  · subst e; simp [h]
  · rw [show decide (j < k + 1) = decide (j < k) from decide_eq_decide.2 (by omega)]; simp [e]
theorem shl_U (k : Nat) : BitVec.ofInt 64 (2 ^ k) = 1#64 <<< k := by
  apply BitVec.eq_of_toNat_eq
  rw [BitVec.toNat_ofInt, BitVec.toNat_shiftLeft, Nat.shiftLeft_eq]
  have : ((2 : Int) ^ k) = ((2 ^ k : Nat) : Int) := by simp
  rw [this, ← Int.natCast_emod, Int.toNat_natCast]
  simp
attribute [local go_sem] shl_U
theorem bits_gen1 (a b r : BitVec 64) (hr : ∀ j, j < 64 → r.getLsbD j = bitF 1 (a.getLsbD j) (b.getLsbD j)) (w : World) :
    Calls Try.prog 30 #[U a, U b, .int .i64 1] w fun e w' => e = .returned (U r) ∧ w = w' := by
  have hr' := Hd.mk hr
  clear hr
  go_enter Try.func30, Try.ntmps30
  go_wp2
  go_simp
  go_loop [7, 8] (fun o i => ∃ k : Nat, ∃ x : BitVec 64, k ≤ 64 ∧ i = .int .i64 k ∧ o = U x ∧ Hd (BitsTo 1 a b x k)) (fun _ i => 64 - (intOf i).toNat)
  case atStart => exact ⟨0, 0#64, by omega, rfl, rfl, ⟨BitsTo.zero _ a b⟩⟩
  case round =>
    obtain ⟨k, x, hk, rfl, rfl, H⟩ := hrel
    by_cases hlt : k < 64
    · have e1 := bit1 a k
      have e2 := bit1 b k
      cases h1 : a.getLsbD k <;> cases h2 : b.getLsbD k
      all_goals
        rw [h1] at e1
        rw [h2] at e2
        simp only [if_true, if_false, Bool.false_eq_true] at e1 e2
        have h1' := Hd.mk h1
        have h2' := Hd.mk h2
        clear h1 h2
        go_wp2
        go_round
        case rel =>
          first
            | exact ⟨k + 1, x, by omega, by go_num, rfl, ⟨H.out.no (by rw [h1'.out, h2'.out]; rfl)⟩⟩
            | exact ⟨k + 1, _, by omega, by go_num, rfl, ⟨H.out.yes hlt (by rw [h1'.out, h2'.out]; rfl)⟩⟩
        case measure => simp [intOf]; omega
    · obtain rfl : k = 64 := by omega
      go_wp2
      go_ret
      refine ⟨retU ?_, rfl⟩
      apply BitVec.eq_of_getLsbD_eq
      intro j hj
      rw [H.out j hj, hr'.out j hj]
      simp [hj]
theorem bits_gen2 (a b r : BitVec 64) (hr : ∀ j, j < 64 → r.getLsbD j = bitF 2 (a.getLsbD j) (b.getLsbD j)) (w : World) :
    Calls Try.prog 30 #[U a, U b, .int .i64 2] w fun e w' => e = .returned (U r) ∧ w = w' := by
  have hr' := Hd.mk hr
  clear hr
  go_enter Try.func30, Try.ntmps30
  go_wp2
  go_simp
  go_loop [7, 8] (fun o i => ∃ k : Nat, ∃ x : BitVec 64, k ≤ 64 ∧ i = .int .i64 k ∧ o = U x ∧ Hd (BitsTo 2 a b x k)) (fun _ i => 64 - (intOf i).toNat)
  case atStart => exact ⟨0, 0#64, by omega, rfl, rfl, ⟨BitsTo.zero _ a b⟩⟩
  case round =>
    obtain ⟨k, x, hk, rfl, rfl, H⟩ := hrel
    by_cases hlt : k < 64
    · have e1 := bit1 a k
      have e2 := bit1 b k
      cases h1 : a.getLsbD k <;> cases h2 : b.getLsbD k
      all_goals
        rw [h1] at e1
        rw [h2] at e2
        simp only [if_true, if_false, Bool.false_eq_true] at e1 e2
        have h1' := Hd.mk h1
        have h2' := Hd.mk h2
        clear h1 h2
        go_wp2
        go_round
        case rel =>
          first
            | exact ⟨k + 1, x, by omega, by go_num, rfl, ⟨H.out.no (by rw [h1'.out, h2'.out]; rfl)⟩⟩
            | exact ⟨k + 1, _, by omega, by go_num, rfl, ⟨H.out.yes hlt (by rw [h1'.out, h2'.out]; rfl)⟩⟩
        case measure => simp [intOf]; omega
    · obtain rfl : k = 64 := by omega
      go_wp2
      go_ret
      refine ⟨retU ?_, rfl⟩
      apply BitVec.eq_of_getLsbD_eq
      intro j hj
      rw [H.out j hj, hr'.out j hj]
      simp [hj]
theorem bits_gen3 (a b r : BitVec 64) (hr : ∀ j, j < 64 → r.getLsbD j = bitF 3 (a.getLsbD j) (b.getLsbD j)) (w : World) :
    Calls Try.prog 30 #[U a, U b, .int .i64 3] w fun e w' => e = .returned (U r) ∧ w = w' := by
  have hr' := Hd.mk hr
  clear hr
  go_enter Try.func30, Try.ntmps30
  go_wp2
  go_simp
  go_loop [7, 8] (fun o i => ∃ k : Nat, ∃ x : BitVec 64, k ≤ 64 ∧ i = .int .i64 k ∧ o = U x ∧ Hd (BitsTo 3 a b x k)) (fun _ i => 64 - (intOf i).toNat)
  case atStart => exact ⟨0, 0#64, by omega, rfl, rfl, ⟨BitsTo.zero _ a b⟩⟩
  case round =>
    obtain ⟨k, x, hk, rfl, rfl, H⟩ := hrel
    by_cases hlt : k < 64
    · have e1 := bit1 a k
      have e2 := bit1 b k
      cases h1 : a.getLsbD k <;> cases h2 : b.getLsbD k
      all_goals
        rw [h1] at e1
        rw [h2] at e2
        simp only [if_true, if_false, Bool.false_eq_true] at e1 e2
        have h1' := Hd.mk h1
        have h2' := Hd.mk h2
        clear h1 h2
        go_wp2
        go_round
        case rel =>
          first
            | exact ⟨k + 1, x, by omega, by go_num, rfl, ⟨H.out.no (by rw [h1'.out, h2'.out]; rfl)⟩⟩
            | exact ⟨k + 1, _, by omega, by go_num, rfl, ⟨H.out.yes hlt (by rw [h1'.out, h2'.out]; rfl)⟩⟩
        case measure => simp [intOf]; omega
    · obtain rfl : k = 64 := by omega
      go_wp2
      go_ret
      refine ⟨retU ?_, rfl⟩
      apply BitVec.eq_of_getLsbD_eq
      intro j hj
      rw [H.out j hj, hr'.out j hj]
      simp [hj]
theorem bits_and (a b : BitVec 64) (w : World) : Calls Try.prog 30 #[U a, U b, .int .i64 1] w fun e w' => e = .returned (U (a &&& b)) ∧ w = w' :=
  bits_gen1 a b _ (fun j _ => by rw [BitVec.getLsbD_and]; rfl) w
theorem bits_or (a b : BitVec 64) (w : World) : Calls Try.prog 30 #[U a, U b, .int .i64 2] w fun e w' => e = .returned (U (a ||| b)) ∧ w = w' :=
  bits_gen2 a b _ (fun j _ => by rw [BitVec.getLsbD_or]; rfl) w
theorem bits_xor (a b : BitVec 64) (w : World) : Calls Try.prog 30 #[U a, U b, .int .i64 3] w fun e w' => e = .returned (U (a ^^^ b)) ∧ w = w' :=
  bits_gen3 a b _ (fun j _ => by rw [BitVec.getLsbD_xor]; rfl) w
end Go.Proofs.Ytmeebniadgngpaa
