/- The walks of AluMoves, AluTells, AluConditions. No conditions. -/
import Derived.Test.YtmeebniadgngpaaL3
namespace Go.Proofs.Ytmeebniadgngpaa
open Go.RowKit
set_option linter.unusedVariables false
set_option linter.unusedSimpArgs false

theorem moves_gen (a n m : BitVec 64) (hm : n % 64#64 = m) (h63 : m &&& 63#64 = m) (hk : m.toNat < 64) (w : World) :
    Calls Try.prog 7 #[U a, U n] w fun e w' => e = .returned (.bool true) ∧ Below w.heap.size w w' := by
  have s0 : si m = (m.toNat : Int) := by
    unfold si; rw [BitVec.toInt_eq_toNat_bmod, Int.bmod_def]; split <;> omega
  have f1 : (ruleF 2 (ruleF 6 a m) m == a - a % (1#64 <<< m.toNat)) = true := by
    show ((a >>> (m &&& 63#64).toNat) <<< (m &&& 63#64).toNat == _) = true
    rw [h63, move_down _ _ hk]; simp
  have f2 : (ruleF 6 (ruleF 2 a m) m == a <<< m.toNat >>> m.toNat) = true := by
    show ((a <<< (m &&& 63#64).toNat) >>> (m &&& 63#64).toNat == _) = true
    rw [h63]; simp
  have f3 : (ruleF 7 (ruleF 2 a m) m == sgn a (64 - m.toNat)) = true := by
    show ((a <<< (m &&& 63#64).toNat).sshiftRight (m &&& 63#64).toNat == _) = true
    rw [h63, move_sign _ _ hk]; simp
  have f4 : (a >>> 63 == 1#64) = true ∨ (a >>> 63 == 1#64) = false ∧ (ruleF 7 a m == ruleF 6 a m) = true := by
    rcases top_or a (m &&& 63#64).toNat with h | h
    · exact .inl h
    · cases h2 : (a >>> 63 == 1#64)
      · refine .inr ⟨rfl, ?_⟩
        show (a.sshiftRight (m &&& 63#64).toNat == a >>> (m &&& 63#64).toNat) = true
        rw [h]; simp
      · exact .inl rfl
  have f5 : (1#64 <<< m.toNat == 0#64) = false := by
    rw [beq_eq_false_iff_ne]
    intro h
    have e := congrArg (fun x => x.getLsbD m.toNat) h
    simp [BitVec.getLsbD_shiftLeft, hk] at e
  clear h63
  have k1 : (m.toNat : Int) < 64 := by omega
  rcases f4 with f4 | ⟨f4, f6⟩
  all_goals
    go_enter Try.func7, Try.ntmps7
    go_wp2_with fail
    refine (awake_any _).mono ?_; rintro e w1 ⟨rfl, b1⟩
    go_wp2_with fail
    refine (of_srl _ _ _).mono ?_; rintro e w2 ⟨rfl, b2⟩
    go_wp2_with fail
    refine (of_sll _ _ _).mono ?_; rintro e w3 ⟨rfl, b3⟩
    go_wp2_with fail
    refine (of_sll _ _ _).mono ?_; rintro e w4 ⟨rfl, b4⟩
    go_wp2_with fail
    refine (of_srl _ _ _).mono ?_; rintro e w5 ⟨rfl, b5⟩
    go_wp2_with fail
    refine (of_sll _ _ _).mono ?_; rintro e w6 ⟨rfl, b6⟩
    go_wp2_with fail
    refine (of_sra _ _ _).mono ?_; rintro e w7 ⟨rfl, b7⟩
    go_wp2_with fail
    refine (of_sra _ _ _).mono ?_; rintro e w8 ⟨rfl, b8⟩
    go_wp2_with fail
    refine (of_srl _ _ _).mono ?_; rintro e w9 ⟨rfl, b9⟩
    go_wp2_with fail
    refine (rSign_any _ _ (by omega) (by omega) _).mono ?_; rintro e w' ⟨rfl, rfl⟩
    go_wp2_with fail
    go_ret
    exact ⟨rfl, below2 (below2 (below2 (below2 (below2 (below2 (below2 (below2 b1 b2) b3) b4) b5) b6) b7) b8) b9⟩
theorem AluMoves_walk (a n : BitVec 64) (w : World) : Calls Try.prog 7 #[U a, U n] w fun e w' => e = .returned (.bool true) ∧ Below w.heap.size w w' :=
  moves_gen a n _ rfl (n64 n) (n64_lt n) w

theorem condV_form (s : ByteArray) (a b : BitVec 64) : ∃ h i : Bool, condV s a b = .tuple #[.bool h, .bool i] := by
  unfold condV; split <;> exact ⟨_, _, rfl⟩
theorem widthV_form (s : ByteArray) : ∃ (n : Int) (g i : Bool), widthV s = .tuple #[.int .i64 n, .bool g, .bool i] := by
  unfold widthV; split <;> exact ⟨_, _, _, rfl⟩
theorem AluTells_walk (op : Int) (a b : BitVec 64) (w : World) : Calls Try.prog 9 #[.int .i64 op, U a, U b] w fun e w' => e = .returned (.bool true) ∧ Below w.heap.size w w' := by
  have hH := fun w => Holds_any op a b w
  have hW := fun w => Width_any op w
  have hS := fun s (h : Hd (s = (opAt op).name)) w => by have := rHolds_any s a b w; rw [show condV s a b = condV (opAt op).name a b by rw [h.out]] at this; exact this
  have hX := fun s (h : Hd (s = (opAt op).name)) w => by have := rWidth_any s w; rw [show widthV s = widthV (opAt op).name by rw [h.out]] at this; exact this
  obtain ⟨h, i, e1⟩ := condV_form (opAt op).name a b
  obtain ⟨n, g, j, e2⟩ := widthV_form (opAt op).name
  rw [e1] at hH hS
  rw [e2] at hW hX
  clear e1 e2
  have HH := Hd.mk hH
  have HW := Hd.mk hW
  have HS := Hd.mk hS
  have HX := Hd.mk hX
  clear hH hW hS hX
  go_enter Try.func9, Try.ntmps9
  go_wp2_with fail
  refine (awake_any _).mono ?_; rintro e w1 ⟨rfl, b1⟩
  go_wp2_with fail
  refine (Of_any _ _).mono ?_; rintro e w2 ⟨o, ho, rfl, b2⟩
  go_wp2_with fail
  refine (HH.out _).mono ?_; rintro e w3 ⟨rfl, b3⟩
  have hz : w2.heap.size < w3.heap.size := by have := b3.size; simp at this; omega
  have hc := (bcell b3).1
  go_wp2_with fail
  refine (HS.out _ (by rw [ho.out]; exact ⟨rfl⟩) _).mono ?_; rintro e w' ⟨rfl, rfl⟩
  go_wp2_with fail
  refine (HW.out _).mono ?_; rintro e w4 ⟨rfl, b4⟩
  have hc4 := (bcell b4).1
  have hz4 : w2.heap.size < w4.heap.size := by have := b4.size; omega
  go_wp2_with fail
  refine (HX.out _ (by rw [ho.out]; exact ⟨rfl⟩) _).mono ?_; rintro e w' ⟨rfl, rfl⟩
  go_wp2_with fail
  go_ret
  exact ⟨rfl, below2 (below2 ((below2 b1 b2).alloc (by have := b1.size; have := b2.size; omega) _) b3) b4⟩

theorem below_tri (a b : BitVec 64) : ((a == b) = true ∧ below a b = false ∧ below b a = false ∧ ltB a b = false) ∨ ((a == b) = false ∧ below a b = true ∧ below b a = false) ∨ ((a == b) = false ∧ below a b = false ∧ below b a = true) := by
  have inj : si a = si b → a = b := by intro h; rw [← si_of a, ← si_of b, h]
  unfold below ltB
  rcases Int.lt_trichotomy (si a) (si b) with h | h | h
  · refine .inr (.inl ⟨?_, by simpa using h, by simp; omega⟩)
    rw [beq_eq_false_iff_ne]; intro e; rw [e] at h; omega
  · have e := inj h
    subst e
    exact .inl ⟨by simp, by simp, by simp, by simp⟩
  · refine .inr (.inr ⟨?_, by simp; omega, by simpa using h⟩)
    rw [beq_eq_false_iff_ne]; intro e; rw [e] at h; omega
theorem cond_at (k : Nat) (s : ByteArray) (a b : BitVec 64) (v : Bool) (hs : (opAt (opFind s)).name = s) (hk : condFind s = some k) (hv : condF k a b = v) (w : World) :
    Calls Try.prog 16 #[.int .i64 (opFind s), U a, U b] w fun e w' => e = .returned (.tuple #[.bool v, .bool true]) ∧ Below w.heap.size w w' := by
  have h := Holds_any (opFind s) a b w
  rw [hs] at h
  unfold condV at h
  rw [hk] at h
  simp only [hv] at h
  exact h
theorem conds_gen (a b : BitVec 64) (x l g t : Bool) (hx : (a == b) = x) (hl : below a b = l) (hg : below b a = g) (ht : ltB a b = t)
    (hc : (x && !l && !g && !t || !x && l && !g || !x && !l && g) = true) (w : World) :
    Calls Try.prog 6 #[U a, U b] w fun e w' => e = .returned (.bool true) ∧ Below w.heap.size w w' := by
  have c0 := Hd.mk (cond_at 0 ⟨#[98, 101, 113]⟩ a b x (by decide) (by decide) hx)
  have c1 := Hd.mk (cond_at 1 ⟨#[98, 110, 101]⟩ a b (!x) (by decide) (by decide) (by rw [← hx]; rfl))
  have c2 := Hd.mk (cond_at 2 ⟨#[98, 108, 116]⟩ a b l (by decide) (by decide) hl)
  have c3 := Hd.mk (cond_at 3 ⟨#[98, 103, 101]⟩ a b (!l) (by decide) (by decide) (by rw [← hl]; rfl))
  have c4 := Hd.mk (cond_at 4 ⟨#[98, 108, 116, 117]⟩ a b t (by decide) (by decide) ht)
  have c5 := Hd.mk (cond_at 5 ⟨#[98, 103, 101, 117]⟩ a b (!t) (by decide) (by decide) (by rw [← ht]; rfl))
  have c6 := Hd.mk (cond_at 2 ⟨#[98, 108, 116]⟩ b a g (by decide) (by decide) hg)
  have d1 : ∀ w, Calls Try.prog 14 #[.string ⟨#[115, 108, 116]⟩, U a, U b] w fun e w' => e = .returned (U (bitW l)) ∧ Below w.heap.size w w' := by
    intro w; have := of_slt a b w; rw [show ruleF 3 a b = bitW l by rw [← hl]; rfl] at this; exact this
  have d2 : ∀ w, Calls Try.prog 14 #[.string ⟨#[115, 108, 116, 117]⟩, U a, U b] w fun e w' => e = .returned (U (bitW t)) ∧ Below w.heap.size w w' := by
    intro w; have := of_sltu a b w; rw [show ruleF 4 a b = bitW t by rw [← ht]; rfl] at this; exact this
  have bw1 : bitW true = 1#64 := rfl
  have bw0 : bitW false = 0#64 := rfl
  clear hl hg ht
  cases x <;> cases l <;> cases g <;> cases t
  all_goals
    first
      | exact absurd hc (by decide)
      | (clear hc
         simp only [Bool.not_true, Bool.not_false] at c1 c3 c5
         rw [bw0] at d1 d2
         have D1 := Hd.mk d1
         have D2 := Hd.mk d2
         clear d1 d2
         skip)
      | (clear hc
         simp only [Bool.not_true, Bool.not_false] at c1 c3 c5
         first | rw [bw0] at d1 | rw [bw1] at d1
         first | rw [bw0] at d2 | rw [bw1] at d2
         have D1 := Hd.mk d1
         have D2 := Hd.mk d2
         clear d1 d2
         skip)
  all_goals
    clear bw0 bw1
    go_enter Try.func6, Try.ntmps6
    go_wp2_with fail
    refine (awake_any _).mono ?_; rintro e w1 ⟨rfl, b1⟩
    go_wp2_with fail
    refine (Find_any _ _).mono ?_; rintro e w2 ⟨rfl, b2⟩
    go_wp2_with fail
    refine (c0.out _).mono ?_; rintro e w3 ⟨rfl, b3⟩
    go_wp2_with fail
    refine (Find_any _ _).mono ?_; rintro e w4 ⟨rfl, b4⟩
    go_wp2_with fail
    refine (c1.out _).mono ?_; rintro e w5 ⟨rfl, b5⟩
    go_wp2_with fail
    refine (Find_any _ _).mono ?_; rintro e w6 ⟨rfl, b6⟩
    go_wp2_with fail
    refine (c2.out _).mono ?_; rintro e w7 ⟨rfl, b7⟩
    go_wp2_with fail
    refine (Find_any _ _).mono ?_; rintro e w8 ⟨rfl, b8⟩
    go_wp2_with fail
    refine (c3.out _).mono ?_; rintro e w9 ⟨rfl, b9⟩
    go_wp2_with fail
    refine (Find_any _ _).mono ?_; rintro e w10 ⟨rfl, b10⟩
    go_wp2_with fail
    refine (c4.out _).mono ?_; rintro e w11 ⟨rfl, b11⟩
    go_wp2_with fail
    refine (Find_any _ _).mono ?_; rintro e w12 ⟨rfl, b12⟩
    go_wp2_with fail
    refine (c5.out _).mono ?_; rintro e w13 ⟨rfl, b13⟩
    go_wp2_with fail
    refine (Find_any _ _).mono ?_; rintro e w14 ⟨rfl, b14⟩
    go_wp2_with fail
    refine (c6.out _).mono ?_; rintro e w15 ⟨rfl, b15⟩
    go_wp2_with fail
    refine (D1.out _).mono ?_; rintro e w16 ⟨rfl, b16⟩
    go_wp2_with fail
    refine (D2.out _).mono ?_; rintro e w17 ⟨rfl, b17⟩
    go_wp2_with fail
    go_ret
    exact ⟨rfl, below2 (below2 (below2 (below2 (below2 (below2 (below2 (below2 (below2 (below2 (below2 (below2 (below2 (below2 (below2 (below2 b1 b2) b3) b4) b5) b6) b7) b8) b9) b10) b11) b12) b13) b14) b15) b16) b17⟩
theorem AluConditions_walk (a b : BitVec 64) (w : World) : Calls Try.prog 6 #[U a, U b] w fun e w' => e = .returned (.bool true) ∧ Below w.heap.size w w' := by
  refine conds_gen a b _ _ _ _ rfl rfl rfl rfl ?_ w
  rcases below_tri a b with ⟨h1, h2, h3, h4⟩ | ⟨h1, h2, h3⟩ | ⟨h1, h2, h3⟩
  · rw [h1, h2, h3, h4]; rfl
  · rw [h1, h2, h3]; simp
  · rw [h1, h2, h3]; simp
end Go.Proofs.Ytmeebniadgngpaa
