/- The last step of a law's row where the walk tells that all that lay in memory ahead of the call lies there behind it; and the names' words for the laws of chapter 6. -/
import Derived.Test.YtmeebniadgngpaaRows
import Derived.Test.YtmeebniadgngpaaR2
import Derived.WalkKit
import Derived.ProofKit
import Derived.OpenShut
namespace Go.Proofs.Ytmeebniadgngpaa
open Go.ChangeShapes Go.WideShapes Go.ChangeAt Go.RowKit
set_option linter.unusedVariables false
set_option linter.unusedSimpArgs false

section
variable {H : Type} {enc : TypeId × Value → H} {P : Program}
/-- The row's word out of 'Below': whatever was read before stands where it stood; the results are what the specification says. -/
theorem law_post {f : Func} {s : ChangeSpec} {apart fresh handsOn again : Bool} {W V : World} {args : Array Value} {v : Value} {ds gs : List (DataW H)} {old pa pv : List MemPlace}
    (whole : DataW.Whole enc P f.params.toList s.vars apart W args.toList ds gs old)
    (res : ∀ (b : Nat) (sp : Nat → Bool) (hd : Bool), DataW.TrodAll enc P V b sp hd f.resultTypes.toList (v.resultList f.resultTypes.size) (s.fn H (ds ++ gs)).results [])
    (arg : ∀ sp : Nat → Bool, (∀ p ∈ old, sp p.block = true) → DataW.TrodAll enc P V 0 sp true f.params.toList args.toList (s.fn H (ds ++ gs)).args pa)
    (var : ∀ sp : Nat → Bool, (∀ p ∈ old, sp p.block = true) → DataW.TrodVars enc P V sp s.vars (s.fn H (ds ++ gs)).vars pv)
    (same : old = pa ++ pv) (below : Below W.heap.size W V)
    (ok : ∀ (j : Nat) (t : TypeId) (r : Value), f.resultTypes[j]? = some t → (v.resultList f.resultTypes.size)[j]? = some r → Value.okWide P V .any 0 t r) :
    s.post enc P f apart fresh handsOn again W args v V := by
  subst same
  have lt : ∀ p ∈ pa ++ pv, p.block < W.heap.size := fun p hp => whole.lt p hp
  have arg0 := arg (fun b => decide (b < W.heap.size)) (fun p hp => decide_eq_true (lt p hp))
  have var0 := var (fun b => decide (b < W.heap.size)) (fun p hp => decide_eq_true (lt p hp))
  have kept : W.keptBut V (fun p => p ∈ pa ++ pv ∧ (p ∈ ([] : List MemPlace) ∨ p ∈ pa ∨ p ∈ pv)) :=
    World.keptBut_mono (fun p hp => ⟨hp, .inr (List.mem_append.1 hp)⟩) (below.frame (· ∈ pa ++ pv))
  refine ⟨ds, gs, pa ++ pv, [], pa, pv, whole, res _ _ _, arg0, var0, kept, fun _ => ⟨ok, ?_⟩⟩
  obtain ⟨_, _, _, _, _, fz, nd⟩ := whole
  refine ⟨_, _, pa ++ pv, ⟨[] ++ pa, pv, trodAll_append (arg _ (fun _ _ => rfl)) (res _ _ _), var _ (fun _ _ => rfl), rfl, fun b o hp => ?_, fun h => nd h⟩, fun p hp _ => hp⟩
  have := below.frozen (p := ⟨b, o, none⟩) (lt _ hp)
  rw [this]
  exact fz b o hp
end

/-- An argument of 64 bits without a sign is a word. -/
theorem u64_of {a : Int} (h : (Lit.int .u64 a).wf = true) : ∃ x : BitVec 64, Value.int .u64 a = U x := by
  have hb := bounds_u64 h
  exact ⟨_, U_of a (by omega) (by omega)⟩
/-! ### of -/
theorem okV_some (v : BitVec 64) : okV (some v) = .tuple #[U v, .bool true] := rfl
theorem name_back (op : Int) (s : ByteArray) (h : opFind s = op) (h2 : (opAt op).name = s) : (opAt (opFind s)).name = s := by rw [h, h2]
theorem of_any (s : ByteArray) (k : BitVec 64) (a b : BitVec 64) (hn : (opAt (opFind s)).name = s) (hs : aluP (plainF s) a b = some k) (w : World) :
    Calls Try.prog 14 #[.string s, U a, U b] w fun e w' => e = .returned (U k) ∧ Below w.heap.size w w' := by
  have hr := fun w => Reckon_any (opFind s) a b w
  rw [hn, hs] at hr
  have hr' : ∀ w, Calls Try.prog 12 #[.int .i64 (opFind s), U a, U b] w fun e w' => e = .returned (.tuple #[U k, .bool true]) ∧ Below w.heap.size w w' := hr
  have hr := hr'
  clear hr' hs hn
  go_enter Try.func14, Try.ntmps14
  go_wp2_with (first
    | (go_at_call 17; refine (Find_any _ _).mono ?_; rintro e w1 ⟨rfl, hb1⟩)
    | (go_at_call 12; refine (hr _).mono ?_; rintro e w2 ⟨rfl, hb2⟩))
  go_ret
  exact ⟨rfl, hb1.trans (hb2.mono hb1.size)⟩
theorem of_add (a b : BitVec 64) (w : World) : Calls Try.prog 14 #[.string ⟨#[97, 100, 100]⟩, U a, U b] w fun e w' => e = .returned (U (ruleF 0 a b)) ∧ Below w.heap.size w w' :=
  of_any ⟨#[97, 100, 100]⟩ _ a b (by decide) rfl w
theorem of_sub (a b : BitVec 64) (w : World) : Calls Try.prog 14 #[.string ⟨#[115, 117, 98]⟩, U a, U b] w fun e w' => e = .returned (U (ruleF 1 a b)) ∧ Below w.heap.size w w' :=
  of_any ⟨#[115, 117, 98]⟩ _ a b (by decide) rfl w
theorem of_mul (a b : BitVec 64) (w : World) : Calls Try.prog 14 #[.string ⟨#[109, 117, 108]⟩, U a, U b] w fun e w' => e = .returned (U (ruleF 10 a b)) ∧ Below w.heap.size w w' :=
  of_any ⟨#[109, 117, 108]⟩ _ a b (by decide) rfl w
theorem of_sll (a b : BitVec 64) (w : World) : Calls Try.prog 14 #[.string ⟨#[115, 108, 108]⟩, U a, U b] w fun e w' => e = .returned (U (ruleF 2 a b)) ∧ Below w.heap.size w w' :=
  of_any ⟨#[115, 108, 108]⟩ _ a b (by decide) rfl w
theorem of_srl (a b : BitVec 64) (w : World) : Calls Try.prog 14 #[.string ⟨#[115, 114, 108]⟩, U a, U b] w fun e w' => e = .returned (U (ruleF 6 a b)) ∧ Below w.heap.size w w' :=
  of_any ⟨#[115, 114, 108]⟩ _ a b (by decide) rfl w
theorem of_sra (a b : BitVec 64) (w : World) : Calls Try.prog 14 #[.string ⟨#[115, 114, 97]⟩, U a, U b] w fun e w' => e = .returned (U (ruleF 7 a b)) ∧ Below w.heap.size w w' :=
  of_any ⟨#[115, 114, 97]⟩ _ a b (by decide) rfl w
theorem of_and (a b : BitVec 64) (w : World) : Calls Try.prog 14 #[.string ⟨#[97, 110, 100]⟩, U a, U b] w fun e w' => e = .returned (U (ruleF 9 a b)) ∧ Below w.heap.size w w' :=
  of_any ⟨#[97, 110, 100]⟩ _ a b (by decide) rfl w
theorem of_or (a b : BitVec 64) (w : World) : Calls Try.prog 14 #[.string ⟨#[111, 114]⟩, U a, U b] w fun e w' => e = .returned (U (ruleF 8 a b)) ∧ Below w.heap.size w w' :=
  of_any ⟨#[111, 114]⟩ _ a b (by decide) rfl w
theorem of_xor (a b : BitVec 64) (w : World) : Calls Try.prog 14 #[.string ⟨#[120, 111, 114]⟩, U a, U b] w fun e w' => e = .returned (U (ruleF 5 a b)) ∧ Below w.heap.size w w' :=
  of_any ⟨#[120, 111, 114]⟩ _ a b (by decide) rfl w
theorem of_slt (a b : BitVec 64) (w : World) : Calls Try.prog 14 #[.string ⟨#[115, 108, 116]⟩, U a, U b] w fun e w' => e = .returned (U (ruleF 3 a b)) ∧ Below w.heap.size w w' :=
  of_any ⟨#[115, 108, 116]⟩ _ a b (by decide) rfl w
theorem of_sltu (a b : BitVec 64) (w : World) : Calls Try.prog 14 #[.string ⟨#[115, 108, 116, 117]⟩, U a, U b] w fun e w' => e = .returned (U (ruleF 4 a b)) ∧ Below w.heap.size w w' :=
  of_any ⟨#[115, 108, 116, 117]⟩ _ a b (by decide) rfl w
theorem of_div (a b : BitVec 64) (w : World) : Calls Try.prog 14 #[.string ⟨#[100, 105, 118]⟩, U a, U b] w fun e w' => e = .returned (U (ruleF 14 a b)) ∧ Below w.heap.size w w' :=
  of_any ⟨#[100, 105, 118]⟩ _ a b (by decide) rfl w
theorem of_divu (a b : BitVec 64) (w : World) : Calls Try.prog 14 #[.string ⟨#[100, 105, 118, 117]⟩, U a, U b] w fun e w' => e = .returned (U (ruleF 15 a b)) ∧ Below w.heap.size w w' :=
  of_any ⟨#[100, 105, 118, 117]⟩ _ a b (by decide) rfl w
theorem of_rem (a b : BitVec 64) (w : World) : Calls Try.prog 14 #[.string ⟨#[114, 101, 109]⟩, U a, U b] w fun e w' => e = .returned (U (ruleF 16 a b)) ∧ Below w.heap.size w w' :=
  of_any ⟨#[114, 101, 109]⟩ _ a b (by decide) rfl w
theorem of_remu (a b : BitVec 64) (w : World) : Calls Try.prog 14 #[.string ⟨#[114, 101, 109, 117]⟩, U a, U b] w fun e w' => e = .returned (U (ruleF 17 a b)) ∧ Below w.heap.size w w' :=
  of_any ⟨#[114, 101, 109, 117]⟩ _ a b (by decide) rfl w
theorem of_andi (a b : BitVec 64) (w : World) : Calls Try.prog 14 #[.string ⟨#[97, 110, 100, 105]⟩, U a, U b] w fun e w' => e = .returned (U (ruleF 9 a b)) ∧ Below w.heap.size w w' :=
  of_any ⟨#[97, 110, 100, 105]⟩ _ a b (by decide) rfl w
theorem of_ori (a b : BitVec 64) (w : World) : Calls Try.prog 14 #[.string ⟨#[111, 114, 105]⟩, U a, U b] w fun e w' => e = .returned (U (ruleF 8 a b)) ∧ Below w.heap.size w w' :=
  of_any ⟨#[111, 114, 105]⟩ _ a b (by decide) rfl w
theorem of_xori (a b : BitVec 64) (w : World) : Calls Try.prog 14 #[.string ⟨#[120, 111, 114, 105]⟩, U a, U b] w fun e w' => e = .returned (U (ruleF 5 a b)) ∧ Below w.heap.size w w' :=
  of_any ⟨#[120, 111, 114, 105]⟩ _ a b (by decide) rfl w
theorem of_addw (a b : BitVec 64) (w : World) : Calls Try.prog 14 #[.string ⟨#[97, 100, 100, 119]⟩, U a, U b] w fun e w' => e = .returned (U (shortF 0 a b)) ∧ Below w.heap.size w w' :=
  of_any ⟨#[97, 100, 100, 119]⟩ _ a b (by decide) rfl w
theorem of_subw (a b : BitVec 64) (w : World) : Calls Try.prog 14 #[.string ⟨#[115, 117, 98, 119]⟩, U a, U b] w fun e w' => e = .returned (U (shortF 1 a b)) ∧ Below w.heap.size w w' :=
  of_any ⟨#[115, 117, 98, 119]⟩ _ a b (by decide) rfl w
theorem of_mulw (a b : BitVec 64) (w : World) : Calls Try.prog 14 #[.string ⟨#[109, 117, 108, 119]⟩, U a, U b] w fun e w' => e = .returned (U (shortF 5 a b)) ∧ Below w.heap.size w w' :=
  of_any ⟨#[109, 117, 108, 119]⟩ _ a b (by decide) rfl w
theorem of_sllw (a b : BitVec 64) (w : World) : Calls Try.prog 14 #[.string ⟨#[115, 108, 108, 119]⟩, U a, U b] w fun e w' => e = .returned (U (shortF 2 a b)) ∧ Below w.heap.size w w' :=
  of_any ⟨#[115, 108, 108, 119]⟩ _ a b (by decide) rfl w
theorem of_sraw (a b : BitVec 64) (w : World) : Calls Try.prog 14 #[.string ⟨#[115, 114, 97, 119]⟩, U a, U b] w fun e w' => e = .returned (U (shortF 4 a b)) ∧ Below w.heap.size w w' :=
  of_any ⟨#[115, 114, 97, 119]⟩ _ a b (by decide) rfl w
theorem of_divw (a b : BitVec 64) (w : World) : Calls Try.prog 14 #[.string ⟨#[100, 105, 118, 119]⟩, U a, U b] w fun e w' => e = .returned (U (shortF 6 a b)) ∧ Below w.heap.size w w' :=
  of_any ⟨#[100, 105, 118, 119]⟩ _ a b (by decide) rfl w
theorem of_divuw (a b : BitVec 64) (w : World) : Calls Try.prog 14 #[.string ⟨#[100, 105, 118, 117, 119]⟩, U a, U b] w fun e w' => e = .returned (U (shortF 7 a b)) ∧ Below w.heap.size w w' :=
  of_any ⟨#[100, 105, 118, 117, 119]⟩ _ a b (by decide) rfl w
theorem of_remw (a b : BitVec 64) (w : World) : Calls Try.prog 14 #[.string ⟨#[114, 101, 109, 119]⟩, U a, U b] w fun e w' => e = .returned (U (shortF 8 a b)) ∧ Below w.heap.size w w' :=
  of_any ⟨#[114, 101, 109, 119]⟩ _ a b (by decide) rfl w
theorem of_remuw (a b : BitVec 64) (w : World) : Calls Try.prog 14 #[.string ⟨#[114, 101, 109, 117, 119]⟩, U a, U b] w fun e w' => e = .returned (U (shortF 9 a b)) ∧ Below w.heap.size w w' :=
  of_any ⟨#[114, 101, 109, 117, 119]⟩ _ a b (by decide) rfl w
theorem of_addiw (a b : BitVec 64) (w : World) : Calls Try.prog 14 #[.string ⟨#[97, 100, 100, 105, 119]⟩, U a, U b] w fun e w' => e = .returned (U (shortF 0 a b)) ∧ Below w.heap.size w w' :=
  of_any ⟨#[97, 100, 100, 105, 119]⟩ _ a b (by decide) rfl w
end Go.Proofs.Ytmeebniadgngpaa
