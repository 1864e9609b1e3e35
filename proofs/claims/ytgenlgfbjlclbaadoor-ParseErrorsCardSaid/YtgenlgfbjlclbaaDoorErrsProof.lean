/-
  For every two whole numbers ParseErrors returns true: of each of the twenty texts that are no programs, with any blanks ahead, on the first line or the second, the parser tells the first token that may not stand there; both arguments read afterwards as they did. Conditions: none but the row's own (the listed package-level variables hold what the program's text lays).
-/
import Derived.Test.YtgenlgfbjlclbaaDoorErrs
import Derived.Test.YtgenlgfbjlclbaaDoorErrsLaw
import Derived.Test.YtgenlgfbjlclbaaDoorGLaid
import Derived.Test.YtgenlgfbjlclbaaDoorTie
import Derived.Test.YtgenlgfbjlclbaaDoorCards
import Derived.ProofKit
import Derived.LaidMore
import Derived.OpenShut
import Derived.Stop.Joined
import Derived.SevenTiedAt
namespace Go.Proofs.YtgenlgfbjlclbaaDoor.parseErrors
open Go.ChangeShapes Go.WideShapes Go.ChangeAt Go.RowKit
set_option linter.unusedVariables false

abbrev laid1 := Rows.parseErrorsRow.laid
theorem own : ownKnob Tryd.prog.godebug = none := by kernel_rfl

/-- The door's own heap meets the condition. -/
theorem door_met (os : Os) (args : Array Value) : laidMetH Tryd.prog laid1 ((World.doorLaid Tryd.prog 49 os).forCall (fun _ _ => 0) ⟨#[], args, []⟩).memory :=
  laidMetH_of_parts3 (fuel := 8) (laidMet_of_run' 8 (by kernel_rfl) (by kernel_rfl)) (by kernel_rfl) (by kernel_rfl)

theorem gp {W : World} (h : laidMetH Tryd.prog laid1 W) : ∃ a, GP a W.heap.size W := by
  rw [MakeChecks.laidMetH_plain _ _ _ (by kernel_rfl)] at h
  exact gp_of_laid h (glob_of_laid h 3 2 rfl rfl) 4 5 6 rfl rfl rfl

theorem join_list (j k : Nat) (hk : k < 20) : (blank j ++ (rowsL.getD k (⟨#[]⟩, 0, 0)).1).data.toList = List.replicate j 32 ++ (rowsB0.getD k ([], 0, 0)).1 := by
  rw [ByteArray.data_append, Array.toList_append]
  have : ∀ k, k < 20 → (rowsL.getD k (⟨#[]⟩, 0, 0)).1.data.toList = (rowsB0.getD k ([], 0, 0)).1 := by decide +kernel
  rw [this k hk]
  rfl
theorem row_same : ∀ k, k < 20 → (rowsL.getD k (⟨#[]⟩, 0, 0)).2 = (rowsB0.getD k ([], 0, 0)).2 := by decide +kernel
theorem law (k j : Nat) (hk : k < 20) (hj : j < 16) : ∃ e1 q1, (e1 = (rowsL.getD k (⟨#[]⟩, 0, 0)).2.2 ∧ q1 = (rowsL.getD k (⟨#[]⟩, 0, 0)).2.1 + j) ∧ parseF 100 (blank j ++ (rowsL.getD k (⟨#[]⟩, 0, 0)).1).data.toList = some (⟨[], []⟩, ⟨e1, 1, q1⟩) ∧ parseF 100 (⟨#[118, 97, 114, 32, 111, 107, 59, 10]⟩ ++ blank j ++ (rowsL.getD k (⟨#[]⟩, 0, 0)).1).data.toList = some (⟨[], []⟩, ⟨e1, 2, q1⟩) := by
  have h := err_law k j hk hj
  unfold errOk at h
  simp only [Bool.and_eq_true] at h
  refine ⟨_, _, ⟨rfl, rfl⟩, ?_, ?_⟩
  · rw [join_list j k hk, row_same k hk]
    exact saysE_spec h.1
  · rw [show (⟨#[118, 97, 114, 32, 111, 107, 59, 10]⟩ ++ blank j ++ (rowsL.getD k (⟨#[]⟩, 0, 0)).1 : ByteArray).data.toList = [118, 97, 114, 32, 111, 107, 59, 10] ++ List.replicate j 32 ++ (rowsB0.getD k ([], 0, 0)).1 by
      rw [ByteArray.append_assoc, ByteArray.data_append, Array.toList_append, join_list j k hk, List.append_assoc], row_same k hk]
    exact saysE_spec h.2

set_option maxRecDepth 100000 in
theorem lifted (os : Os) (started : os.Started) (H : Type) (enc : TypeId × Value → H) :
    ReturnsInHanded {} Tryd.checked os 3 .any (fun w args => (Rows.parseErrorsSpec.pre enc Tryd.prog Tryd.f3 [] false w args ∧ laidMetH Tryd.prog laid1 w) ∧ sizedMet enc Tryd.prog Tryd.f3 (OpenSpec.ofChange Rows.parseErrorsSpec) false w args)
      (Rows.parseErrorsSpec.post enc Tryd.prog Tryd.f3 false true false false) := by
  refine returnsInHanded_of_change_and (C := Tryd.checked) (X := fun w _ => laidMetH Tryd.prog laid1 w) (fun _ _ _ hh h => h.of_heap hh) own started (by kernel_rfl) Tryd.func3
    (ChangeSpec.witness_shaped (enc := enc) (C := Tryd.checked) (os := os) (X := fun w _ => laidMetH Tryd.prog laid1 w) false (World.doorLaid Tryd.prog 49 os) #[.int .i64 0, .int .i64 0] 8 rfl (World.shaped_of_RefB (by kernel_rfl) (by kernel_rfl)) (by kernel_rfl) (by kernel_rfl) (by kernel_rfl) (door_met os _)) ?_
  intro W base args ds gs before hval0 hW _ _ hL _
  have hval : ∀ (j : Nat) t v, Tryd.f3.params[j]? = some t → args[j]? = some v → Value.okWide Tryd.prog W .any base t v := hval0
  have hW' := hW
  obtain ⟨p, q, hA0, hV, rfl, hfz, hnd⟩ := hW
  have hA : DataW.TrodAll enc Tryd.prog W 0 (fun _ => true) true Tryd.f3.params.toList args.toList ds p := hA0
  rw [Tryd.params3] at hA hval
  obtain ⟨v0, vs0, d0, ds0, p0, q0, hargs, rfl, rfl, h0, r0⟩ := trodAll_cons hA
  obtain ⟨v1, vs1, d1, ds1, p1, q1, rfl, rfl, rfl, h1, r1⟩ := trodAll_cons r0
  obtain ⟨rfl, rfl, rfl⟩ := trodAll_nil r1
  obtain rfl : args = #[v0, v1] := by cases args; simp_all
  obtain ⟨rfl, rfl⟩ := trodVars_none hV
  obtain ⟨a0, rfl, rfl, rfl, w0⟩ := open_int Tryd.underlying3 (hval 0 3 v0 rfl rfl) h0
  obtain ⟨a1, rfl, rfl, rfl, w1⟩ := open_int Tryd.underlying3 (hval 1 3 v1 rfl rfl) h1
  clear hA0 hval0
  simp only [List.append_nil] at hW'
  obtain ⟨ga, hG⟩ := gp hL
  refine (errs_calls a0 a1 W hG law).mono fun e W' ⟨he, hb⟩ => ?_
  subst he
  exact ⟨_, rfl, _, _, _, [], _, [], hW', trodAll_mk1 (shut_bool Tryd.underlying4 _), trodAll_cons_mk (shut_int Tryd.underlying3 w0) (trodAll_cons_mk (shut_int Tryd.underlying3 w1) trodAll_mk0), rfl, hb.frame _, fun h => by cases h⟩

theorem over : Rows.ParseErrorsSaid :=
  OpenClaim.holds_of_wide 3 Tryd.f3 rfl rfl rfl rfl rfl rfl rfl ⟨rfl, rfl, rfl, rfl, rfl⟩ rfl rfl rfl rfl rfl (by kernel_rfl) Tryd.func3 (by kernel_rfl)
    (of_decide_eq_true (by kernel_rfl)) (by unfold Func.isWrapper; first | (rw [if_pos (by decide +kernel)]; kernel_rfl) | (rw [if_neg (by decide +kernel)]; exact ⟨rfl, rfl⟩))
    (fun os started H enc _ => lifted os started H enc)
end Go.Proofs.YtgenlgfbjlclbaaDoor.parseErrors
namespace Go.Proofs.YtgenlgfbjlclbaaDoor
open Go
/-- The tied card. -/
theorem parseErrors_holds : Rows.ParseErrorsCardSaid :=
  Claim7.holds_tied_plain_at .later [] [.data, .data, .data, .data, .data, .data, .widerDeep] true Rows.parseErrorsCard.stood.harness false
    parseErrors.over (fun _ h => by cases h) (by kernel_rfl) (fun _ h => by cases h) parseErrors_row_tie rfl ⟨rfl, rfl⟩ (by kernel_rfl) rfl
    (fun f fn hf hfn => by
      obtain rfl : f = 3 := Option.some.inj ((show Tryd.prog.funcNamed "palings/palingslaw04.ParseErrors" = some 3 by kernel_rfl).symm.trans hf) |>.symm
      obtain rfl : fn = Tryd.f3 := (Option.some.inj (Tryd.func3.symm.trans hfn)).symm
      exact ⟨by kernel_rfl, fun j t ht => by
        rw [Tryd.params3] at ht
        have hm : t ∈ [3, 3] := by simpa using Array.mem_of_getElem? ht
        have hall : ([3, 3].all fun u => !Tryd.prog.wantsStandIn u) = true := by kernel_rfl
        exact (show Tryd.prog.wantsStandIn t = false by simpa using List.all_eq_true.1 hall t hm)⟩)
    (by kernel_rfl)
#print axioms parseErrors_holds
end Go.Proofs.YtgenlgfbjlclbaaDoor
