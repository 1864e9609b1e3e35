/- The document's example, and the walk of AstSigns. -/
import Derived.Test.YtpbeplepcbhamaaDoorText
import Derived.Test.YtpbeplepcbhamaaDoorMem
namespace Go.Proofs.YtpbeplepcbhamaaDoor
open Go.RowKit Go.Proofs.YtpbeplepcbhamaaDoorW.PrintWords Go.Proofs.YtpbeplepcbhamaaDoorW.PrintLast Go.Proofs.YtpbeplepcbhamaaDoorW.PrintMore
set_option linter.unusedVariables false
set_option linter.unusedSimpArgs false

def hd1 : Expr := ⟨1, ⟨0, 0⟩, 1, ByteArray.empty, 0, []⟩
def hd2 : Expr := ⟨3, ⟨0, 0⟩, 0, ⟨#[97]⟩, 0, []⟩
def hd3 : Expr := ⟨6, ⟨0, 0⟩, 0, ByteArray.empty, 1, [hd1, hd2]⟩

theorem hd_text1 : etext hd1 = [49] := by
  have : etext hd1 = Lib.itoa 1 := by rw [etext_eq hd1]; exact if_pos rfl
  rw [this]
  unfold Lib.itoa Lib.decDigits
  rfl
theorem hd_text2 : etext hd2 = [97] := by
  rw [etext_eq hd2]
  simp [hd2]
theorem hd_text : etext hd3 = [40, 49, 32, 43, 32, 97, 41] := by
  rw [etext_eq hd3]
  simp [hd3, etexts, hd_text1, hd_text2]
  decide
theorem hd_fit : Fit 140737488355328 hd3 := by
  have f1 : Fit 140737488355328 hd1 := ⟨by show (etext hd1).length ≤ _; rw [hd_text1]; decide, by simp [Fits]⟩
  have f2 : Fit 140737488355328 hd2 := ⟨by show (etext hd2).length ≤ _; rw [hd_text2]; decide, by simp [Fits]⟩
  exact ⟨by show (etext hd3).length ≤ _; rw [hd_text]; decide, ⟨f1, f2, trivial⟩⟩
theorem hd_slim : Slim 8000000000000 hd3 := by
  simp [hd3, hd1, hd2, Slim, Slims]

theorem hd_K (w : World) : kExpr.K (w.alloc (.cells #[.int .i64 1, .int .i64 0, .int .i64 0, .int .i64 1, .string ⟨#[]⟩, .int .i64 0, .slice none 0 0, .int .i64 3, .int .i64 0, .int .i64 0, .int .i64 0, .string ⟨#[97]⟩, .int .i64 0, .slice none 0 0] 31)) hd3
    [.int .i64 6, .int .i64 0, .int .i64 0, .int .i64 0, .string ⟨#[]⟩, .int .i64 1, .slice (some ⟨w.heap.size, 0, none⟩) 2 2] := by
  have nilC : ∀ w, kExpr.C w none 0 [] := fun w => ⟨rfl, by decide, fun h => absurd h (by decide)⟩
  have r1 : Reps (kExpr.K w) 7 [hd1, hd2] ([.int .i64 1, .int .i64 0, .int .i64 0, .int .i64 1, .string ⟨#[]⟩, .int .i64 0, .slice none 0 0] ++ [.int .i64 3, .int .i64 0, .int .i64 0, .int .i64 0, .string ⟨#[97]⟩, .int .i64 0, .slice none 0 0]) :=
    Reps.snoc (Reps.snoc (Reps.none (kExpr.K w) 7) (kExpr_mk w hd1 (A6 := none) (c6 := 0) (by unfold Wf64 hd1; decide) (by decide) (nilC w)) rfl) (kExpr_mk w hd2 (A6 := none) (c6 := 0) (by unfold Wf64 hd2; decide) (by decide) (nilC w)) rfl
  exact kExpr_mk _ hd3 (A6 := some ⟨w.heap.size, 0, none⟩) (c6 := 2) (by unfold Wf64 hd3; decide) (by decide) (lit_C kExpr 31 w r1 (by decide))

set_option maxRecDepth 100000 in
theorem head_calls (w : World) (hg : Glob w) :
    Calls Tryd.prog 7 #[] w fun e w' => e = .returned (.bool true) ∧ Below w.heap.size w w' := by
  have HK := Lib.hid (hd_K w)
  have hb : Below w.heap.size w (w.alloc (.cells #[.int .i64 1, .int .i64 0, .int .i64 0, .int .i64 1, .string ⟨#[]⟩, .int .i64 0, .slice none 0 0, .int .i64 3, .int .i64 0, .int .i64 0, .int .i64 0, .string ⟨#[97]⟩, .int .i64 0, .slice none 0 0] 31)) := (Below.refl _ _).alloc (Nat.le_refl _) _
  have ht : ((bs (etext hd3)).toList == [40, 49, 32, 43, 32, 97, 41]) = true := by rw [hd_text, Lib.toList_data]; rfl
  go_enter Tryd.func7, Tryd.ntmps7
  go_wp2_with (first | (go_at_call 22; refine (text_calls _ hd3 (Nat.le_refl _) hd_fit hd_slim _ _ HK.out (hg.below hg.size hb)).mono ?_; rintro e w1 ⟨rfl, hb1⟩))
  go_ret
  exact ⟨rfl, below_step hb hb1⟩

theorem signOf_in (a : Int) (h1 : 1 ≤ a) (h2 : a ≤ 14) : signOf a = sgn a.toNat := by
  unfold signOf
  rw [if_neg (by omega)]
theorem signOf_out (a : Int) (h : a < 1 ∨ 14 < a) : signOf a = ByteArray.empty := by
  unfold signOf
  split
  · rfl
  · rename_i h'
    obtain rfl : a = 0 := by omega
    rfl
theorem sgn_full : ∀ i : Fin 15, 1 ≤ (i : Nat) → (sgn i).data.toList.isEmpty = false := by decide
theorem sgn_ne : ∀ i j : Fin 15, 1 ≤ (i : Nat) → 1 ≤ (j : Nat) → (((sgn i).data.toList == (sgn j).data.toList) = decide ((i : Nat) = (j : Nat))) := by decide
theorem sign_full (a : Int) (h1 : 1 ≤ a) (h2 : a ≤ 14) : (signOf a).toList.isEmpty = false := by
  rw [signOf_in a h1 h2, Lib.toList_data]
  exact sgn_full ⟨a.toNat, by omega⟩ (by show 1 ≤ a.toNat; omega)
theorem sign_none (a : Int) (h : a < 1 ∨ 14 < a) : (signOf a).toList.isEmpty = true := by
  rw [signOf_out a h, Lib.toList_data]
  rfl
theorem sign_eq (a b : Int) (h1 : 1 ≤ a) (h2 : a ≤ 14) : ((signOf a).toList == (signOf b).toList) = (a == b) := by
  by_cases hb : 1 ≤ b ∧ b ≤ 14
  · rw [signOf_in a h1 h2, signOf_in b hb.1 hb.2, Lib.toList_data, Lib.toList_data]
    have := sgn_ne ⟨a.toNat, by omega⟩ ⟨b.toNat, by omega⟩ (by show 1 ≤ a.toNat; omega) (by show 1 ≤ b.toNat; omega)
    rw [this, Bool.eq_iff_iff, decide_eq_true_iff, beq_iff_eq]
    show a.toNat = b.toNat ↔ a = b
    omega
  · have e1 : (a == b) = false := beq_eq_false_iff_ne.2 (by omega)
    have e2 := sign_full a h1 h2
    have e3 := sign_none b (by omega)
    rw [e1, beq_eq_false_iff_ne]
    intro e
    rw [e, e3] at e2
    cases e2

set_option maxRecDepth 100000 in
theorem signs_walk (a b : Int) (w : World) (hg : Glob w) :
    Calls Tryd.prog 3 #[.int .i64 a, .int .i64 b] w fun e w' => e = .returned (.bool true) ∧ Below w.heap.size w w' := by
  have hs : decide (((signOf a).size : Int) ≤ 2) = true := by have := signOf_size a; simp; omega
  by_cases hc : 1 ≤ a ∧ a ≤ 14
  · have c1 : decide (1 ≤ a) = true := by simp; omega
    have c2 : decide (a ≤ 14) = true := by simp; omega
    have e1 := sign_full a hc.1 hc.2
    have e2 := sign_eq a b hc.1 hc.2
    clear hc
    go_enter Tryd.func3, Tryd.ntmps3
    go_wp2_with (first | (go_at_call 7; refine (head_calls _ hg).mono ?_; rintro e w1 ⟨rfl, hb1⟩; have hg1 := hg.below hg.size hb1) | (go_at_call 8; refine (sign_calls _ _ hg1).mono ?_; rintro e w2 ⟨rfl, rfl⟩))
    go_ret
    exact ⟨rfl, hb1⟩
  · have e1 := sign_none a (by omega)
    by_cases h1 : 1 ≤ a
    · have c1 : decide (1 ≤ a) = true := by simp; omega
      have c2 : decide (a ≤ 14) = false := by simp; omega
      clear hc
      go_enter Tryd.func3, Tryd.ntmps3
      go_wp2_with (first | (go_at_call 7; refine (head_calls _ hg).mono ?_; rintro e w1 ⟨rfl, hb1⟩; have hg1 := hg.below hg.size hb1) | (go_at_call 8; refine (sign_calls _ _ hg1).mono ?_; rintro e w2 ⟨rfl, rfl⟩))
      go_ret
      exact ⟨rfl, hb1⟩
    · have c1 : decide (1 ≤ a) = false := by simp; omega
      clear hc
      go_enter Tryd.func3, Tryd.ntmps3
      go_wp2_with (first | (go_at_call 7; refine (head_calls _ hg).mono ?_; rintro e w1 ⟨rfl, hb1⟩; have hg1 := hg.below hg.size hb1) | (go_at_call 8; refine (sign_calls _ _ hg1).mono ?_; rintro e w2 ⟨rfl, rfl⟩))
      go_ret
      exact ⟨rfl, hb1⟩
end Go.Proofs.YtpbeplepcbhamaaDoor
