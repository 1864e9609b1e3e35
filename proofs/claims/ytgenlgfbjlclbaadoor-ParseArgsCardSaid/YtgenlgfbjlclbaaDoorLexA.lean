/- Letters, digits, a number's value: what the lexer's small functions compute. -/
import Derived.Test.YtgenlgfbjlclbaaDoorPure
import Derived.Test.YtgenlgfbjlclbaaDoorText
namespace Go.Proofs.YtgenlgfbjlclbaaDoor
open Go.RowKit Go.Proofs.YtgenlgfbjlclbaaDoorW.PrintWords Go.Proofs.YtgenlgfbjlclbaaDoorW.PrintLast Go.Proofs.YtgenlgfbjlclbaaDoorW.PrintMore
set_option linter.unusedVariables false
set_option linter.unusedSimpArgs false

theorem isLetter_nat (c : UInt8) : isLetter c = ((decide (97 ≤ c.toNat) && decide (c.toNat ≤ 122)) || (decide (65 ≤ c.toNat) && decide (c.toNat ≤ 90)) || decide (c.toNat = 95)) := by
  have h : (c == 95) = decide (c.toNat = 95) := by
    by_cases h : c = 95
    · subst h; rfl
    · have h1 : ¬ c.toNat = 95 := fun e => h (UInt8.toNat_inj.1 e)
      rw [beq_eq_false_iff_ne.2 h, decide_eq_false h1]
  unfold isLetter
  rw [h]
  simp only [UInt8.le_iff_toNat_le]
  rfl
theorem isDigit_nat (c : UInt8) : isDigit c = (decide (48 ≤ c.toNat) && decide (c.toNat ≤ 57)) := by
  unfold isDigit
  simp only [UInt8.le_iff_toNat_le]
  rfl

theorem letter_calls (c : UInt8) (w : World) : Calls Tryd.prog 54 #[.int .u8 c.toNat] w fun e w' => e = .returned (.bool (isLetter c)) ∧ w' = w := by
  have hc := c.toNat_lt
  by_cases a1 : 97 ≤ c.toNat
  · have k1 : decide ((97 : Int) ≤ (c.toNat : Int)) = true := by simp; omega
    by_cases a2 : c.toNat ≤ 122
    · have k2 : decide ((c.toNat : Int) ≤ 122) = true := by simp; omega
      have V := Lib.hid (show isLetter c = true by rw [isLetter_nat, decide_eq_true a1, decide_eq_true a2]; rfl)
      clear a1 a2 hc
      go_enter Tryd.func54, Tryd.ntmps54
      go_wp2
      go_ret
      exact ⟨by rw [V.out]; rfl, rfl⟩
    · have k2 : decide ((c.toNat : Int) ≤ 122) = false := by simp; omega
      have k3 : decide ((65 : Int) ≤ (c.toNat : Int)) = true := by simp; omega
      have k4 : decide ((c.toNat : Int) ≤ 90) = false := by simp; omega
      have k5 : ((c.toNat : Int) == 95) = false := beq_eq_false_iff_ne.2 (by omega)
      have V := Lib.hid (show isLetter c = false by rw [isLetter_nat, decide_eq_false a2, decide_eq_false (show ¬ c.toNat ≤ 90 by omega), decide_eq_false (show ¬ c.toNat = 95 by omega)]; simp)
      clear a1 a2 hc
      go_enter Tryd.func54, Tryd.ntmps54
      go_wp2
      go_ret
      exact ⟨by rw [V.out]; rfl, rfl⟩
  · have k1 : decide ((97 : Int) ≤ (c.toNat : Int)) = false := by simp; omega
    by_cases a3 : 65 ≤ c.toNat
    · have k3 : decide ((65 : Int) ≤ (c.toNat : Int)) = true := by simp; omega
      by_cases a4 : c.toNat ≤ 90
      · have k4 : decide ((c.toNat : Int) ≤ 90) = true := by simp; omega
        have V := Lib.hid (show isLetter c = true by rw [isLetter_nat, decide_eq_true a3, decide_eq_true a4]; simp)
        clear a1 a3 a4 hc
        go_enter Tryd.func54, Tryd.ntmps54
        go_wp2
        go_ret
        exact ⟨by rw [V.out]; rfl, rfl⟩
      · have k4 : decide ((c.toNat : Int) ≤ 90) = false := by simp; omega
        by_cases a5 : c.toNat = 95
        · have k5 : ((c.toNat : Int) == 95) = true := beq_iff_eq.2 (by omega)
          have V := Lib.hid (show isLetter c = true by rw [isLetter_nat, decide_eq_true a5]; simp)
          clear a1 a3 a4 a5 hc
          go_enter Tryd.func54, Tryd.ntmps54
          go_wp2
          go_ret
          exact ⟨by rw [V.out]; rfl, rfl⟩
        · have k5 : ((c.toNat : Int) == 95) = false := beq_eq_false_iff_ne.2 (by omega)
          have V := Lib.hid (show isLetter c = false by rw [isLetter_nat, decide_eq_false a1, decide_eq_false a4, decide_eq_false a5]; simp)
          clear a1 a3 a4 a5 hc
          go_enter Tryd.func54, Tryd.ntmps54
          go_wp2
          go_ret
          exact ⟨by rw [V.out]; rfl, rfl⟩
    · have k3 : decide ((65 : Int) ≤ (c.toNat : Int)) = false := by simp; omega
      have k5 : ((c.toNat : Int) == 95) = false := beq_eq_false_iff_ne.2 (by omega)
      have V := Lib.hid (show isLetter c = false by rw [isLetter_nat, decide_eq_false a1, decide_eq_false a3, decide_eq_false (show ¬ c.toNat = 95 by omega)]; simp)
      clear a1 a3 hc
      go_enter Tryd.func54, Tryd.ntmps54
      go_wp2
      go_ret
      exact ⟨by rw [V.out]; rfl, rfl⟩

theorem digit_calls (c : UInt8) (w : World) : Calls Tryd.prog 56 #[.int .u8 c.toNat] w fun e w' => e = .returned (.bool (isDigit c)) ∧ w' = w := by
  have hc := c.toNat_lt
  by_cases a1 : 48 ≤ c.toNat
  · have k1 : decide ((48 : Int) ≤ (c.toNat : Int)) = true := by simp; omega
    by_cases a2 : c.toNat ≤ 57
    · have k2 : decide ((c.toNat : Int) ≤ 57) = true := by simp; omega
      have V := Lib.hid (show isDigit c = true by rw [isDigit_nat, decide_eq_true a1, decide_eq_true a2]; rfl)
      clear a1 a2 hc
      go_enter Tryd.func56, Tryd.ntmps56
      go_wp2
      go_ret
      exact ⟨by rw [V.out]; rfl, rfl⟩
    · have k2 : decide ((c.toNat : Int) ≤ 57) = false := by simp; omega
      have V := Lib.hid (show isDigit c = false by rw [isDigit_nat, decide_eq_false a2, Bool.and_false])
      clear a1 a2 hc
      go_enter Tryd.func56, Tryd.ntmps56
      go_wp2
      go_ret
      exact ⟨by rw [V.out]; rfl, rfl⟩
  · have k1 : decide ((48 : Int) ≤ (c.toNat : Int)) = false := by simp; omega
    have V := Lib.hid (show isDigit c = false by rw [isDigit_nat, decide_eq_false a1, Bool.false_and])
    clear a1 hc
    go_enter Tryd.func56, Tryd.ntmps56
    go_wp2
    go_ret
    exact ⟨by rw [V.out]; rfl, rfl⟩
end Go.Proofs.YtgenlgfbjlclbaaDoor
