/- Statements as text: all of it. -/
import Derived.Test.YtpbeplepcbhamaaDoorStextB
namespace Go.Proofs.YtpbeplepcbhamaaDoor
open Go.RowKit Go.Proofs.YtpbeplepcbhamaaDoorW.PrintWords Go.Proofs.YtpbeplepcbhamaaDoorW.PrintLast Go.Proofs.YtpbeplepcbhamaaDoorW.PrintMore
set_option linter.unusedVariables false
set_option linter.unusedSimpArgs false

theorem thens_size (s : Stmt) : SizeOf.sizeOf s.thens < SizeOf.sizeOf s := by
  cases s
  simp
  omega
theorem elses_size (s : Stmt) : SizeOf.sizeOf s.elses < SizeOf.sizeOf s := by
  cases s
  simp
  omega
/-- WHAT Stmt.Text AND lines COMPUTE. -/
theorem stext_all (m : Nat) : (∀ (s : Stmt), SizeOf.sizeOf s ≤ m → ∀ (d : Int) (cs : List Value) (w : World), kStmt.K w s cs → Glob w → SFit s d.toNat → Calls Tryd.prog 16 #[.agg cs.toArray, .int .i64 d] w fun e w' => e = .returned (.string (bs (stext s d.toNat))) ∧ Below w.heap.size w w') ∧
    (∀ (xs : List Stmt), SizeOf.sizeOf xs ≤ m → ∀ (d : Int) (A : Option Addr) (n c : Nat) (w : World), kStmt.C w A n xs → Glob w → 0 ≤ d → SFits xs d.toNat → (slines xs d.toNat).length ≤ 140737488355328 → Calls Tryd.prog 33 #[.slice A n c, .int .i64 d] w fun e w' => e = .returned (.string (bs (slines xs d.toNat))) ∧ Below w.heap.size w w') := by
  induction m with
  | zero =>
    refine ⟨fun s hs => ?_, fun xs hs => ?_⟩
    · cases s
      simp at hs
    · cases xs <;> simp at hs
  | succ m ih =>
    refine ⟨fun s hs d cs w hK hg hf => ?_, fun xs hs d A n c w hC hg hd hf hl => ?_⟩
    · obtain ⟨hl, hd, hes, hT, hE⟩ := hf.open
      have e1 : ((d.toNat : Int) + 1).toNat = d.toNat + 1 := by omega
      have ihT : (slines s.thens (d.toNat + 1)).length ≤ 140737488355328 → ∀ A n c w, kStmt.C w A n s.thens → Glob w → Calls Tryd.prog 33 #[.slice A n c, .int .i64 ((d.toNat : Int) + 1)] w fun e w' => e = .returned (.string (bs (slines s.thens (d.toNat + 1)))) ∧ Below w.heap.size w w' := by
        intro hx A n c w hC hG
        have := ih.2 s.thens (by have := thens_size s; omega) ((d.toNat : Int) + 1) A n c w hC hG (by omega)
        rw [e1] at this
        exact this hT hx
      have ihE : (slines s.elses (d.toNat + 1)).length ≤ 140737488355328 → ∀ A n c w, kStmt.C w A n s.elses → Glob w → Calls Tryd.prog 33 #[.slice A n c, .int .i64 ((d.toNat : Int) + 1)] w fun e w' => e = .returned (.string (bs (slines s.elses (d.toNat + 1)))) ∧ Below w.heap.size w w' := by
        intro hx A n c w hC hG
        have := ih.2 s.elses (by have := elses_size s; omega) ((d.toNat : Int) + 1) A n c w hC hG (by omega)
        rw [e1] at this
        exact this hE hx
      by_cases h1 : s.does = 1
      · exact st_let s d cs w hK hg hf h1
      by_cases h2 : s.does = 2
      · exact st_set s d cs w hK hg hf h2
      by_cases h3 : s.does = 3
      · exact st_put s d cs w hK hg hf h3
      by_cases h4 : s.does = 4
      · rw [stext_eq, if_neg h1, if_neg h2, if_neg h3, if_pos h4] at hl
        by_cases he : s.elses = []
        · rw [if_pos he] at hl
          simp only [List.length_append] at hl
          exact st_if s d cs w hK hg hf h4 he (ihT (by omega))
        · rw [if_neg he] at hl
          simp only [List.length_append] at hl
          exact st_else s d cs w hK hg hf h4 he (ihT (by omega)) (ihE (by omega))
      by_cases h5 : s.does = 5
      · rw [stext_eq, if_neg h1, if_neg h2, if_neg h3, if_neg h4, if_pos h5] at hl
        simp only [List.length_append] at hl
        exact st_while s d cs w hK hg hf h5 (ihT (by omega))
      by_cases h6 : s.does = 6
      · exact st_ret s d cs w hK hg hf h6
      exact st_run s d cs w hK hg hf h1 h2 h3 h4 h5 h6
    · exact lines_step xs d A n c w hC hg hd hl (fun s hm cs w hK hG => ih.1 s (by have := List.sizeOf_lt_of_mem hm; omega) d cs w hK hG (hf.mem s hm))
theorem stext_any (s : Stmt) (d : Int) (cs : List Value) (w : World) (hK : kStmt.K w s cs) (hg : Glob w) (hf : SFit s d.toNat) : Calls Tryd.prog 16 #[.agg cs.toArray, .int .i64 d] w fun e w' => e = .returned (.string (bs (stext s d.toNat))) ∧ Below w.heap.size w w' := (stext_all _).1 s (Nat.le_refl _) d cs w hK hg hf
theorem slines_any (xs : List Stmt) (d : Int) (A : Option Addr) (n c : Nat) (w : World) (hC : kStmt.C w A n xs) (hg : Glob w) (hd : 0 ≤ d) (hf : SFits xs d.toNat) (hl : (slines xs d.toNat).length ≤ 140737488355328) : Calls Tryd.prog 33 #[.slice A n c, .int .i64 d] w fun e w' => e = .returned (.string (bs (slines xs d.toNat))) ∧ Below w.heap.size w w' := (stext_all _).2 xs (Nat.le_refl _) d A n c w hC hg hd hf hl
end Go.Proofs.YtpbeplepcbhamaaDoor
