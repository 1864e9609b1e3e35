/- AstLines: what it computes, where what came in is of small bulk. -/
import Derived.Test.YtpbeplepcbhamaaDoorBulkS
namespace Go.Proofs.YtpbeplepcbhamaaDoor
open Go.RowKit Go.Proofs.YtpbeplepcbhamaaDoorW.PrintWords Go.Proofs.YtpbeplepcbhamaaDoorW.PrintLast Go.Proofs.YtpbeplepcbhamaaDoorW.PrintMore

theorem lines_all (xs : List Stmt) (deep : Int) (A : Option Addr) (n c : Nat) (w : World) (hx : kStmt.C w A n xs) (hg : Glob w) (hw : ∀ s, s ∈ xs → wS s) (hb : bsum bS xs ≤ 1048576) :
    Calls Tryd.prog 5 #[.slice A n c, .int .i64 deep] w fun e w' => e = .returned (.bool true) ∧ Below w.heap.size w w' := by
  cases hf : fewSs xs 0 with
  | false => exact lines_few xs deep A n c w hx hg hf
  | true =>
    refine lines_walk xs deep A n c w hx hg hf (fun s hs => ?_)
    rw [fewSs_eq] at hf
    simp only [Bool.and_eq_true, decide_eq_true_eq, List.all_eq_true] at hf
    have hfs := hf.2.2 s hs
    have hbs := bsum_mem bS xs s hs
    have h7 := and7 deep
    have hc := cnt_bulk _ s (Nat.le_refl _)
    exact ⟨pfit_of _ s (Nat.le_refl _) (hw s hs) 0 (by decide) hfs (by omega), sfit_of _ s (Nat.le_refl _) (hw s hs) 0 _ hfs (by omega) (by omega), by omega, fun hp => scan_stmt s hp _ h7.1⟩
end Go.Proofs.YtpbeplepcbhamaaDoor
