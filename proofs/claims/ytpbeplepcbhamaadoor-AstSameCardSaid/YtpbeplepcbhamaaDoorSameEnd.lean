/- AstSame, all its ways joined. -/
import Derived.Test.YtpbeplepcbhamaaDoorSameLawB
import Derived.Test.YtpbeplepcbhamaaDoorSameLawD
import Derived.Test.YtpbeplepcbhamaaDoorSameLawC
namespace Go.Proofs.YtpbeplepcbhamaaDoor
open Go.RowKit Go.Proofs.YtpbeplepcbhamaaDoorW.PrintWords Go.Proofs.YtpbeplepcbhamaaDoorW.PrintLast Go.Proofs.YtpbeplepcbhamaaDoorW.PrintMore

theorem slims_mk {m : Nat} : ∀ {l : List Expr}, (∀ y, y ∈ l → Slim m y) → Slims m l
  | [], _ => by simp [Slims]
  | x :: r, h => by
    rw [Slims]
    exact ⟨h x (by simp), slims_mk (fun y hy => h y (by simp [hy]))⟩
theorem slim_mk {m : Nat} {x : Expr} (h : x.kids.length ≤ m) (hk : ∀ y, y ∈ x.kids → Slim m y) : Slim m x := by
  cases x
  rw [Slim]
  exact ⟨h, slims_mk hk⟩
theorem few_slim {m : Nat} (hm : 6 ≤ m) (n : Nat) : ∀ (x : Expr), SizeOf.sizeOf x ≤ n → ∀ d, fewE x d = true → Slim m x := by
  induction n with
  | zero =>
    intro x hx
    cases x
    simp at hx
  | succ n ih =>
    intro x hx d h
    rw [fewE_eq] at h
    simp only [Bool.and_eq_true, decide_eq_true_eq, List.all_eq_true] at h
    exact slim_mk (by omega) (fun y hy => ih y (by have := kid_size hy; omega) (d + 1) (h.2.2.2 y hy))
theorem few_name {x : Expr} {d : Int} (h : fewE x d = true) : x.name.size ≤ 40 := by
  rw [fewE_eq] at h
  simp only [Bool.and_eq_true, decide_eq_true_eq, List.all_eq_true] at h
  exact h.2.2.1

/-- WHAT AstSame COMPUTES: true. -/
theorem same_walk (x : Expr) (which n : Int) (cs : List Value) (w : World) (hx : kExpr.K w x cs) (hg : Glob w) :
    Calls Tryd.prog 4 #[.agg cs.toArray, .int .i64 which, .int .i64 n] w fun e w' => e = .returned (.bool true) ∧ Below w.heap.size w w' := by
  cases hf : fewE x 0 with
  | false => exact same_few x which n cs w hx hg hf
  | true =>
    have hsl : Slim 1000000000000 x := few_slim (by decide) _ x (Nat.le_refl _) 0 hf
    by_cases h0 : Go.bits .and .i64 which 7 = 0
    · exact same_kind x which n cs w hx hg hf hsl h0
    by_cases h1 : Go.bits .and .i64 which 7 = 1
    · exact same_num x which n cs w hx hg hf hsl h1
    by_cases h2 : Go.bits .and .i64 which 7 = 2
    · exact same_name x which n cs w hx hg hf hsl h2 (few_name hf)
    by_cases h3 : Go.bits .and .i64 which 7 = 3
    · exact same_op x which n cs w hx hg hf hsl h3
    by_cases h4 : Go.bits .and .i64 which 7 = 4
    · exact same_more x which n cs w hx hg hf hsl h4
    by_cases hk : x.kids = []
    · exact same_bare x which n cs w hx hg hf hsl h0 h1 h2 h3 h4 hk
    · exact same_turned x which n cs w hx hg hf hsl h0 h1 h2 h3 h4 (List.length_pos_iff.2 hk)
end Go.Proofs.YtpbeplepcbhamaaDoor
