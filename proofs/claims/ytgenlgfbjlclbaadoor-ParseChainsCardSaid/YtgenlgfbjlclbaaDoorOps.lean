/- Marks between expressions: what the parser answers, level by level, over tokens wherever they stand. -/
import Derived.Test.YtgenlgfbjlclbaaDoorNestsLaw
namespace Go.Proofs.YtgenlgfbjlclbaaDoor

/-- The mark that a level finds in a token. -/
def mkL (l : Nat) (c : TC) : Bytes := if c.1 = 4 then ((levelsL.getD l []).find? (fun m => c.2.1 == m)).getD [] else []
theorem At.mkl {s : PS} {d : Int} {c : TC} {cs : List TC} (h : At s d (c :: cs)) (l : Nat) : s.mark (levelsL.getD l []) = mkL l c := by
  obtain ⟨k, t, v⟩ := c
  exact h.mark _
def RestC (l : Nat) (d : Int) (a : Expr) (cs cs' : List TC) (P : Expr → Prop) : Prop := ∀ s, At s d cs → ∃ r, RestE l a s r ∧ P r.1 ∧ At r.2 d cs'
section
variable {l : Nat} {d : Int} {a : Expr} {c : TC} {cs cs' cs'' : List TC} {P Q : Expr → Prop}
theorem expr_u (h : UnaryC d cs cs' P) : ExprC 5 d cs cs' P := fun s hs => by
  obtain ⟨r, h1, h2, h3⟩ := h s hs
  exact ⟨r, expr_top h1, h2, h3⟩
theorem expr_c (hl : l ≠ 5) (h : ExprC (l + 1) d cs cs' P) (h2 : ∀ a, P a → RestC l d a cs' cs'' Q) : ExprC l d cs cs'' Q := fun s hs => by
  obtain ⟨r, h1, hp, h3⟩ := h s hs
  obtain ⟨r2, h4, h5, h6⟩ := h2 _ hp _ h3
  exact ⟨r2, expr_at hl h1 h4, h5, h6⟩
theorem rest_end (hn : mkL l c = []) (hp : P a) : RestC l d a (c :: cs) (c :: cs) P := fun s hs => ⟨(a, s), rest_stop (.inr ((hs.mkl l).trans hn)), hp, hs⟩
theorem expr_lift (hl : l ≠ 5) (h : ExprC (l + 1) d cs (c :: cs') P) (hn : mkL l c = []) : ExprC l d cs (c :: cs') P := expr_c hl h (fun _ hp => rest_end hn hp)
/-- A mark of this level, not one that compares. -/
theorem rest_op {m : Bytes} {v : Int} (hl : l ≠ 2) (hm : mkL l (4, m, v) = m) (hne : m ≠ []) (h : ExprC (l + 1) d cs cs' P) (h2 : ∀ q b, P b → RestC l d (bothL m q a b) cs' cs'' Q) : RestC l d a ((4, m, v) :: cs) cs'' Q := fun s hs => by
  have hk := (hs.mkl l).trans hm
  obtain ⟨r, h1, hp, h3⟩ := h _ (hs.skip (show (4 : Int) ≠ 0 by decide))
  obtain ⟨r2, h4, h5, h6⟩ := h2 s.now.pos _ hp _ h3
  exact ⟨r2, rest_more hs.bad (by rw [hk]; exact hne) h1 (by rw [if_neg hl, hk]; exact h4), h5, h6⟩
/-- A mark that compares: once. -/
theorem rest_cmp {m : Bytes} {v : Int} (hm : mkL 2 (4, m, v) = m) (hne : m ≠ []) (h : ExprC 3 d cs cs' P) (h2 : ∀ q b, P b → Q (bothL m q a b)) : RestC 2 d a ((4, m, v) :: cs) cs' Q := fun s hs => by
  have hk := (hs.mkl 2).trans hm
  obtain ⟨r, h1, hp, h3⟩ := h _ (hs.skip (show (4 : Int) ≠ 0 by decide))
  exact ⟨(bothL m s.now.pos a r.1, r.2), rest_more hs.bad (by rw [hk]; exact hne) h1 (by rw [if_pos rfl, hk]), h2 _ _ hp, h3⟩
end
end Go.Proofs.YtgenlgfbjlclbaaDoor
