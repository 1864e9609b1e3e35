/- The parser's plain functions, with calls enough: what more calls answer; a tree of calls without their number. -/
import Derived.Test.YtgenlgfbjlclbaaDoorPure
namespace Go.Proofs.YtgenlgfbjlclbaaDoor

structure Ps.Le (p q : Ps) : Prop where
  expr : ∀ l s r, p.expr l s = some r → q.expr l s = some r
  rest : ∀ l a s r, p.rest l a s = some r → q.rest l a s = some r
  whole : ∀ s r, p.whole s = some r → q.whole s = some r
  unary : ∀ s r, p.unary s = some r → q.unary s = some r
  primary : ∀ a s r, p.primary a s = some r → q.primary a s = some r
  args : ∀ o s r, p.args o s = some r → q.args o s = some r
  block : ∀ s r, p.block s = some r → q.block s = some r
  stmts : ∀ o s r, p.stmts o s = some r → q.stmts o s = some r
  stmt : ∀ s r, p.stmt s = some r → q.stmt s = some r
  choice : ∀ a s r, p.choice a s = some r → q.choice a s = some r
  turn : ∀ a s r, p.turn a s = some r → q.turn a s = some r
def psStep (p : Ps) : Ps := ⟨psExpr p, psRest p, psWhole p, psUnary p, psPrimary p, psArgs p, psBlock p, psStmts p, psStmt p, psChoice p, psTurn p⟩
theorem ps_succ (n : Nat) : ps (n + 1) = psStep (ps n) := rfl
theorem bind_le {α β : Type} {o o' : Option α} {f g : α → Option β} {r : β} (h : o.bind f = some r) (ho : ∀ y, o = some y → o' = some y) (hf : ∀ y, f y = some r → g y = some r) : o'.bind g = some r := by
  obtain ⟨y, h1, h2⟩ := Option.bind_eq_some_iff.1 h
  rw [ho y h1]
  exact hf y h2
theorem ite_le {α : Type} {c : Prop} [Decidable c] {a b a' b' : Option α} {r : α} (h : (if c then a else b) = some r) (h1 : a = some r → a' = some r) (h2 : b = some r → b' = some r) : (if c then a' else b') = some r := by
  split at h
  · rename_i hc; rw [if_pos hc]; exact h1 h
  · rename_i hc; rw [if_neg hc]; exact h2 h
theorem step_le {p q : Ps} (L : p.Le q) : (psStep p).Le (psStep q) where
  expr l s r h := ite_le h (L.unary _ _) (fun h => bind_le h (fun _ => L.expr _ _ _) (fun _ => L.rest _ _ _ _))
  rest l a s r h := ite_le h id (fun h => ite_le h id (fun h => bind_le h (fun _ => L.expr _ _ _) (fun _ h => ite_le h id (L.rest _ _ _ _))))
  whole s r h := ite_le h (fun h => bind_le h (fun _ => L.expr _ _ _) (fun _ h => h)) id
  unary s r h := ite_le h id (fun h => ite_le h (fun h => ite_le h (fun h => bind_le h (fun _ => L.unary _ _) (fun _ h => h)) id) (L.primary _ _ _))
  primary a s r h := ite_le h id (fun h => ite_le h id (fun h => ite_le h id (fun h => ite_le h (fun h => bind_le h (fun _ => L.whole _ _) (fun _ h => h)) (fun h => ite_le h (fun h => bind_le h (fun _ => L.whole _ _) (fun _ h => h)) (fun h => ite_le h (fun h => bind_le h (fun _ => L.args _ _ _) (fun _ h => h)) id)))))
  args o s r h := ite_le h id (fun h => bind_le h (fun _ => L.whole _ _) (fun _ => L.args _ _ _))
  block s r h := ite_le h (fun h => bind_le h (fun _ => L.stmts _ _ _) (fun _ h => h)) id
  stmts o s r h := ite_le h id (fun h => bind_le h (fun _ => L.stmt _ _) (fun _ => L.stmts _ _ _))
  stmt s r h := ite_le h (fun h => bind_le h (fun _ => L.whole _ _) (fun _ h => h)) (fun h => ite_le h (L.choice _ _ _) (fun h => ite_le h (fun h => bind_le h (fun _ => L.whole _ _) (fun _ h => bind_le h (fun _ => L.block _ _) (fun _ h => h))) (fun h => ite_le h (fun h => bind_le h (fun _ => L.whole _ _) (fun _ h => h)) (fun h => bind_le h (fun _ => L.turn _ _ _) (fun _ h => h)))))
  choice a s r h := bind_le h (fun _ => L.whole _ _) (fun _ h => bind_le h (fun _ => L.block _ _) (fun _ h => ite_le h id (fun h => ite_le h (fun h => bind_le h (fun _ => L.block _ _) (fun _ h => h)) (fun h => ite_le h (fun h => bind_le h (fun _ => L.choice _ _ _) (fun _ h => h)) id))))
  turn a s r h := bind_le h (fun _ => L.whole _ _) (fun y h => ite_le h id (fun h => ite_le h (fun h => bind_le h (fun _ => L.whole _ _) (fun _ h => h)) (fun h => ite_le h (fun h => by
    cases hk : y.1.kids with
    | nil => rw [hk] at h; cases h
    | cons k r' => rw [hk] at h; exact bind_le h (fun _ => L.whole _ _) (fun _ h => h)) (fun h => ite_le h id id))))
theorem none_le (q : Ps) : psNone.Le q := ⟨fun _ _ _ h => (by cases h), fun _ _ _ _ h => (by cases h), fun _ _ h => (by cases h), fun _ _ h => (by cases h), fun _ _ _ h => (by cases h), fun _ _ _ h => (by cases h), fun _ _ h => (by cases h), fun _ _ _ h => (by cases h), fun _ _ h => (by cases h), fun _ _ _ h => (by cases h), fun _ _ _ h => (by cases h)⟩
theorem ps_le : ∀ (n k : Nat), (ps n).Le (ps (n + k))
  | 0, k => none_le _
  | n + 1, k => by
    rw [show n + 1 + k = (n + k) + 1 by omega, ps_succ, ps_succ]
    exact step_le (ps_le n k)
theorem ps_le' {n m : Nat} (h : n ≤ m) : (ps n).Le (ps m) := by
  obtain ⟨k, rfl⟩ : ∃ k, m = n + k := ⟨m - n, by omega⟩
  exact ps_le n k

/-! Calls, whatever their number. -/
def ExprE (l : Nat) (s : PS) (r : Expr × PS) : Prop := ∃ n, (ps n).expr l s = some r
def RestE (l : Nat) (a : Expr) (s : PS) (r : Expr × PS) : Prop := ∃ n, (ps n).rest l a s = some r
def WholeE (s : PS) (r : Expr × PS) : Prop := ∃ n, (ps n).whole s = some r
def UnaryE (s : PS) (r : Expr × PS) : Prop := ∃ n, (ps n).unary s = some r
def PrimE (q : Pos) (s : PS) (r : Expr × PS) : Prop := ∃ n, (ps n).primary q s = some r
def ArgsE (o : List Expr) (s : PS) (r : List Expr × PS) : Prop := ∃ n, (ps n).args o s = some r
def BlockE (s : PS) (r : List Stmt × PS) : Prop := ∃ n, (ps n).block s = some r
def StmtsE (o : List Stmt) (s : PS) (r : List Stmt × PS) : Prop := ∃ n, (ps n).stmts o s = some r
def StmtE (s : PS) (r : Stmt × PS) : Prop := ∃ n, (ps n).stmt s = some r
def ChoiceE (q : Pos) (s : PS) (r : Stmt × PS) : Prop := ∃ n, (ps n).choice q s = some r
def TurnE (q : Pos) (s : PS) (r : Stmt × PS) : Prop := ∃ n, (ps n).turn q s = some r

theorem expr_top {s : PS} {r : Expr × PS} (h : UnaryE s r) : ExprE 5 s r := by
  obtain ⟨n, h⟩ := h
  exact ⟨n + 1, by show psExpr (ps n) 5 s = _; rw [psExpr, if_pos rfl]; exact h⟩
theorem expr_at {l : Nat} {s : PS} {a : Expr × PS} {r : Expr × PS} (hl : l ≠ 5) (h1 : ExprE (l + 1) s a) (h2 : RestE l a.1 a.2 r) : ExprE l s r := by
  obtain ⟨n, h1⟩ := h1
  obtain ⟨m, h2⟩ := h2
  refine ⟨n + m + 1, ?_⟩
  show psExpr (ps (n + m)) l s = _
  rw [psExpr, if_neg hl, (ps_le' (Nat.le_add_right n m)).expr _ _ _ h1]
  exact (ps_le' (Nat.le_add_left m n)).rest _ _ _ _ h2
theorem rest_stop {l : Nat} {a : Expr} {s : PS} (h : s.bad = true ∨ s.mark (levelsL.getD l []) = []) : RestE l a s (a, s) := by
  refine ⟨1, ?_⟩
  show psRest (ps 0) l a s = _
  unfold psRest
  cases hb : s.bad with
  | true => rfl
  | false =>
    have hm := h.resolve_left (by rw [hb]; decide)
    simp only [Bool.false_eq_true, if_false, hm, if_true]
theorem rest_more {l : Nat} {a : Expr} {s : PS} {b : Expr × PS} {r : Expr × PS} (hb : s.bad = false) (hm : s.mark (levelsL.getD l []) ≠ []) (h1 : ExprE (l + 1) s.skip b) (h2 : if l = 2 then r = (bothL (s.mark (levelsL.getD l [])) s.now.pos a b.1, b.2) else RestE l (bothL (s.mark (levelsL.getD l [])) s.now.pos a b.1) b.2 r) : RestE l a s r := by
  obtain ⟨n, h1⟩ := h1
  by_cases hl : l = 2
  · rw [if_pos hl] at h2
    refine ⟨n + 1, ?_⟩
    show psRest (ps n) l a s = _
    unfold psRest
    simp only [hb, Bool.false_eq_true, if_false]
    rw [if_neg hm, h1]
    simp only [Option.bind_some, if_pos hl]
    rw [h2]
  · rw [if_neg hl] at h2
    obtain ⟨m, h2⟩ := h2
    refine ⟨n + m + 1, ?_⟩
    show psRest (ps (n + m)) l a s = _
    unfold psRest
    simp only [hb, Bool.false_eq_true, if_false]
    rw [if_neg hm, (ps_le' (Nat.le_add_right n m)).expr _ _ _ h1]
    simp only [Option.bind_some, if_neg hl]
    exact (ps_le' (Nat.le_add_left m n)).rest _ _ _ _ h2
theorem whole_no {s : PS} (h : s.down.1 = false) : WholeE s (eZ, s.down.2) := ⟨1, by show psWhole (ps 0) s = _; rw [psWhole, if_neg (by rw [h]; decide)]⟩
theorem whole_yes {s : PS} {a : Expr × PS} (h : s.down.1 = true) (h1 : ExprE 0 s.down.2 a) : WholeE s (a.1, a.2.up) := by
  obtain ⟨n, h1⟩ := h1
  exact ⟨n + 1, by show psWhole (ps n) s = _; rw [psWhole, if_pos h, h1]; rfl⟩
theorem unary_bad {s : PS} (h : s.bad = true) : UnaryE s (eZ, s) := ⟨1, by show psUnary (ps 0) s = _; rw [psUnary, if_pos h]⟩
theorem unary_prim {s : PS} {r : Expr × PS} (h : s.bad = false) (h1 : s.isM [33] = false) (h2 : s.isM [45] = false) (h3 : PrimE s.now.pos s r) : UnaryE s r := by
  obtain ⟨n, h3⟩ := h3
  exact ⟨n + 1, by show psUnary (ps n) s = _; rw [psUnary, if_neg (by rw [h]; decide), if_neg (by rw [h1, h2]; decide)]; exact h3⟩
theorem unary_deep {s : PS} (h : s.bad = false) (h1 : (s.isM [33] || s.isM [45]) = true) (h2 : s.down.1 = false) : UnaryE s (eZ, s.down.2) :=
  ⟨1, by show psUnary (ps 0) s = _; rw [psUnary, if_neg (by rw [h]; decide), if_pos h1, if_neg (by rw [h2]; decide)]⟩
theorem unary_sign {s : PS} {a : Expr × PS} (h : s.bad = false) (h1 : (s.isM [33] || s.isM [45]) = true) (h2 : s.down.1 = true) (h3 : UnaryE s.down.2.skip a) :
    UnaryE s (if s.now.text.data.toList = [33] then ⟨9, s.now.pos, 0, ⟨#[]⟩, 0, [a.1]⟩ else ⟨6, s.now.pos, 0, ⟨#[]⟩, 2, [⟨1, s.now.pos, 0, ⟨#[]⟩, 0, []⟩, a.1]⟩, a.2.up) := by
  obtain ⟨n, h3⟩ := h3
  exact ⟨n + 1, by show psUnary (ps n) s = _; rw [psUnary, if_neg (by rw [h]; decide), if_pos h1, if_pos h2, h3]; rfl⟩
theorem prim_of {q : Pos} {s : PS} {r : Expr × PS} {n : Nat} (h : psPrimary (ps n) q s = some r) : PrimE q s r := ⟨n + 1, h⟩
theorem args_stop {o : List Expr} {s : PS} (h : (s.bad || s.isM [41]) = true) : ArgsE o s (o, s.want [41]) := ⟨1, by show psArgs (ps 0) o s = _; rw [psArgs, if_pos h]⟩
theorem args_more {o : List Expr} {s : PS} {a : Expr × PS} {r : List Expr × PS} (h : ¬ (s.bad || s.isM [41]) = true) (h1 : WholeE (if o = [] then s else s.want [44]) a) (h2 : ArgsE (o ++ [a.1]) a.2 r) : ArgsE o s r := by
  obtain ⟨n, h1⟩ := h1
  obtain ⟨m, h2⟩ := h2
  refine ⟨n + m + 1, ?_⟩
  show psArgs (ps (n + m)) o s = _
  rw [psArgs, if_neg h, (ps_le' (Nat.le_add_right n m)).whole _ _ h1]
  exact (ps_le' (Nat.le_add_left m n)).args _ _ _ h2
theorem block_no {s : PS} (h : (s.want [123]).down.1 = false) : BlockE s ([], (s.want [123]).down.2) := ⟨1, by show psBlock (ps 0) s = _; unfold psBlock; simp only []; rw [if_neg (by rw [h]; decide)]⟩
theorem block_yes {s : PS} {a : List Stmt × PS} (h : (s.want [123]).down.1 = true) (h1 : StmtsE [] (s.want [123]).down.2 a) : BlockE s (a.1, a.2.up) := by
  obtain ⟨n, h1⟩ := h1
  exact ⟨n + 1, by show psBlock (ps n) s = _; unfold psBlock; simp only []; rw [if_pos h, h1]; rfl⟩
theorem stmts_stop {o : List Stmt} {s : PS} (h : (s.bad || s.isM [125]) = true) : StmtsE o s (o, s.want [125]) := ⟨1, by show psStmts (ps 0) o s = _; rw [psStmts, if_pos h]⟩
theorem stmts_more {o : List Stmt} {s : PS} {a : Stmt × PS} {r : List Stmt × PS} (h : ¬ (s.bad || s.isM [125]) = true) (h1 : StmtE s a) (h2 : StmtsE (o ++ [a.1]) a.2 r) : StmtsE o s r := by
  obtain ⟨n, h1⟩ := h1
  obtain ⟨m, h2⟩ := h2
  refine ⟨n + m + 1, ?_⟩
  show psStmts (ps (n + m)) o s = _
  rw [psStmts, if_neg h, (ps_le' (Nat.le_add_right n m)).stmt _ _ h1]
  exact (ps_le' (Nat.le_add_left m n)).stmts _ _ _ h2
theorem stmt_let_b {s : PS} {a : Expr × PS} (h : (s.take [108, 101, 116]).1 = true) (h1 : WholeE (s.skip.name.2.want [61]) a) : StmtE s (⟨1, s.now.pos, s.skip.name.1, [a.1], [], []⟩, a.2.want [59]) := by
  obtain ⟨n, h1⟩ := h1
  exact ⟨n + 1, by show psStmt (ps n) s = _; unfold psStmt; simp only []; rw [if_pos h, h1]; rfl⟩
theorem stmt_if_b {s : PS} {r : Stmt × PS} (h : (s.take [108, 101, 116]).1 = false) (h2 : (s.take [105, 102]).1 = true) (h1 : ChoiceE s.now.pos s.skip r) : StmtE s r := by
  obtain ⟨n, h1⟩ := h1
  exact ⟨n + 1, by show psStmt (ps n) s = _; unfold psStmt; simp only []; rw [if_neg (by rw [h]; decide), if_pos h2, h1]⟩
theorem stmt_while_b {s : PS} {a : Expr × PS} {b : List Stmt × PS} (h : (s.take [108, 101, 116]).1 = false) (h2 : (s.take [105, 102]).1 = false) (h3 : (s.take [119, 104, 105, 108, 101]).1 = true) (h1 : WholeE s.skip a) (hb : BlockE a.2 b) : StmtE s (⟨5, s.now.pos, ⟨#[]⟩, [a.1], b.1, []⟩, b.2) := by
  obtain ⟨n, h1⟩ := h1
  obtain ⟨m, hb⟩ := hb
  exact ⟨n + m + 1, by
    show psStmt (ps (n + m)) s = _
    unfold psStmt
    simp only []
    rw [if_neg (by rw [h]; decide), if_neg (by rw [h2]; decide), if_pos h3, (ps_le' (Nat.le_add_right n m)).whole _ _ h1]
    simp only [Option.bind_some]
    rw [(ps_le' (Nat.le_add_left m n)).block _ _ hb]
    rfl⟩
theorem stmt_return_b {s : PS} {a : Expr × PS} (h : (s.take [108, 101, 116]).1 = false) (h2 : (s.take [105, 102]).1 = false) (h3 : (s.take [119, 104, 105, 108, 101]).1 = false) (h4 : (s.take [114, 101, 116, 117, 114, 110]).1 = true) (h1 : WholeE s.skip a) : StmtE s (⟨6, s.now.pos, ⟨#[]⟩, [a.1], [], []⟩, a.2.want [59]) := by
  obtain ⟨n, h1⟩ := h1
  exact ⟨n + 1, by show psStmt (ps n) s = _; unfold psStmt; simp only []; rw [if_neg (by rw [h]; decide), if_neg (by rw [h2]; decide), if_neg (by rw [h3]; decide), if_pos h4, h1]; rfl⟩
theorem stmt_turn_b {s : PS} {a : Stmt × PS} (h : (s.take [108, 101, 116]).1 = false) (h2 : (s.take [105, 102]).1 = false) (h3 : (s.take [119, 104, 105, 108, 101]).1 = false) (h4 : (s.take [114, 101, 116, 117, 114, 110]).1 = false) (h1 : TurnE s.now.pos s a) : StmtE s (a.1, a.2.want [59]) := by
  obtain ⟨n, h1⟩ := h1
  exact ⟨n + 1, by show psStmt (ps n) s = _; unfold psStmt; simp only []; rw [if_neg (by rw [h]; decide), if_neg (by rw [h2]; decide), if_neg (by rw [h3]; decide), if_neg (by rw [h4]; decide), h1]; rfl⟩
theorem choice_none {q : Pos} {s : PS} {a : Expr × PS} {b : List Stmt × PS} (h1 : WholeE s a) (hb : BlockE a.2 b) (h : (b.2.take [101, 108, 115, 101]).1 = false) : ChoiceE q s (⟨4, q, ⟨#[]⟩, [a.1], b.1, []⟩, b.2) := by
  obtain ⟨n, h1⟩ := h1
  obtain ⟨m, hb⟩ := hb
  exact ⟨n + m + 1, by
    show psChoice (ps (n + m)) q s = _
    unfold psChoice
    rw [(ps_le' (Nat.le_add_right n m)).whole _ _ h1]
    simp only [Option.bind_some]
    rw [(ps_le' (Nat.le_add_left m n)).block _ _ hb]
    simp only [Option.bind_some]
    rw [if_pos (by rw [h]; rfl)]⟩
theorem choice_block {q : Pos} {s : PS} {a : Expr × PS} {b c : List Stmt × PS} (h1 : WholeE s a) (hb : BlockE a.2 b) (h : (b.2.take [101, 108, 115, 101]).1 = true) (h2 : (b.2.skip.take [105, 102]).1 = false) (hc : BlockE b.2.skip c) : ChoiceE q s (⟨4, q, ⟨#[]⟩, [a.1], b.1, c.1⟩, c.2) := by
  obtain ⟨n, h1⟩ := h1
  obtain ⟨m, hb⟩ := hb
  obtain ⟨k, hc⟩ := hc
  exact ⟨n + m + k + 1, by
    show psChoice (ps (n + m + k)) q s = _
    unfold psChoice
    rw [(ps_le' (show n ≤ n + m + k by omega)).whole _ _ h1]
    simp only [Option.bind_some]
    rw [(ps_le' (show m ≤ n + m + k by omega)).block _ _ hb]
    simp only [Option.bind_some]
    rw [if_neg (by rw [h]; decide), if_pos (by rw [h2]; rfl), (ps_le' (show k ≤ n + m + k by omega)).block _ _ hc]
    rfl⟩
theorem choice_if {q : Pos} {s : PS} {a : Expr × PS} {b : List Stmt × PS} {c : Stmt × PS} (h1 : WholeE s a) (hb : BlockE a.2 b) (h : (b.2.take [101, 108, 115, 101]).1 = true) (h2 : (b.2.skip.take [105, 102]).1 = true) (h3 : b.2.skip.skip.down.1 = true) (hc : ChoiceE b.2.skip.now.pos b.2.skip.skip.down.2 c) : ChoiceE q s (⟨4, q, ⟨#[]⟩, [a.1], b.1, [c.1]⟩, c.2.up) := by
  obtain ⟨n, h1⟩ := h1
  obtain ⟨m, hb⟩ := hb
  obtain ⟨k, hc⟩ := hc
  exact ⟨n + m + k + 1, by
    show psChoice (ps (n + m + k)) q s = _
    unfold psChoice
    rw [(ps_le' (show n ≤ n + m + k by omega)).whole _ _ h1]
    simp only [Option.bind_some]
    rw [(ps_le' (show m ≤ n + m + k by omega)).block _ _ hb]
    simp only [Option.bind_some]
    rw [if_neg (by rw [h]; decide), if_neg (by rw [h2]; decide), if_pos h3, (ps_le' (show k ≤ n + m + k by omega)).choice _ _ _ hc]
    rfl⟩
theorem choice_deep_b {q : Pos} {s : PS} {a : Expr × PS} {b : List Stmt × PS} (h1 : WholeE s a) (hb : BlockE a.2 b) (h : (b.2.take [101, 108, 115, 101]).1 = true) (h2 : (b.2.skip.take [105, 102]).1 = true) (h3 : b.2.skip.skip.down.1 = false) : ChoiceE q s (⟨4, q, ⟨#[]⟩, [a.1], b.1, []⟩, b.2.skip.skip.down.2) := by
  obtain ⟨n, h1⟩ := h1
  obtain ⟨m, hb⟩ := hb
  exact ⟨n + m + 1, by
    show psChoice (ps (n + m)) q s = _
    unfold psChoice
    rw [(ps_le' (Nat.le_add_right n m)).whole _ _ h1]
    simp only [Option.bind_some]
    rw [(ps_le' (Nat.le_add_left m n)).block _ _ hb]
    simp only [Option.bind_some]
    rw [if_neg (by rw [h]; decide), if_neg (by rw [h2]; decide), if_neg (by rw [h3]; decide)]⟩
theorem turn_bad' {q : Pos} {s : PS} {a : Expr × PS} (h1 : WholeE s a) (h : a.2.bad = true) : TurnE q s (sAt q, a.2) := by
  obtain ⟨n, h1⟩ := h1
  exact ⟨n + 1, by show psTurn (ps n) q s = _; unfold psTurn; rw [h1]; simp only [Option.bind_some]; rw [if_pos h]⟩
theorem turn_call' {q : Pos} {s : PS} {a : Expr × PS} (h1 : WholeE s a) (h : a.2.bad = false) (hk : a.1.kind = 5) : TurnE q s (⟨7, q, ⟨#[]⟩, [a.1], [], []⟩, a.2) := by
  obtain ⟨n, h1⟩ := h1
  exact ⟨n + 1, by
    show psTurn (ps n) q s = _
    unfold psTurn
    rw [h1]
    simp only [Option.bind_some]
    rw [if_neg (by rw [h]; decide), if_neg (fun h => by have := h.1; omega), if_neg (fun h => by have := h.1; omega), if_pos hk]⟩
theorem turn_var' {q : Pos} {s : PS} {a b : Expr × PS} (h1 : WholeE s a) (h : a.2.bad = false) (hk : a.1.kind = 3) (h2 : (a.2.take [61]).1 = true) (h3 : WholeE a.2.skip b) : TurnE q s (⟨2, q, a.1.name, [b.1], [], []⟩, b.2) := by
  obtain ⟨n, h1⟩ := h1
  obtain ⟨m, h3⟩ := h3
  exact ⟨n + m + 1, by
    show psTurn (ps (n + m)) q s = _
    unfold psTurn
    rw [(ps_le' (Nat.le_add_right n m)).whole _ _ h1]
    simp only [Option.bind_some]
    rw [if_neg (by rw [h]; decide), if_pos ⟨hk, h2⟩, (ps_le' (Nat.le_add_left m n)).whole _ _ h3]
    rfl⟩
theorem turn_at' {q : Pos} {s : PS} {a b : Expr × PS} {k : Expr} {r : List Expr} (h1 : WholeE s a) (h : a.2.bad = false) (hk : a.1.kind = 4) (hr : a.1.kids = k :: r) (h2 : (a.2.take [61]).1 = true) (h3 : WholeE a.2.skip b) : TurnE q s (⟨3, q, a.1.name, [k, b.1], [], []⟩, b.2) := by
  obtain ⟨n, h1⟩ := h1
  obtain ⟨m, h3⟩ := h3
  exact ⟨n + m + 1, by
    show psTurn (ps (n + m)) q s = _
    unfold psTurn
    rw [(ps_le' (Nat.le_add_right n m)).whole _ _ h1]
    simp only [Option.bind_some]
    rw [if_neg (by rw [h]; decide), if_neg (fun h => by have := h.1; omega), if_pos ⟨hk, h2⟩, hr]
    simp only []
    rw [(ps_le' (Nat.le_add_left m n)).whole _ _ h3]
    rfl⟩
end Go.Proofs.YtgenlgfbjlclbaaDoor
/-! The parser ends: so many calls are enough for so many tokens. -/
namespace Go.Proofs.YtgenlgfbjlclbaaDoor

/-- What is left to read: none behind an error. -/
def mu (s : PS) : Nat := if s.bad then 0 else s.ts.length + 1
theorem mu_bad {s : PS} (h : s.bad = true) : mu s = 0 := by rw [mu, if_pos h]
theorem mu_pos {s : PS} (h : s.bad = false) : 1 ≤ mu s := by rw [mu, if_neg (by rw [h]; decide)]; omega
theorem bad_mu {s : PS} (h : mu s = 0) : s.bad = true := by
  cases hb : s.bad with
  | true => rfl
  | false => have := mu_pos hb; omega
theorem fail_bad (s : PS) (e : Int) (he : e ≠ 0) : (s.fail e).bad = true := by
  unfold PS.fail
  split
  · exact bne_iff_ne.2 he
  · rename_i h; exact bne_iff_ne.2 h
theorem mu_fail (s : PS) (e : Int) (he : e ≠ 0) : mu (s.fail e) = 0 := mu_bad (fail_bad s e he)
theorem bad_fail' {s : PS} (h : s.bad = true) (e : Int) : s.fail e = s := by
  unfold PS.fail
  rw [if_neg (by simpa [PS.bad] using h)]
theorem mu_skip_le (s : PS) : mu s.skip ≤ mu s := by
  unfold PS.skip
  split
  · exact Nat.le_refl _
  · unfold mu
    show (if s.bad then 0 else s.ts.tail.length + 1) ≤ _
    cases s.bad <;> simp
theorem mu_skip {s : PS} (hb : s.bad = false) (h : s.now.kind ≠ 0) : mu s.skip + 1 = mu s := by
  unfold PS.skip
  rw [if_neg h]
  unfold mu
  show (if s.bad then 0 else s.ts.tail.length + 1) + 1 = _
  rw [hb]
  cases ht : s.ts with
  | nil => exact absurd (show s.now.kind = 0 by unfold PS.now; rw [ht]; rfl) h
  | cons a r => simp
theorem bad_skip_eq (s : PS) : s.skip.bad = s.bad := by unfold PS.skip; split <;> rfl
theorem isM_kind {s : PS} {m : Bytes} (h : s.isM m = true) : s.now.kind ≠ 0 := by
  unfold PS.isM at h
  intro h0
  rw [h0] at h
  simp at h
theorem take_bad {s : PS} {m : Bytes} (h : (s.take m).1 = true) : s.bad = false ∧ s.isM m = true := by
  unfold PS.take at h
  split at h
  · cases h
  · rename_i hx
    cases hb : s.bad with
    | true => rw [hb] at hx; exact absurd rfl hx
    | false =>
      rw [hb] at hx
      exact ⟨rfl, by simpa using hx⟩
theorem take_mu {s : PS} {m : Bytes} (h : (s.take m).1 = true) : mu s.skip + 1 = mu s := mu_skip (take_bad h).1 (isM_kind (take_bad h).2)
theorem want_mu (s : PS) (m : Bytes) : mu (s.want m) ≤ mu s ∧ (s.bad = false → mu (s.want m) + 1 ≤ mu s) := by
  unfold PS.want
  split
  · rw [mu_fail _ _ (by decide)]
    exact ⟨Nat.zero_le _, fun h => mu_pos h⟩
  · rename_i hx
    have hb : s.bad = false ∧ s.isM m = true := by
      cases hb : s.bad with
      | true => rw [hb] at hx; exact absurd rfl hx
      | false => rw [hb] at hx; exact ⟨rfl, by simpa using hx⟩
    have := mu_skip hb.1 (isM_kind hb.2)
    exact ⟨by omega, fun _ => by omega⟩
theorem name_mu (s : PS) : mu s.name.2 ≤ mu s ∧ (s.bad = false → mu s.name.2 + 1 ≤ mu s) := by
  unfold PS.name
  split
  · show mu (s.fail 12) ≤ mu s ∧ _
    rw [mu_fail _ _ (by decide)]
    exact ⟨Nat.zero_le _, fun h => mu_pos h⟩
  · rename_i hx
    have hb : s.bad = false ∧ s.now.kind ≠ 0 := by
      cases hb : s.bad with
      | true => rw [hb] at hx; exact absurd rfl hx
      | false =>
        rw [hb] at hx
        refine ⟨rfl, fun h0 => hx ?_⟩
        rw [h0]
        rfl
    have := mu_skip hb.1 hb.2
    exact ⟨by show mu s.skip ≤ _; omega, fun _ => by show mu s.skip + 1 ≤ _; omega⟩
theorem down_mu (s : PS) : (s.down.1 = true → mu s.down.2 = mu s ∧ s.bad = false ∧ s.down.2.now = s.now ∧ s.down.2.bad = false) ∧ (s.down.1 = false → mu s.down.2 = 0) := by
  unfold PS.down
  split
  · rename_i hb
    exact ⟨fun h => (by cases h), fun _ => mu_bad hb⟩
  · rename_i hb
    split
    · exact ⟨fun h => (by cases h), fun _ => mu_fail _ _ (by decide)⟩
    · exact ⟨fun _ => ⟨rfl, by simpa using hb, rfl, (show s.bad = false by simpa using hb)⟩, fun h => (by cases h)⟩
theorem up_mu (s : PS) : mu s.up = mu s := rfl
theorem mark_kind {s : PS} {ms : List Bytes} (h : s.mark ms ≠ []) : s.now.kind ≠ 0 := by
  intro h0
  apply h
  unfold PS.mark
  rw [h0]
  have : ∀ l : List Bytes, (l.find? fun m => ((0 : Int) == 4) && s.now.text.data.toList == m) = none := by
    intro l
    rw [List.find?_eq_none]
    intro x _
    simp
  rw [this]
  rfl

/-- An element has its index. -/
def GE (x : Expr) : Prop := x.kind = 4 → x.kids ≠ []
theorem ge_both (m : Bytes) (q : Pos) (a b : Expr) : GE (bothL m q a b) := by
  unfold bothL GE
  split
  · exact fun h => absurd h (by show ¬ (7 : Int) = 4; decide)
  · split
    · exact fun h => absurd h (by show ¬ (8 : Int) = 4; decide)
    · exact fun h => absurd h (by show ¬ (6 : Int) = 4; decide)
theorem ge_eZ : GE eZ := fun h => absurd h (by decide)
theorem ge_kind {x : Expr} (h : x.kind ≠ 4) : GE x := fun h' => absurd h' h

/-- With n calls a part of the parser answers at s: less is left. -/
structure Ends (n : Nat) (p : Ps) : Prop where
  whole : ∀ s, 13 * mu s + 9 ≤ n → ∃ r, p.whole s = some r ∧ mu r.2 ≤ mu s ∧ (s.bad = false → mu r.2 + 1 ≤ mu s) ∧ GE r.1
  expr : ∀ l s, l ≤ 5 → 13 * mu s + (8 - l) ≤ n → ∃ r, p.expr l s = some r ∧ mu r.2 ≤ mu s ∧ (s.bad = false → mu r.2 + 1 ≤ mu s) ∧ GE r.1
  rest : ∀ l a s, l < 5 → GE a → 13 * mu s + 1 ≤ n → ∃ r, p.rest l a s = some r ∧ mu r.2 ≤ mu s ∧ GE r.1
  unary : ∀ s, 13 * mu s + 2 ≤ n → ∃ r, p.unary s = some r ∧ mu r.2 ≤ mu s ∧ (s.bad = false → mu r.2 + 1 ≤ mu s) ∧ GE r.1
  primary : ∀ q s, s.bad = false → 13 * mu s + 1 ≤ n → ∃ r, p.primary q s = some r ∧ mu r.2 + 1 ≤ mu s ∧ GE r.1
  args : ∀ o s, 13 * mu s + 10 ≤ n → ∃ r, p.args o s = some r ∧ mu r.2 ≤ mu s
  block : ∀ s, 13 * mu s + 1 ≤ n → ∃ r, p.block s = some r ∧ mu r.2 ≤ mu s
  stmts : ∀ o s, 13 * mu s + 12 ≤ n → ∃ r, p.stmts o s = some r ∧ mu r.2 ≤ mu s
  stmt : ∀ s, 13 * mu s + 11 ≤ n → ∃ r, p.stmt s = some r ∧ mu r.2 ≤ mu s ∧ (s.bad = false → mu r.2 + 1 ≤ mu s)
  choice : ∀ q s, 13 * mu s + 10 ≤ n → ∃ r, p.choice q s = some r ∧ mu r.2 ≤ mu s ∧ (s.bad = false → mu r.2 + 1 ≤ mu s)
  turn : ∀ q s, 13 * mu s + 10 ≤ n → ∃ r, p.turn q s = some r ∧ mu r.2 ≤ mu s ∧ (s.bad = false → mu r.2 + 1 ≤ mu s)

theorem ends_succ {n : Nat} {p : Ps} (E : Ends n p) : Ends (n + 1) (psStep p) where
  whole s hn := by
    show ∃ r, psWhole p s = some r ∧ _
    unfold psWhole
    have hd := down_mu s
    cases h : s.down.1 with
    | true =>
      obtain ⟨h1, h2, h3, h4⟩ := hd.1 h
      rw [if_pos rfl]
      obtain ⟨r, e, m1, m2, g⟩ := E.expr 0 s.down.2 (by omega) (by omega)
      rw [e]
      have := m2 h4
      exact ⟨_, rfl, by show mu r.2.up ≤ _; rw [up_mu]; omega, fun _ => by show mu r.2.up + 1 ≤ _; rw [up_mu]; omega, g⟩
    | false =>
      rw [if_neg (by decide)]
      have := hd.2 h
      exact ⟨_, rfl, by show mu s.down.2 ≤ _; omega, fun hb => by have := mu_pos hb; show mu s.down.2 + 1 ≤ _; omega, ge_eZ⟩
  expr l s hl hn := by
    show ∃ r, psExpr p l s = some r ∧ _
    unfold psExpr
    by_cases h : l = 5
    · rw [if_pos h]
      exact E.unary s (by omega)
    · rw [if_neg h]
      obtain ⟨r, e, m1, m2, g⟩ := E.expr (l + 1) s (by omega) (by omega)
      rw [e]
      simp only [Option.bind_some]
      cases hb : s.bad with
      | true =>
        have h0 := mu_bad hb
        obtain ⟨r2, e2, k1, g2⟩ := E.rest l r.1 r.2 (by omega) g (by omega)
        exact ⟨r2, e2, by omega, fun h => (by cases h), g2⟩
      | false =>
        have := m2 hb
        obtain ⟨r2, e2, k1, g2⟩ := E.rest l r.1 r.2 (by omega) g (by omega)
        exact ⟨r2, e2, by omega, fun _ => by omega, g2⟩
  rest l a s hl ga hn := by
    show ∃ r, psRest p l a s = some r ∧ _
    unfold psRest
    cases hb : s.bad with
    | true => exact ⟨_, rfl, Nat.le_refl _, ga⟩
    | false =>
      simp only [Bool.false_eq_true, if_false]
      by_cases hm : s.mark (levelsL.getD l []) = []
      · rw [if_pos hm]
        exact ⟨_, rfl, Nat.le_refl _, ga⟩
      · rw [if_neg hm]
        have hk := mu_skip hb (mark_kind hm)
        obtain ⟨r, e, m1, m2, g⟩ := E.expr (l + 1) s.skip (by omega) (by omega)
        rw [e]
        simp only [Option.bind_some]
        by_cases h2 : l = 2
        · rw [if_pos h2]
          exact ⟨_, rfl, by show mu r.2 ≤ _; omega, ge_both _ _ _ _⟩
        · rw [if_neg h2]
          obtain ⟨r2, e2, k1, g2⟩ := E.rest l (bothL (s.mark (levelsL.getD l [])) s.now.pos a r.1) r.2 hl (ge_both _ _ _ _) (by omega)
          exact ⟨r2, e2, by omega, g2⟩
  unary s hn := by
    show ∃ r, psUnary p s = some r ∧ _
    unfold psUnary
    cases hb : s.bad with
    | true => exact ⟨_, rfl, Nat.le_refl _, fun h => (by cases h), ge_eZ⟩
    | false =>
      simp only [Bool.false_eq_true, if_false]
      cases hs : (s.isM [33] || s.isM [45]) with
      | true =>
        rw [if_pos rfl]
        have hk0 : s.now.kind ≠ 0 := by
          rcases Bool.or_eq_true _ _ ▸ hs with h | h
          · exact isM_kind h
          · exact isM_kind h
        have hd := down_mu s
        cases h : s.down.1 with
        | true =>
          rw [if_pos rfl]
          obtain ⟨h1, h2, h3, h4⟩ := hd.1 h
          have hk := mu_skip h4 (by rw [h3]; exact hk0)
          obtain ⟨r, e, m1, m2, g⟩ := E.unary s.down.2.skip (by omega)
          rw [e]
          refine ⟨_, rfl, by show mu r.2.up ≤ _; rw [up_mu]; omega, fun _ => by show mu r.2.up + 1 ≤ _; rw [up_mu]; omega, ?_⟩
          show GE (if s.now.text.data.toList = [33] then _ else _)
          split
          · exact ge_kind (by show ¬ (9 : Int) = 4; decide)
          · exact ge_kind (by show ¬ (6 : Int) = 4; decide)
        | false =>
          rw [if_neg (by decide)]
          have := hd.2 h
          exact ⟨_, rfl, by show mu s.down.2 ≤ _; omega, fun _ => by have := mu_pos hb; show mu s.down.2 + 1 ≤ _; omega, ge_eZ⟩
      | false =>
        rw [if_neg (by decide)]
        obtain ⟨r, e, m, g⟩ := E.primary s.now.pos s hb (by omega)
        exact ⟨r, e, by omega, fun _ => m, g⟩
  primary q s hb hn := by
    show ∃ r, psPrimary p q s = some r ∧ _
    unfold psPrimary
    by_cases hk : s.now.kind = 2
    · rw [if_pos hk]
      have := mu_skip hb (by omega)
      exact ⟨_, rfl, by show mu s.skip + 1 ≤ _; omega, ge_kind (by show ¬ (1 : Int) = 4; decide)⟩
    · rw [if_neg hk]
      cases h1 : (s.take [116, 114, 117, 101]).1 with
      | true =>
        rw [if_pos rfl]
        have := take_mu h1
        exact ⟨_, rfl, by show mu s.skip + 1 ≤ _; omega, ge_kind (by show ¬ (2 : Int) = 4; decide)⟩
      | false =>
      rw [if_neg (by decide)]
      cases h2 : (s.take [102, 97, 108, 115, 101]).1 with
      | true =>
        rw [if_pos rfl]
        have := take_mu h2
        exact ⟨_, rfl, by show mu s.skip + 1 ≤ _; omega, ge_kind (by show ¬ (2 : Int) = 4; decide)⟩
      | false =>
      rw [if_neg (by decide)]
      cases h3 : (s.take [40]).1 with
      | true =>
        rw [if_pos rfl]
        have := take_mu h3
        obtain ⟨r, e, m1, m2, g⟩ := E.whole s.skip (by omega)
        rw [e]
        have hw := want_mu r.2 [41]
        exact ⟨_, rfl, by show mu (r.2.want [41]) + 1 ≤ _; omega, g⟩
      | false =>
      rw [if_neg (by decide)]
      have hnm := (name_mu s).2 hb
      simp only []
      cases h4 : (s.name.2.take [91]).1 with
      | true =>
        rw [if_pos rfl]
        have := take_mu h4
        obtain ⟨r, e, m1, m2, g⟩ := E.whole s.name.2.skip (by omega)
        rw [e]
        have hw := want_mu r.2 [93]
        exact ⟨_, rfl, by show mu (r.2.want [93]) + 1 ≤ _; omega, fun _ => by simp⟩
      | false =>
      rw [if_neg (by decide)]
      cases h5 : (s.name.2.take [40]).1 with
      | true =>
        rw [if_pos rfl]
        have := take_mu h5
        obtain ⟨r, e, m1⟩ := E.args [] s.name.2.skip (by omega)
        rw [e]
        exact ⟨_, rfl, by show mu r.2 + 1 ≤ _; omega, ge_kind (by show ¬ (5 : Int) = 4; decide)⟩
      | false =>
      rw [if_neg (by decide)]
      exact ⟨_, rfl, by show mu s.name.2 + 1 ≤ _; omega, ge_kind (by show ¬ (3 : Int) = 4; decide)⟩
  args o s hn := by
    show ∃ r, psArgs p o s = some r ∧ _
    unfold psArgs
    cases h : (s.bad || s.isM [41]) with
    | true => rw [if_pos rfl]; exact ⟨_, rfl, (want_mu s [41]).1⟩
    | false =>
      rw [if_neg (by decide)]
      have hb : s.bad = false := by cases hb : s.bad <;> rw [hb] at h <;> simp_all
      by_cases ho : o = []
      · rw [if_pos ho]
        obtain ⟨r, e, m1, m2, g⟩ := E.whole s (by omega)
        rw [e]
        have := m2 hb
        obtain ⟨r2, e2, k⟩ := E.args (o ++ [r.1]) r.2 (by omega)
        exact ⟨r2, e2, by omega⟩
      · rw [if_neg ho]
        have hw := (want_mu s [44]).2 hb
        obtain ⟨r, e, m1, m2, g⟩ := E.whole (s.want [44]) (by omega)
        rw [e]
        obtain ⟨r2, e2, k⟩ := E.args (o ++ [r.1]) r.2 (by omega)
        exact ⟨r2, e2, by omega⟩
  block s hn := by
    show ∃ r, psBlock p s = some r ∧ _
    unfold psBlock
    simp only []
    have hw := want_mu s [123]
    have hd := down_mu (s.want [123])
    cases h : (s.want [123]).down.1 with
    | true =>
      rw [if_pos rfl]
      obtain ⟨h1, h2, h3, h4⟩ := hd.1 h
      have hsb : s.bad = false := by
        cases hb : s.bad with
        | false => rfl
        | true =>
          have : mu (s.want [123]) = 0 := by have := hw.1; rw [mu_bad hb] at this; omega
          have := bad_mu this
          rw [h2] at this
          cases this
      have := hw.2 hsb
      obtain ⟨r, e, m⟩ := E.stmts [] (s.want [123]).down.2 (by omega)
      rw [e]
      exact ⟨_, rfl, by show mu r.2.up ≤ _; rw [up_mu]; omega⟩
    | false =>
      rw [if_neg (by decide)]
      have := hd.2 h
      exact ⟨_, rfl, by show mu (s.want [123]).down.2 ≤ _; omega⟩
  stmts o s hn := by
    show ∃ r, psStmts p o s = some r ∧ _
    unfold psStmts
    cases h : (s.bad || s.isM [125]) with
    | true => rw [if_pos rfl]; exact ⟨_, rfl, (want_mu s [125]).1⟩
    | false =>
      rw [if_neg (by decide)]
      have hb : s.bad = false := by cases hb : s.bad <;> rw [hb] at h <;> simp_all
      obtain ⟨r, e, m1, m2⟩ := E.stmt s (by omega)
      rw [e]
      have := m2 hb
      obtain ⟨r2, e2, k⟩ := E.stmts (o ++ [r.1]) r.2 (by omega)
      exact ⟨r2, e2, by omega⟩
  stmt s hn := by
    show ∃ r, psStmt p s = some r ∧ _
    unfold psStmt
    simp only []
    cases h1 : (s.take [108, 101, 116]).1 with
    | true =>
      rw [if_pos rfl]
      have := take_mu h1
      have hnm := (name_mu s.skip).1
      have hw := (want_mu s.skip.name.2 [61]).1
      obtain ⟨r, e, m1, m2, g⟩ := E.whole (s.skip.name.2.want [61]) (by omega)
      rw [e]
      have hw2 := (want_mu r.2 [59]).1
      exact ⟨_, rfl, by show mu (r.2.want [59]) ≤ _; omega, fun _ => by show mu (r.2.want [59]) + 1 ≤ _; omega⟩
    | false =>
    rw [if_neg (by decide)]
    cases h2 : (s.take [105, 102]).1 with
    | true =>
      rw [if_pos rfl]
      have := take_mu h2
      obtain ⟨r, e, m1, m2⟩ := E.choice s.now.pos s.skip (by omega)
      exact ⟨r, e, by omega, fun _ => by omega⟩
    | false =>
    rw [if_neg (by decide)]
    cases h3 : (s.take [119, 104, 105, 108, 101]).1 with
    | true =>
      rw [if_pos rfl]
      have := take_mu h3
      obtain ⟨r, e, m1, m2, g⟩ := E.whole s.skip (by omega)
      rw [e]
      simp only [Option.bind_some]
      obtain ⟨b, e2, k⟩ := E.block r.2 (by omega)
      rw [e2]
      exact ⟨_, rfl, by show mu b.2 ≤ _; omega, fun _ => by show mu b.2 + 1 ≤ _; omega⟩
    | false =>
    rw [if_neg (by decide)]
    cases h4 : (s.take [114, 101, 116, 117, 114, 110]).1 with
    | true =>
      rw [if_pos rfl]
      have := take_mu h4
      obtain ⟨r, e, m1, m2, g⟩ := E.whole s.skip (by omega)
      rw [e]
      have hw2 := (want_mu r.2 [59]).1
      exact ⟨_, rfl, by show mu (r.2.want [59]) ≤ _; omega, fun _ => by show mu (r.2.want [59]) + 1 ≤ _; omega⟩
    | false =>
    rw [if_neg (by decide)]
    obtain ⟨r, e, m1, m2⟩ := E.turn s.now.pos s (by omega)
    rw [e]
    have hw2 := (want_mu r.2 [59]).1
    exact ⟨_, rfl, by show mu (r.2.want [59]) ≤ _; omega, fun hb => by have := m2 hb; show mu (r.2.want [59]) + 1 ≤ _; omega⟩
  choice q s hn := by
    show ∃ r, psChoice p q s = some r ∧ _
    unfold psChoice
    obtain ⟨r, e, m1, m2, g⟩ := E.whole s (by omega)
    rw [e]
    simp only [Option.bind_some]
    obtain ⟨b, e2, k⟩ := E.block r.2 (by omega)
    rw [e2]
    simp only [Option.bind_some]
    cases h1 : (b.2.take [101, 108, 115, 101]).1 with
    | false => exact ⟨_, rfl, by show mu b.2 ≤ _; omega, fun hb => by have := m2 hb; show mu b.2 + 1 ≤ _; omega⟩
    | true =>
      have t1 := take_mu h1
      simp only [Bool.not_true, Bool.false_eq_true, if_false]
      cases h2 : (b.2.skip.take [105, 102]).1 with
      | false =>
        simp only [Bool.not_false, if_true]
        obtain ⟨c, e3, k3⟩ := E.block b.2.skip (by omega)
        rw [e3]
        exact ⟨_, rfl, by show mu c.2 ≤ _; omega, fun hb => by have := m2 hb; show mu c.2 + 1 ≤ _; omega⟩
      | true =>
        have t2 := take_mu h2
        simp only [Bool.not_true, Bool.false_eq_true, if_false]
        have hd := down_mu b.2.skip.skip
        cases h3 : b.2.skip.skip.down.1 with
        | true =>
          rw [if_pos rfl]
          obtain ⟨d1, d2, d3, d4⟩ := hd.1 h3
          obtain ⟨c, e3, k3, k4⟩ := E.choice b.2.skip.now.pos b.2.skip.skip.down.2 (by omega)
          rw [e3]
          exact ⟨_, rfl, by show mu c.2.up ≤ _; rw [up_mu]; omega, fun hb => by have := m2 hb; show mu c.2.up + 1 ≤ _; rw [up_mu]; omega⟩
        | false =>
          rw [if_neg (by decide)]
          have := hd.2 h3
          exact ⟨_, rfl, by show mu b.2.skip.skip.down.2 ≤ _; omega, fun hb => by have := mu_pos hb; show mu b.2.skip.skip.down.2 + 1 ≤ _; omega⟩
  turn q s hn := by
    show ∃ r, psTurn p q s = some r ∧ _
    unfold psTurn
    obtain ⟨r, e, m1, m2, g⟩ := E.whole s (by omega)
    rw [e]
    simp only [Option.bind_some]
    cases hb : r.2.bad with
    | true => rw [if_pos rfl]; exact ⟨_, rfl, m1, m2⟩
    | false =>
      rw [if_neg (by decide)]
      by_cases h3 : r.1.kind = 3 ∧ (r.2.take [61]).1 = true
      · rw [if_pos h3]
        have t := take_mu h3.2
        obtain ⟨b, e2, k1, k2, g2⟩ := E.whole r.2.skip (by omega)
        rw [e2]
        exact ⟨_, rfl, by show mu b.2 ≤ _; omega, fun hb => by have := m2 hb; show mu b.2 + 1 ≤ _; omega⟩
      · rw [if_neg h3]
        by_cases h4 : r.1.kind = 4 ∧ (r.2.take [61]).1 = true
        · rw [if_pos h4]
          have hk := g h4.1
          cases hkd : r.1.kids with
          | nil => exact absurd hkd hk
          | cons k kr =>
            have t := take_mu h4.2
            obtain ⟨b, e2, k1, k2, g2⟩ := E.whole r.2.skip (by omega)
            simp only []
            rw [e2]
            exact ⟨_, rfl, by show mu b.2 ≤ _; omega, fun hb => by have := m2 hb; show mu b.2 + 1 ≤ _; omega⟩
        · rw [if_neg h4]
          by_cases h5 : r.1.kind = 5
          · rw [if_pos h5]; exact ⟨_, rfl, m1, m2⟩
          · rw [if_neg h5]
            refine ⟨_, rfl, ?_, fun hb => ?_⟩
            · show mu (r.2.fail 12) ≤ _; rw [mu_fail _ _ (by decide)]; omega
            · have := mu_pos hb; show mu (r.2.fail 12) + 1 ≤ _; rw [mu_fail _ _ (by decide)]; omega
theorem ends_all : ∀ n, Ends n (ps n)
  | 0 => ⟨fun _ h => by omega, fun l _ hl h => by omega, fun _ _ _ _ _ h => by omega, fun _ h => by omega, fun _ _ _ h => by omega, fun _ _ h => by omega, fun _ h => by omega, fun _ _ h => by omega, fun _ h => by omega, fun _ _ h => by omega, fun _ _ h => by omega⟩
  | n + 1 => ends_succ (ends_all n)
theorem paramsF_ends : ∀ (n : Nat) (o : List ByteArray) (s : PS), mu s + 1 ≤ n → ∃ r, paramsF n o s = some r ∧ mu r.2 ≤ mu s
  | 0, _, _, h => by omega
  | n + 1, o, s, h => by
    unfold paramsF
    cases hx : (s.bad || s.isM [41]) with
    | true => rw [if_pos rfl]; exact ⟨_, rfl, (want_mu s [41]).1⟩
    | false =>
      rw [if_neg (by decide)]
      have hb : s.bad = false := by cases hb : s.bad <;> rw [hb] at hx <;> simp_all
      simp only []
      by_cases ho : o = []
      · rw [if_pos ho]
        have h1 := (name_mu s).2 hb
        obtain ⟨r, e, k⟩ := paramsF_ends n (o ++ [s.name.1]) s.name.2 (by omega)
        exact ⟨r, e, by omega⟩
      · rw [if_neg ho]
        have hw := (want_mu s [44]).2 hb
        have h1 := (name_mu (s.want [44])).1
        obtain ⟨r, e, k⟩ := paramsF_ends n (o ++ [(s.want [44]).name.1]) (s.want [44]).name.2 (by omega)
        exact ⟨r, e, by omega⟩
theorem functionF_ends (n : Nat) (s : PS) (h : 13 * mu s + 12 ≤ n) : ∃ r, functionF n s = some r ∧ mu r.2 ≤ mu s := by
  unfold functionF
  have h1 := (name_mu s).1
  have h2 := (want_mu s.name.2 [40]).1
  obtain ⟨r, e, k⟩ := paramsF_ends n [] (s.name.2.want [40]) (by omega)
  rw [e]
  simp only [Option.bind_some]
  obtain ⟨b, e2, k2⟩ := (ends_all n).block r.2 (by omega)
  rw [e2]
  exact ⟨_, rfl, by show mu b.2 ≤ _; omega⟩
theorem globalL_mu (h0 : Int) (s : PS) : mu (globalL h0 s).2 ≤ mu s := by
  unfold globalL
  simp only []
  have h1 := (name_mu s).1
  have w2 : ∀ t : PS, mu ((t.want [93]).want [59]) ≤ mu t := fun t => Nat.le_trans (want_mu _ _).1 (want_mu _ _).1
  split
  · rename_i ht
    have t1 := take_mu ht
    split
    · have := w2 s.name.2.skip; show mu ((s.name.2.skip.want [93]).want [59]) ≤ _; omega
    · split
      · have := w2 (s.name.2.skip.fail 12); rw [mu_fail _ _ (by decide)] at this; show mu (((s.name.2.skip.fail 12).want [93]).want [59]) ≤ _; omega
      · split
        · have := w2 (s.name.2.skip.fail 31); rw [mu_fail _ _ (by decide)] at this; show mu (((s.name.2.skip.fail 31).want [93]).want [59]) ≤ _; omega
        · have := w2 s.name.2.skip.skip; have := mu_skip_le s.name.2.skip; show mu ((s.name.2.skip.skip.want [93]).want [59]) ≤ _; omega
  · have := (want_mu s.name.2 [59]).1
    show mu (s.name.2.want [59]) ≤ _
    omega
theorem progF_ends : ∀ (n : Nat) (out : Prog) (s : PS), 13 * mu s + 13 ≤ n → ∃ r, progF n out s = some r
  | 0, _, _, h => by omega
  | n + 1, out, s, h => by
    unfold progF
    cases hx : (s.bad || s.now.kind == 0) with
    | true => rw [if_pos rfl]; exact ⟨_, rfl⟩
    | false =>
      rw [if_neg (by decide)]
      have hb : s.bad = false := by cases hb : s.bad <;> rw [hb] at hx <;> simp_all
      cases h1 : (s.take [118, 97, 114]).1 with
      | true =>
        rw [if_pos rfl]
        have t := take_mu h1
        have g := globalL_mu 0 s.skip
        exact progF_ends n _ (globalL 0 s.skip).2 (by omega)
      | false =>
      rw [if_neg (by decide)]
      cases h2 : (s.take [112, 117, 98, 108, 105, 99]).1 with
      | true =>
        rw [if_pos rfl]
        have t := take_mu h2
        have g := globalL_mu 1 s.skip
        exact progF_ends n _ (globalL 1 s.skip).2 (by omega)
      | false =>
      rw [if_neg (by decide)]
      cases h3 : (s.take [115, 101, 99, 114, 101, 116]).1 with
      | true =>
        rw [if_pos rfl]
        have t := take_mu h3
        have g := globalL_mu 2 s.skip
        exact progF_ends n _ (globalL 2 s.skip).2 (by omega)
      | false =>
      rw [if_neg (by decide)]
      cases h4 : (s.take [102, 117, 110, 99]).1 with
      | true =>
        rw [if_pos rfl]
        have t := take_mu h4
        obtain ⟨r, e, k⟩ := functionF_ends n s.skip (by omega)
        rw [e]
        exact progF_ends n _ r.2 (by omega)
      | false =>
        rw [if_neg (by decide)]
        have := mu_fail s 12 (by decide)
        have := mu_pos hb
        exact progF_ends n _ (s.fail 12) (by omega)

/-! More calls, the same answer. -/
theorem paramsF_le : ∀ (n k : Nat) (o : List ByteArray) (s : PS) (r : List ByteArray × PS), paramsF n o s = some r → paramsF (n + k) o s = some r
  | 0, _, _, _, _, h => by cases h
  | n + 1, k, o, s, r, h => by
    rw [show n + 1 + k = (n + k) + 1 by omega]
    unfold paramsF at h ⊢
    exact ite_le h id (fun h => paramsF_le n k _ _ _ h)
theorem functionF_le {n k : Nat} {s : PS} {r : Fun × PS} (h : functionF n s = some r) : functionF (n + k) s = some r := by
  unfold functionF at h ⊢
  exact bind_le h (fun _ h => paramsF_le n k _ _ _ h) (fun _ h => bind_le h (fun _ => (ps_le n k).block _ _) (fun _ h => h))
theorem progF_le : ∀ (n k : Nat) (out : Prog) (s : PS) (r : Prog × PS), progF n out s = some r → progF (n + k) out s = some r
  | 0, _, _, _, _, h => by cases h
  | n + 1, k, out, s, r, h => by
    rw [show n + 1 + k = (n + k) + 1 by omega]
    unfold progF at h ⊢
    exact ite_le h id (fun h => ite_le h (progF_le n k _ _ _) (fun h => ite_le h (progF_le n k _ _ _) (fun h => ite_le h (progF_le n k _ _ _) (fun h => ite_le h (fun h => bind_le h (fun _ h => functionF_le h) (fun _ h => progF_le n k _ _ _ h)) (progF_le n k _ _ _)))))
theorem progF_same {n m : Nat} {out : Prog} {s : PS} {r r' : Prog × PS} (h : progF n out s = some r) (h' : progF m out s = some r') : r = r' := by
  have h1 := progF_le n m _ _ _ h
  have h2 := progF_le m n _ _ _ h'
  rw [Nat.add_comm m n, h1] at h2
  exact Option.some.inj h2
/-- What some number of calls answers, enough calls answer. -/
theorem parse_of {l : Bytes} {ts : List Token} {pr : Prog} {s1 : PS} (hl : lexL l = .ok ts) {n : Nat} (h : progF n ⟨[], []⟩ ⟨ts, 0, zFault⟩ = some (pr, s1)) (N : Nat) (hN : 13 * (ts.length + 1) + 13 ≤ N) :
    parseF N l = if s1.bad then some (⟨[], []⟩, s1.f) else some (pr, zFault) := by
  unfold parseF
  rw [hl]
  simp only []
  obtain ⟨r, hr⟩ := progF_ends N ⟨[], []⟩ ⟨ts, 0, zFault⟩ (by
    have h0 : mu ⟨ts, 0, zFault⟩ = ts.length + 1 := if_neg (show ¬ (zFault.e != 0) = true by decide)
    rw [h0]
    exact hN)
  rw [hr]
  obtain rfl := progF_same hr h
  rfl
end Go.Proofs.YtgenlgfbjlclbaaDoor
/-! What a text's tokens are, wherever they stand: token by token. -/
namespace Go.Proofs.YtgenlgfbjlclbaaDoor

/-- What a token is, but for its place. -/
abbrev TC := Int × Bytes × Int
def tc (t : Token) : TC := (t.kind, t.text.data.toList, t.num)
def LexR (l : Bytes) (cs : List TC) : Prop := ∀ n p out, l.length < n → ∃ ts, lexF n p l out = .ok (out ++ ts) ∧ ts.map tc = cs
theorem lexr_nil : LexR [] [(0, [], 0)] := by
  intro n p out hn
  obtain ⟨m, rfl⟩ : ∃ m, n = m + 1 := ⟨n - 1, by simp at hn; omega⟩
  exact ⟨[tok 0 [] 0 p], rfl, rfl⟩
theorem lexr_blank {c : UInt8} {l : Bytes} {cs : List TC} (hc : isBlank c = true) (h : LexR l cs) : LexR (c :: l) cs := by
  intro n p out hn
  obtain ⟨m, rfl⟩ : ∃ m, n = m + 1 := ⟨n - 1, by simp at hn; omega⟩
  obtain ⟨ts, h1, h2⟩ := h (m + 1) (adv p c) out (by simp at hn; omega)
  refine ⟨ts, ?_, h2⟩
  rw [← h1]
  have hb : blankL false p (c :: l) = blankL false (adv p c) l := by rw [blankL, if_pos hc]
  simp only [lexF, hb]
theorem lexr_tok {k v : Int} {c : UInt8} {s l : Bytes} {cs : List TC} (hk : k ≠ 0) (hb : isBlank c = false) (hs : ¬ (c = 47 ∧ (s ++ l).head? = some 47)) (ht : ∀ p, tokenL p (c :: (s ++ l)) = .ok (tok k (c :: s) v p)) (h : LexR l cs) : LexR (c :: s ++ l) ((k, c :: s, v) :: cs) := by
  intro n p out hn
  obtain ⟨m, rfl⟩ : ∃ m, n = m + 1 := ⟨n - 1, by omega⟩
  have hbl : blankL false p (c :: (s ++ l)) = (p, c :: (s ++ l)) := by rw [blankL, if_neg (by rw [hb]; decide), if_neg hs]
  have hsz : (tok k (c :: s) v p).text.size = (c :: s).length := List.size_toArray
  obtain ⟨ts, h1, h2⟩ := h m (advs p ((c :: (s ++ l)).take (c :: s).length)) (out ++ [tok k (c :: s) v p]) (by simp at hn; omega)
  refine ⟨tok k (c :: s) v p :: ts, ?_, by rw [List.map_cons, h2]; rfl⟩
  show lexF (m + 1) p (c :: (s ++ l)) out = _
  simp only [lexF, hbl, ht, hsz]
  have hdrop : (c :: (s ++ l)).drop (c :: s).length = l := by simp
  rw [if_neg (show ¬ (tok k (c :: s) v p).kind = 0 from hk), hdrop, h1, List.append_assoc]
  rfl
theorem takeWhile_app {α : Type} {f : α → Bool} : ∀ {s l : List α}, (∀ x, x ∈ s → f x = true) → (∀ x, l.head? = some x → f x = false) → (s ++ l).takeWhile f = s
  | [], l, _, h => by
    cases l with
    | nil => rfl
    | cons x r => rw [List.nil_append, List.takeWhile_cons, h x rfl]; rfl
  | a :: s, l, hs, h => by
    rw [List.cons_append, List.takeWhile_cons, hs a List.mem_cons_self]
    simp only [if_true]
    rw [takeWhile_app (fun x hx => hs x (List.mem_cons_of_mem _ hx)) h]
def alnum (c : UInt8) : Bool := isDigit c || isLetter c
/-- A word or a name. -/
theorem lexr_name {c : UInt8} {s l : Bytes} {cs : List TC} (hc : isLetter c = true) (hs : s.all alnum = true) (hl : ∀ x, l.head? = some x → alnum x = false) (h : LexR l cs) : LexR (c :: s ++ l) ((if wordsL.contains (c :: s) then 3 else 1, c :: s, 0) :: cs) := by
  have hnb : isBlank c = false ∧ c ≠ 47 := by
    have key : ∀ n : Fin 256, isLetter (UInt8.ofNat n.val) = true → isBlank (UInt8.ofNat n.val) = false ∧ UInt8.ofNat n.val ≠ 47 := by decide +kernel
    have h := key ⟨c.toNat, c.toNat_lt⟩
    rw [UInt8.ofNat_toNat] at h
    exact h hc
  refine lexr_tok (by split <;> decide) hnb.1 (fun h => hnb.2 h.1) (fun p => ?_) h
  have hrun : runL true (c :: (s ++ l)) = c :: s := by
    unfold runL
    refine takeWhile_app (s := c :: s) (fun x hx => ?_) (fun x hx => ?_)
    · rcases List.mem_cons.1 hx with rfl | hx
      · rw [Bool.true_and, hc, Bool.or_true]
      · rw [Bool.true_and]; exact List.all_eq_true.1 hs x hx
    · rw [Bool.true_and]; exact hl x hx
  rw [tokenL, if_pos hc, hrun]
/-- A number. -/
theorem lexr_num {c : UInt8} {s l : Bytes} {cs : List TC} {v : Int} (hc : isDigit c = true) (hs : s.all isDigit = true) (hv : valueL 0 (c :: s) = some v) (hl : ∀ x, l.head? = some x → isDigit x = false) (h : LexR l cs) : LexR (c :: s ++ l) ((2, c :: s, v) :: cs) := by
  have hnb : isBlank c = false ∧ c ≠ 47 ∧ isLetter c = false := by
    have key : ∀ n : Fin 256, isDigit (UInt8.ofNat n.val) = true → isBlank (UInt8.ofNat n.val) = false ∧ UInt8.ofNat n.val ≠ 47 ∧ isLetter (UInt8.ofNat n.val) = false := by decide +kernel
    have h := key ⟨c.toNat, c.toNat_lt⟩
    rw [UInt8.ofNat_toNat] at h
    exact h hc
  refine lexr_tok (by decide) hnb.1 (fun h => hnb.2.1 h.1) (fun p => ?_) h
  have hrun : runL false (c :: (s ++ l)) = c :: s := by
    unfold runL
    refine takeWhile_app (s := c :: s) (fun x hx => ?_) (fun x hx => ?_)
    · rw [Bool.false_and, Bool.or_false]
      rcases List.mem_cons.1 hx with rfl | hx
      · exact hc
      · exact List.all_eq_true.1 hs x hx
    · rw [Bool.false_and, Bool.or_false]; exact hl x hx
  rw [tokenL, if_neg (by rw [hnb.2.2]; decide), if_pos hc, hrun, hv]
/-- A mark. -/
theorem lexr_mark {c : UInt8} {s l : Bytes} {cs : List TC} (hc : (isLetter c || isDigit c || isBlank c) = false) (hs : (c == 47 && (s ++ l).head? == some 47) = false) (hm : marksL.find? (fun m => m.isPrefixOf (c :: (s ++ l))) = some (c :: s)) (h : LexR l cs) : LexR (c :: s ++ l) ((4, c :: s, 0) :: cs) := by
  simp only [Bool.or_eq_false_iff] at hc
  refine lexr_tok (by decide) hc.2 (fun h => ?_) (fun p => ?_) h
  · rw [h.1, h.2] at hs
    cases hs
  · rw [tokenL, if_neg (by rw [hc.1.1]; decide), if_neg (by rw [hc.1.2]; decide), hm]
/-- The tokens of a text. -/
theorem lexL_of {l : Bytes} {cs : List TC} (h : LexR l cs) (hl : l.length ≤ 65536) : ∃ ts, lexL l = .ok ts ∧ ts.map tc = cs := by
  obtain ⟨ts, h1, h2⟩ := h (l.length + 1) ⟨1, 1⟩ [] (by omega)
  exact ⟨ts, by rw [lexL, if_neg (by omega)]; exact h1, h2⟩
end Go.Proofs.YtgenlgfbjlclbaaDoor
/-! The parser over tokens wherever they stand: what it answers, part by part. -/
namespace Go.Proofs.YtgenlgfbjlclbaaDoor

/-- A parser without an error, so deep, with these tokens ahead. -/
structure At (s : PS) (d : Int) (cs : List TC) : Prop where
  f : s.f = zFault
  deep : s.deep = d
  ts : s.ts.map tc = cs
section
variable {s : PS} {d k v : Int} {t m : Bytes} {c : TC} {cs cs' : List TC}
theorem At.bad (h : At s d cs) : s.bad = false := by rw [PS.bad, h.f]; rfl
theorem At.now (h : At s d (c :: cs)) : tc s.now = c := by
  obtain ⟨_, _, h⟩ := h
  unfold PS.now
  cases hs : s.ts with
  | nil => rw [hs] at h; cases h
  | cons x r => rw [hs] at h; exact (List.cons.inj h).1
theorem At.kind (h : At s d ((k, t, v) :: cs)) : s.now.kind = k := congrArg (·.1) h.now
theorem At.text (h : At s d ((k, t, v) :: cs)) : s.now.text.data.toList = t := congrArg (·.2.1) h.now
theorem At.num (h : At s d ((k, t, v) :: cs)) : s.now.num = v := congrArg (·.2.2) h.now
theorem At.name' (h : At s d ((k, t, v) :: cs)) : s.now.text = bsOf t := by
  have := h.text
  unfold bsOf
  rw [← this]
theorem At.skip (h : At s d (c :: cs)) (hc : c.1 ≠ 0) : At s.skip d cs := by
  have hk : s.now.kind ≠ 0 := by have := h.now; rw [← this] at hc; exact hc
  unfold PS.skip
  rw [if_neg hk]
  refine ⟨h.f, h.deep, ?_⟩
  show s.ts.tail.map tc = cs
  have h2 := h.ts
  cases hx : s.ts with
  | nil => rw [hx] at h2; cases h2
  | cons a r => rw [hx] at h2; exact (List.cons.inj h2).2
theorem At.isM (h : At s d ((k, t, v) :: cs)) (m : Bytes) : s.isM m = ((k == 3 || k == 4) && t == m) := by rw [PS.isM, h.kind, h.text]
theorem At.take (h : At s d ((k, t, v) :: cs)) (m : Bytes) : (s.take m).1 = ((k == 3 || k == 4) && t == m) := by
  unfold PS.take
  rw [h.bad, h.isM m]
  cases (k == 3 || k == 4) && t == m <;> rfl
theorem At.want (h : At s d ((k, m, v) :: cs)) (hk : (k == 3 || k == 4) = true) : At (s.want m) d cs := by
  unfold PS.want
  rw [h.bad, h.isM m, hk]
  simp only [beq_self_eq_true, Bool.and_self, Bool.not_true, Bool.or_self, Bool.false_eq_true, if_false]
  refine h.skip ?_
  intro h0
  rw [show k = 0 from h0] at hk
  cases hk
theorem At.name (h : At s d ((1, t, v) :: cs)) : s.name.1 = bsOf t ∧ At s.name.2 d cs := by
  unfold PS.name
  rw [h.bad, h.kind]
  exact ⟨h.name', h.skip (show (1 : Int) ≠ 0 by decide)⟩
theorem At.down (h : At s d cs) (hd : d < 200) : s.down.1 = true ∧ At s.down.2 (d + 1) cs := by
  unfold PS.down
  rw [h.bad, h.deep]
  simp only [Bool.false_eq_true, if_false]
  rw [if_neg (by omega)]
  exact ⟨rfl, h.f, rfl, h.ts⟩
theorem At.deepest (h : At s d cs) (hd : 200 ≤ d) : s.down.1 = false ∧ s.down.2.f.e = 13 := by
  unfold PS.down
  rw [h.bad, h.deep]
  simp only [Bool.false_eq_true, if_false]
  rw [if_pos hd]
  refine ⟨rfl, ?_⟩
  show (s.fail 13).f.e = 13
  unfold PS.fail
  rw [if_pos (by rw [h.f]; rfl)]
theorem At.up (h : At s (d + 1) cs) : At s.up d cs := ⟨h.f, by show s.deep - 1 = d; rw [h.deep]; omega, h.ts⟩
theorem At.mark (h : At s d ((k, t, v) :: cs)) (ms : List Bytes) : s.mark ms = if k = 4 then (ms.find? (fun m => t == m)).getD [] else [] := by
  unfold PS.mark
  rw [h.kind, h.text]
  by_cases hk : k = 4
  · rw [if_pos hk, hk]
    rfl
  · rw [if_neg hk, beq_eq_false_iff_ne.2 hk]
    have : (ms.find? fun m => false && t == m) = none := by rw [List.find?_eq_none]; intro x _; simp
    rw [this]
    rfl
end

/-! Behind an error. -/
section
variable {s : PS}
theorem bad_whole (h : s.bad = true) : WholeE s (eZ, s) := by
  have hd : s.down = (false, s) := by unfold PS.down; rw [if_pos h]
  have := whole_no (s := s) (by rw [hd])
  rwa [hd] at this
theorem bad_expr (h : s.bad = true) : ∀ j, j ≤ 5 → ExprE (5 - j) s (eZ, s)
  | 0, _ => expr_top (unary_bad h)
  | j + 1, hj => by
    have ih := bad_expr h j (by omega)
    rw [show 5 - j = 5 - (j + 1) + 1 by omega] at ih
    exact expr_at (by omega) ih (rest_stop (.inl h))
theorem bad_want (h : s.bad = true) (m : Bytes) : s.want m = s := by
  unfold PS.want
  rw [h, Bool.true_or, if_pos rfl]
  exact bad_fail' h 12
theorem bad_take (h : s.bad = true) (m : Bytes) : (s.take m).1 = false := by unfold PS.take; rw [h, Bool.true_or, if_pos rfl]
theorem bad_block (h : s.bad = true) : BlockE s ([], s) := by
  have hd : s.down = (false, s) := by unfold PS.down; rw [if_pos h]
  have := block_no (s := s) (by rw [bad_want h, hd])
  rwa [bad_want h, hd] at this
theorem bad_up (h : s.bad = true) : s.up.bad = true ∧ s.up.f = s.f := ⟨h, rfl⟩
end
/-- An error's number. -/
def Er (s : PS) (e : Int) : Prop := s.f.e = e ∧ e ≠ 0
theorem Er.bad {s : PS} {e : Int} (h : Er s e) : s.bad = true := by
  rw [PS.bad, h.1]
  exact bne_iff_ne.2 h.2

/-! What is answered: over tokens alone. -/
def ExprC (l : Nat) (d : Int) (cs cs' : List TC) (P : Expr → Prop) : Prop := ∀ s, At s d cs → ∃ r, ExprE l s r ∧ P r.1 ∧ At r.2 d cs'
def UnaryC (d : Int) (cs cs' : List TC) (P : Expr → Prop) : Prop := ∀ s, At s d cs → ∃ r, UnaryE s r ∧ P r.1 ∧ At r.2 d cs'
def WholeC (d : Int) (cs cs' : List TC) (P : Expr → Prop) : Prop := ∀ s, At s d cs → ∃ r, WholeE s r ∧ P r.1 ∧ At r.2 d cs'
def StmtC (d : Int) (cs cs' : List TC) (P : Stmt → Prop) : Prop := ∀ s, At s d cs → ∃ r, StmtE s r ∧ P r.1 ∧ At r.2 d cs'
def ChoiceC (d : Int) (cs cs' : List TC) (P : Stmt → Prop) : Prop := ∀ q s, At s d cs → ∃ r, ChoiceE q s r ∧ P r.1 ∧ At r.2 d cs'
def BlockC (d : Int) (cs cs' : List TC) (P : List Stmt → Prop) : Prop := ∀ s, At s d cs → ∃ r, BlockE s r ∧ P r.1 ∧ At r.2 d cs'
def StmtsC (o : List Stmt) (d : Int) (cs cs' : List TC) (P : List Stmt → Prop) : Prop := ∀ s, At s d cs → ∃ r, StmtsE o s r ∧ P r.1 ∧ At r.2 d cs'
def ArgsC (o : List Expr) (d : Int) (cs cs' : List TC) (P : List Expr → Prop) : Prop := ∀ s, At s d cs → ∃ r, ArgsE o s r ∧ P r.1 ∧ At r.2 d cs'
def noBin (c : TC) : Bool := !(c.1 == 4 && levelsL.any (fun ms => ms.contains c.2.1))
theorem noBin_mark {s : PS} {d : Int} {c : TC} {cs : List TC} (h : At s d (c :: cs)) (hn : noBin c = true) (l : Nat) : s.mark (levelsL.getD l []) = [] := by
  obtain ⟨k, t, v⟩ := c
  rw [h.mark]
  by_cases hk : k = 4
  · rw [if_pos hk]
    have : (levelsL.getD l []).find? (fun m => t == m) = none := by
      rw [List.find?_eq_none]
      intro x hx he
      have hl : levelsL.getD l [] ∈ levelsL := by
        rw [List.getD_eq_getElem?_getD] at hx ⊢
        cases hg : levelsL[l]? with
        | none => rw [hg] at hx; cases hx
        | some y => exact List.mem_of_getElem? hg
      rw [noBin, hk] at hn
      have : levelsL.any (fun ms => ms.contains t) = true := List.any_eq_true.2 ⟨_, hl, by
        rw [List.contains_iff_mem]
        have : t = x := by simpa using he
        rw [this]
        exact hx⟩
      rw [this] at hn
      cases hn
    rw [this]
    rfl
  · rw [if_neg hk]
section
variable {d : Int} {c : TC} {cs cs' : List TC} {P : Expr → Prop}
theorem chain (h : UnaryC d cs (c :: cs') P) (hn : noBin c = true) : ∀ j, j ≤ 5 → ExprC (5 - j) d cs (c :: cs') P
  | 0, _ => fun s hs => by
    obtain ⟨r, h1, h2, h3⟩ := h s hs
    exact ⟨r, expr_top h1, h2, h3⟩
  | j + 1, hj => fun s hs => by
    obtain ⟨r, h1, h2, h3⟩ := chain h hn j (by omega) s hs
    rw [show 5 - j = 5 - (j + 1) + 1 by omega] at h1
    exact ⟨r, expr_at (by omega) h1 (rest_stop (.inr (noBin_mark h3 hn _))), h2, h3⟩
theorem whole_of (h : ExprC 0 (d + 1) cs cs' P) (hd : d < 200) : WholeC d cs cs' P := fun s hs => by
  obtain ⟨h1, h2⟩ := hs.down hd
  obtain ⟨r, h3, h4, h5⟩ := h _ h2
  exact ⟨_, whole_yes h1 h3, h4, h5.up⟩
theorem whole_unary (h : UnaryC (d + 1) cs (c :: cs') P) (hn : noBin c = true) (hd : d < 200) : WholeC d cs (c :: cs') P := whole_of (chain h hn 5 (by omega)) hd
theorem no_sign {s : PS} {k v : Int} {t : Bytes} (hs : At s d ((k, t, v) :: cs)) (h : ((k == 3 || k == 4) && (t == [33] || t == [45])) = false) : s.isM [33] = false ∧ s.isM [45] = false := by
  rw [hs.isM, hs.isM]
  cases hk : (k == 3 || k == 4) with
  | false => exact ⟨rfl, rfl⟩
  | true =>
    rw [hk, Bool.true_and, Bool.or_eq_false_iff] at h
    exact ⟨by rw [h.1]; rfl, by rw [h.2]; rfl⟩
theorem unary_num (t : Bytes) (v : Int) : UnaryC d ((2, t, v) :: cs) cs (fun e => e.kind = 1 ∧ e.num = v ∧ e.name = ⟨#[]⟩ ∧ e.op = 0 ∧ e.kids = []) := fun s hs => by
  obtain ⟨h1, h2⟩ := no_sign hs rfl
  refine ⟨_, unary_prim hs.bad h1 h2 (prim_of (n := 0) (r := (⟨1, s.now.pos, s.now.num, ⟨#[]⟩, 0, []⟩, s.skip)) ?_), ⟨rfl, hs.num, rfl, rfl, rfl⟩, hs.skip (show (2 : Int) ≠ 0 by decide)⟩
  rw [psPrimary, if_pos hs.kind]
theorem unary_paren {v v' : Int} (h : WholeC d cs ((4, [41], v') :: cs') P) : UnaryC d ((4, [40], v) :: cs) cs' P := fun s hs => by
  obtain ⟨h1, h2⟩ := no_sign hs rfl
  have h3 := hs.skip (show (4 : Int) ≠ 0 by decide)
  obtain ⟨r, ⟨n, e⟩, hp, ha⟩ := h _ h3
  refine ⟨_, unary_prim hs.bad h1 h2 (prim_of (n := n) (r := (r.1, r.2.want [41])) ?_), hp, ha.want rfl⟩
  rw [psPrimary, if_neg (by rw [hs.kind]; decide), if_neg (by rw [hs.take]; decide), if_neg (by rw [hs.take]; decide), if_pos (by rw [hs.take]; rfl), e]
  rfl
theorem unary_var {t : Bytes} {v : Int} (h : ∀ x, cs'.head? = some x → ((x.1 == 3 || x.1 == 4) && (x.2.1 == [91] || x.2.1 == [40])) = false) (hne : cs' ≠ []) : UnaryC d ((1, t, v) :: cs') cs' (fun e => e.kind = 3 ∧ e.num = 0 ∧ e.name = bsOf t ∧ e.op = 0 ∧ e.kids = []) := fun s hs => by
  obtain ⟨h1, h2⟩ := no_sign hs rfl
  obtain ⟨n1, n2⟩ := hs.name
  obtain ⟨⟨k', t', v'⟩, r, rfl⟩ : ∃ x r, cs' = x :: r := by
    cases cs' with
    | nil => exact absurd rfl hne
    | cons x r => exact ⟨x, r, rfl⟩
  have hx := h _ rfl
  have t1 : (s.name.2.take [91]).1 = false ∧ (s.name.2.take [40]).1 = false := by
    rw [n2.take, n2.take]
    cases hk : (k' == 3 || k' == 4) with
    | false => exact ⟨rfl, rfl⟩
    | true =>
      have hx' : ((k' == 3 || k' == 4) && (t' == [91] || t' == [40])) = false := hx
      rw [hk, Bool.true_and, Bool.or_eq_false_iff] at hx'
      exact ⟨by rw [hx'.1]; rfl, by rw [hx'.2]; rfl⟩
  refine ⟨_, unary_prim hs.bad h1 h2 (prim_of (n := 0) (r := (⟨3, s.now.pos, 0, s.name.1, 0, []⟩, s.name.2)) ?_), ⟨rfl, rfl, n1, rfl, rfl⟩, n2⟩
  rw [psPrimary, if_neg (by rw [hs.kind]; decide), if_neg (by rw [hs.take]; simp), if_neg (by rw [hs.take]; simp), if_neg (by rw [hs.take]; simp)]
  simp only []
  rw [if_neg (by rw [t1.1]; decide), if_neg (by rw [t1.2]; decide)]
theorem unary_call {t : Bytes} {v v' : Int} {Q : List Expr → Prop} (h : ArgsC [] d cs cs' Q) : UnaryC d ((1, t, v) :: (4, [40], v') :: cs) cs' (fun e => e.kind = 5 ∧ e.num = 0 ∧ e.name = bsOf t ∧ e.op = 0 ∧ Q e.kids) := fun s hs => by
  obtain ⟨h1, h2⟩ := no_sign hs rfl
  obtain ⟨n1, n2⟩ := hs.name
  obtain ⟨r, ⟨n, e⟩, hq, ha⟩ := h _ (n2.skip (show (4 : Int) ≠ 0 by decide))
  refine ⟨_, unary_prim hs.bad h1 h2 (prim_of (n := n) (r := (⟨5, s.now.pos, 0, s.name.1, 0, r.1⟩, r.2)) ?_), ⟨rfl, rfl, n1, rfl, hq⟩, ha⟩
  rw [psPrimary, if_neg (by rw [hs.kind]; decide), if_neg (by rw [hs.take]; simp), if_neg (by rw [hs.take]; simp), if_neg (by rw [hs.take]; simp)]
  simp only []
  rw [if_neg (by rw [n2.take]; decide), if_pos (by rw [n2.take]; rfl), e]
  rfl
theorem unary_index {t : Bytes} {v v' v'' : Int} (h : WholeC d cs ((4, [93], v'') :: cs') P) : UnaryC d ((1, t, v) :: (4, [91], v') :: cs) cs' (fun e => e.kind = 4 ∧ e.num = 0 ∧ e.name = bsOf t ∧ e.op = 0 ∧ ∃ k, e.kids = [k] ∧ P k) := fun s hs => by
  obtain ⟨h1, h2⟩ := no_sign hs rfl
  obtain ⟨n1, n2⟩ := hs.name
  obtain ⟨r, ⟨n, e⟩, hq, ha⟩ := h _ (n2.skip (show (4 : Int) ≠ 0 by decide))
  refine ⟨_, unary_prim hs.bad h1 h2 (prim_of (n := n) (r := (⟨4, s.now.pos, 0, s.name.1, 0, [r.1]⟩, r.2.want [93])) ?_), ⟨rfl, rfl, n1, rfl, _, rfl, hq⟩, ha.want rfl⟩
  rw [psPrimary, if_neg (by rw [hs.kind]; decide), if_neg (by rw [hs.take]; simp), if_neg (by rw [hs.take]; simp), if_neg (by rw [hs.take]; simp)]
  simp only []
  rw [if_pos (by rw [n2.take]; rfl), e]
  rfl
theorem unary_not {v : Int} (h : UnaryC (d + 1) cs cs' P) (hd : d < 200) : UnaryC d ((4, [33], v) :: cs) cs' (fun e => e.kind = 9 ∧ e.num = 0 ∧ e.name = ⟨#[]⟩ ∧ e.op = 0 ∧ ∃ k, e.kids = [k] ∧ P k) := fun s hs => by
  obtain ⟨d1, d2⟩ := hs.down hd
  obtain ⟨r, h1, h2, h3⟩ := h _ (d2.skip (show (4 : Int) ≠ 0 by decide))
  refine ⟨_, unary_sign hs.bad (by rw [hs.isM]; rfl) d1 h1, ?_, h3.up⟩
  rw [if_pos hs.text]
  exact ⟨rfl, rfl, rfl, rfl, _, rfl, h2⟩
theorem unary_minus {v : Int} (h : UnaryC (d + 1) cs cs' P) (hd : d < 200) : UnaryC d ((4, [45], v) :: cs) cs' (fun e => e.kind = 6 ∧ e.num = 0 ∧ e.name = ⟨#[]⟩ ∧ e.op = 2 ∧ ∃ k z, e.kids = [z, k] ∧ P k ∧ z.kind = 1 ∧ z.num = 0 ∧ z.name = ⟨#[]⟩ ∧ z.op = 0 ∧ z.kids = []) := fun s hs => by
  obtain ⟨d1, d2⟩ := hs.down hd
  obtain ⟨r, h1, h2, h3⟩ := h _ (d2.skip (show (4 : Int) ≠ 0 by decide))
  refine ⟨_, unary_sign hs.bad (by rw [hs.isM, hs.isM]; rfl) d1 h1, ?_, h3.up⟩
  rw [if_neg (by rw [hs.text]; decide)]
  exact ⟨rfl, rfl, rfl, rfl, _, _, rfl, h2, rfl, rfl, rfl, rfl, rfl⟩
end
section
variable {d : Int} {cs cs' cs'' : List TC}
theorem args_end {o : List Expr} {v : Int} {Q : List Expr → Prop} (hq : Q o) : ArgsC o d ((4, [41], v) :: cs) cs Q := fun s hs => ⟨_, args_stop (by rw [hs.bad, hs.isM]; rfl), hq, hs.want rfl⟩
theorem args_first {k v : Int} {t : Bytes} {P : Expr → Prop} {Q : List Expr → Prop} (h : WholeC d ((k, t, v) :: cs) cs' P) (hne : ((k == 3 || k == 4) && t == [41]) = false) (h2 : ∀ x, P x → ArgsC [x] d cs' cs'' Q) : ArgsC [] d ((k, t, v) :: cs) cs'' Q := fun s hs => by
  obtain ⟨r, h3, h4, h5⟩ := h s hs
  obtain ⟨r2, h6, h7, h8⟩ := h2 _ h4 _ h5
  exact ⟨r2, args_more (by rw [hs.bad, hs.isM, hne]; decide) (by rw [if_pos rfl]; exact h3) h6, h7, h8⟩
theorem args_next {o : List Expr} {v : Int} {P : Expr → Prop} {Q : List Expr → Prop} (ho : o ≠ []) (h : WholeC d cs cs' P) (h2 : ∀ x, P x → ArgsC (o ++ [x]) d cs' cs'' Q) : ArgsC o d ((4, [44], v) :: cs) cs'' Q := fun s hs => by
  obtain ⟨r, h3, h4, h5⟩ := h _ (hs.want rfl)
  obtain ⟨r2, h6, h7, h8⟩ := h2 _ h4 _ h5
  exact ⟨r2, args_more (by rw [hs.bad, hs.isM]; decide) (by rw [if_neg ho]; exact h3) h6, h7, h8⟩
theorem stmts_end {o : List Stmt} {v : Int} {Q : List Stmt → Prop} (hq : Q o) : StmtsC o d ((4, [125], v) :: cs) cs Q := fun s hs => ⟨_, stmts_stop (by rw [hs.bad, hs.isM]; rfl), hq, hs.want rfl⟩
theorem stmts_next {o : List Stmt} {k v : Int} {t : Bytes} {P : Stmt → Prop} {Q : List Stmt → Prop} (h : StmtC d ((k, t, v) :: cs) cs' P) (hne : ((k == 3 || k == 4) && t == [125]) = false) (h2 : ∀ x, P x → StmtsC (o ++ [x]) d cs' cs'' Q) : StmtsC o d ((k, t, v) :: cs) cs'' Q := fun s hs => by
  obtain ⟨r, h3, h4, h5⟩ := h s hs
  obtain ⟨r2, h6, h7, h8⟩ := h2 _ h4 _ h5
  exact ⟨r2, stmts_more (by rw [hs.bad, hs.isM, hne]; decide) h3 h6, h7, h8⟩
theorem block_of {v : Int} {Q : List Stmt → Prop} (h : StmtsC [] (d + 1) cs cs' Q) (hd : d < 200) : BlockC d ((4, [123], v) :: cs) cs' Q := fun s hs => by
  obtain ⟨d1, d2⟩ := (hs.want rfl).down hd
  obtain ⟨r, h1, h2, h3⟩ := h _ d2
  exact ⟨_, block_yes d1 h1, h2, h3.up⟩
theorem stmt_ret {v v' : Int} {P : Expr → Prop} (h : WholeC d cs ((4, [59], v') :: cs') P) : StmtC d ((3, [114, 101, 116, 117, 114, 110], v) :: cs) cs' (fun s => s.does = 6 ∧ s.name = ⟨#[]⟩ ∧ s.thens = [] ∧ s.elses = [] ∧ ∃ e, s.es = [e] ∧ P e) := fun s hs => by
  obtain ⟨r, h1, h2, h3⟩ := h _ (hs.skip (show (3 : Int) ≠ 0 by decide))
  exact ⟨_, stmt_return_b (by rw [hs.take]; decide) (by rw [hs.take]; decide) (by rw [hs.take]; decide) (by rw [hs.take]; rfl) h1, ⟨rfl, rfl, rfl, rfl, _, rfl, h2⟩, h3.want rfl⟩
theorem stmt_wh {v : Int} {P : Expr → Prop} {Q : List Stmt → Prop} (h : WholeC d cs cs' P) (hb : BlockC d cs' cs'' Q) : StmtC d ((3, [119, 104, 105, 108, 101], v) :: cs) cs'' (fun s => s.does = 5 ∧ s.name = ⟨#[]⟩ ∧ Q s.thens ∧ s.elses = [] ∧ ∃ e, s.es = [e] ∧ P e) := fun s hs => by
  obtain ⟨r, h1, h2, h3⟩ := h _ (hs.skip (show (3 : Int) ≠ 0 by decide))
  obtain ⟨b, b1, b2, b3⟩ := hb _ h3
  exact ⟨_, stmt_while_b (by rw [hs.take]; decide) (by rw [hs.take]; decide) (by rw [hs.take]; rfl) h1 b1, ⟨rfl, rfl, b2, rfl, _, rfl, h2⟩, b3⟩
theorem stmt_ch {v : Int} {P : Stmt → Prop} (h : ChoiceC d cs cs' P) : StmtC d ((3, [105, 102], v) :: cs) cs' P := fun s hs => by
  obtain ⟨r, h1, h2, h3⟩ := h s.now.pos _ (hs.skip (show (3 : Int) ≠ 0 by decide))
  exact ⟨r, Go.Proofs.YtgenlgfbjlclbaaDoor.stmt_if_b (by rw [hs.take]; decide) (by rw [hs.take]; rfl) h1, h2, h3⟩
theorem choice_1 {P : Expr → Prop} {Q : List Stmt → Prop} {k v : Int} {t : Bytes} (h : WholeC d cs cs' P) (hb : BlockC d cs' ((k, t, v) :: cs'') Q) (hne : ((k == 3 || k == 4) && t == [101, 108, 115, 101]) = false) : ChoiceC d cs ((k, t, v) :: cs'') (fun s => s.does = 4 ∧ s.name = ⟨#[]⟩ ∧ Q s.thens ∧ s.elses = [] ∧ ∃ e, s.es = [e] ∧ P e) := fun q s hs => by
  obtain ⟨r, h1, h2, h3⟩ := h _ hs
  obtain ⟨b, b1, b2, b3⟩ := hb _ h3
  exact ⟨_, choice_none h1 b1 (by rw [b3.take]; exact hne), ⟨rfl, rfl, b2, rfl, _, rfl, h2⟩, b3⟩
theorem choice_2 {P : Expr → Prop} {Q R : List Stmt → Prop} {k v v' : Int} {t : Bytes} {cs3 : List TC} (h : WholeC d cs cs' P) (hb : BlockC d cs' ((3, [101, 108, 115, 101], v') :: (k, t, v) :: cs'') Q) (hne : ((k == 3 || k == 4) && t == [105, 102]) = false) (hc : BlockC d ((k, t, v) :: cs'') cs3 R) : ChoiceC d cs cs3 (fun s => s.does = 4 ∧ s.name = ⟨#[]⟩ ∧ Q s.thens ∧ R s.elses ∧ ∃ e, s.es = [e] ∧ P e) := fun q s hs => by
  obtain ⟨r, h1, h2, h3⟩ := h _ hs
  obtain ⟨b, b1, b2, b3⟩ := hb _ h3
  have b4 := b3.skip (show (3 : Int) ≠ 0 by decide)
  obtain ⟨c, c1, c2, c3⟩ := hc _ b4
  exact ⟨_, choice_block h1 b1 (by rw [b3.take]; rfl) (by rw [b4.take]; exact hne) c1, ⟨rfl, rfl, b2, c2, _, rfl, h2⟩, c3⟩
theorem choice_3 {P : Expr → Prop} {Q : List Stmt → Prop} {R : Stmt → Prop} {v v' : Int} {cs3 : List TC} (h : WholeC d cs cs' P) (hb : BlockC d cs' ((3, [101, 108, 115, 101], v) :: (3, [105, 102], v') :: cs'') Q) (hc : ChoiceC (d + 1) cs'' cs3 R) (hd : d < 200) : ChoiceC d cs cs3 (fun s => s.does = 4 ∧ s.name = ⟨#[]⟩ ∧ Q s.thens ∧ (∃ x, s.elses = [x] ∧ R x) ∧ ∃ e, s.es = [e] ∧ P e) := fun q s hs => by
  obtain ⟨r, h1, h2, h3⟩ := h _ hs
  obtain ⟨b, b1, b2, b3⟩ := hb _ h3
  have b4 := b3.skip (show (3 : Int) ≠ 0 by decide)
  obtain ⟨d1, d2⟩ := (b4.skip (show (3 : Int) ≠ 0 by decide)).down hd
  obtain ⟨c, c1, c2, c3⟩ := hc b.2.skip.now.pos _ d2
  exact ⟨_, choice_if h1 b1 (by rw [b3.take]; rfl) (by rw [b4.take]; rfl) d1 c1, ⟨rfl, rfl, b2, ⟨_, rfl, c2⟩, _, rfl, h2⟩, c3.up⟩
theorem not_words {s : PS} {k v : Int} {t : Bytes} (hs : At s d ((k, t, v) :: cs)) (hk : (k == 3) = false) (h4 : k = 4 → ¬ [[108, 101, 116], [105, 102], [119, 104, 105, 108, 101], [114, 101, 116, 117, 114, 110]].contains t = true) : (s.take [108, 101, 116]).1 = false ∧ (s.take [105, 102]).1 = false ∧ (s.take [119, 104, 105, 108, 101]).1 = false ∧ (s.take [114, 101, 116, 117, 114, 110]).1 = false := by
  rw [hs.take, hs.take, hs.take, hs.take, hk]
  by_cases h : k = 4
  · have := h4 h
    simp only [List.contains_cons, List.contains_nil, Bool.or_false, Bool.or_eq_true, not_or, Bool.not_eq_true] at this
    simp [this.1, this.2.1, this.2.2.1, this.2.2.2]
  · have : (k == 4) = false := beq_eq_false_iff_ne.2 h
    simp [this]
theorem stmt_call {t : Bytes} {v v' : Int} {P : Expr → Prop} (h : WholeC d ((1, t, v) :: cs) ((4, [59], v') :: cs') P) (hp : ∀ e, P e → e.kind = 5) : StmtC d ((1, t, v) :: cs) cs' (fun s => s.does = 7 ∧ s.name = ⟨#[]⟩ ∧ s.thens = [] ∧ s.elses = [] ∧ ∃ e, s.es = [e] ∧ P e) := fun s hs => by
  obtain ⟨r, h1, h2, h3⟩ := h _ hs
  obtain ⟨w1, w2, w3, w4⟩ := not_words hs rfl (fun h => absurd h (by decide))
  exact ⟨_, Go.Proofs.YtgenlgfbjlclbaaDoor.stmt_turn_b w1 w2 w3 w4 (turn_call' h1 h3.bad (hp _ h2)), ⟨rfl, rfl, rfl, rfl, _, rfl, h2⟩, h3.want rfl⟩
theorem stmt_set {t : Bytes} {v v' v'' : Int} {P Q : Expr → Prop} (h : WholeC d ((1, t, v) :: cs) ((4, [61], v') :: cs') P) (hp : ∀ e, P e → e.kind = 3 ∧ e.name = bsOf t) (h2 : WholeC d cs' ((4, [59], v'') :: cs'') Q) : StmtC d ((1, t, v) :: cs) cs'' (fun s => s.does = 2 ∧ s.name = bsOf t ∧ s.thens = [] ∧ s.elses = [] ∧ ∃ e, s.es = [e] ∧ Q e) := fun s hs => by
  obtain ⟨r, h1, h4, h3⟩ := h _ hs
  obtain ⟨r2, k1, k2, k3⟩ := h2 _ (h3.skip (show (4 : Int) ≠ 0 by decide))
  obtain ⟨w1, w2, w3, w4⟩ := not_words hs rfl (fun h => absurd h (by decide))
  exact ⟨_, Go.Proofs.YtgenlgfbjlclbaaDoor.stmt_turn_b w1 w2 w3 w4 (turn_var' h1 h3.bad (hp _ h4).1 (by rw [h3.take]; rfl) k1), ⟨rfl, (hp _ h4).2, rfl, rfl, _, rfl, k2⟩, k3.want rfl⟩
end

/-! Functions, programs. -/
def ParamsE (o : List ByteArray) (s : PS) (r : List ByteArray × PS) : Prop := ∃ n, paramsF n o s = some r
def FuncE (s : PS) (r : Fun × PS) : Prop := ∃ n, functionF n s = some r
def ProgE (o : Prog) (s : PS) (r : Prog × PS) : Prop := ∃ n, progF n o s = some r
theorem params_stop {o : List ByteArray} {s : PS} (h : (s.bad || s.isM [41]) = true) : ParamsE o s (o, s.want [41]) := ⟨1, by unfold paramsF; rw [if_pos h]⟩
theorem params_more {o : List ByteArray} {s : PS} {r : List ByteArray × PS} (h : ¬ (s.bad || s.isM [41]) = true) (h2 : ParamsE (o ++ [(if o = [] then s else s.want [44]).name.1]) (if o = [] then s else s.want [44]).name.2 r) : ParamsE o s r := by
  obtain ⟨n, h2⟩ := h2
  exact ⟨n + 1, by unfold paramsF; rw [if_neg h]; exact h2⟩
theorem func_of {s : PS} {a : List ByteArray × PS} {b : List Stmt × PS} (h : ParamsE [] (s.name.2.want [40]) a) (hb : BlockE a.2 b) : FuncE s (⟨s.name.1, a.1, b.1, s.now.pos⟩, b.2) := by
  obtain ⟨n, h⟩ := h
  obtain ⟨m, hb⟩ := hb
  refine ⟨n + m, ?_⟩
  unfold functionF
  rw [paramsF_le n m _ _ _ h]
  simp only [Option.bind_some]
  rw [(ps_le' (Nat.le_add_left m n)).block _ _ hb]
  rfl
theorem prog_end {o : Prog} {s : PS} (h : (s.bad || s.now.kind == 0) = true) : ProgE o s (o, s) := ⟨1, by unfold progF; rw [if_pos h]⟩
theorem prog_func {o : Prog} {s : PS} {d v : Int} {cs : List TC} {a : Fun × PS} {r : Prog × PS} (hs : At s d ((3, [102, 117, 110, 99], v) :: cs)) (h : FuncE s.skip a) (h2 : ProgE ⟨o.globals, o.funcs ++ [a.1]⟩ a.2 r) : ProgE o s r := by
  obtain ⟨n, h⟩ := h
  obtain ⟨m, h2⟩ := h2
  refine ⟨n + m + 1, ?_⟩
  unfold progF
  rw [if_neg (by rw [hs.bad, hs.kind]; decide), if_neg (by rw [hs.take]; decide), if_neg (by rw [hs.take]; decide), if_neg (by rw [hs.take]; decide), if_pos (by rw [hs.take]; rfl), functionF_le h]
  simp only [Option.bind_some]
  rw [Nat.add_comm n m]
  exact progF_le m n _ _ _ h2
theorem prog_var {o : Prog} {s : PS} {d v : Int} {cs : List TC} {r : Prog × PS} (hs : At s d ((3, [118, 97, 114], v) :: cs)) (h2 : ProgE ⟨o.globals ++ [(globalL 0 s.skip).1], o.funcs⟩ (globalL 0 s.skip).2 r) : ProgE o s r := by
  obtain ⟨m, h2⟩ := h2
  refine ⟨m + 1, ?_⟩
  unfold progF
  rw [if_neg (by rw [hs.bad, hs.kind]; decide), if_pos (by rw [hs.take]; rfl)]
  exact h2
theorem blank_len : ∀ (l : Bytes) (b : Bool) (p : Pos), (blankL b p l).2.length ≤ l.length
  | [], b, p => by cases b <;> simp [blankL]
  | c :: r, true, p => by
    rw [blankL]
    split
    · exact Nat.le_succ_of_le (blank_len r false _)
    · exact Nat.le_succ_of_le (blank_len r true _)
  | c :: r, false, p => by
    rw [blankL]
    split
    · exact Nat.le_succ_of_le (blank_len r false _)
    · split
      · exact Nat.le_succ_of_le (blank_len r true _)
      · exact Nat.le_refl _
theorem tok_size {q : Pos} {l : Bytes} {t : Token} (h : tokenL q l = .ok t) (h0 : t.kind ≠ 0) : 1 ≤ t.text.size ∧ 1 ≤ l.length := by
  have sz : ∀ m : Bytes, (bsOf m).size = m.length := fun m => List.size_toArray
  cases l with
  | nil => cases h; exact absurd rfl h0
  | cons c r =>
    refine ⟨?_, by simp⟩
    rw [tokenL] at h
    split at h
    · rename_i hc
      cases h
      show 1 ≤ (bsOf (runL true (c :: r))).size
      rw [sz, runL, List.takeWhile_cons, Bool.true_and, hc, Bool.or_true]
      simp
    · split at h
      · rename_i hc
        split at h
        · cases h
        · cases h
          show 1 ≤ (bsOf (runL false (c :: r))).size
          rw [sz, runL, List.takeWhile_cons, hc]
          simp
      · split at h
        · cases h
        · rename_i m hm
          cases h
          show 1 ≤ (bsOf m).size
          rw [sz]
          have : ∀ m, m ∈ marksL → 1 ≤ m.length := by decide
          exact this m (List.mem_of_find?_eq_some hm)
/-- There are no more tokens than bytes, but for the end. -/
theorem lexF_count : ∀ (n : Nat) (p : Pos) (l : Bytes) (out ts : List Token), lexF n p l out = .ok ts → ts.length ≤ out.length + l.length + 1
  | 0, _, _, _, _, h => by cases h
  | n + 1, p, l, out, ts, h => by
    simp only [lexF] at h
    have hb : (blankL false p l).2.length ≤ l.length := blank_len l false p
    split at h
    · cases h
    · rename_i t ht
      split at h
      · cases h
        simp
      · rename_i h0
        have ih := lexF_count n _ _ _ ts h
        have h1 : 1 ≤ t.text.size ∧ 1 ≤ (blankL false p l).2.length := tok_size ht h0
        rw [List.length_append, List.length_drop] at ih
        simp only [List.length_cons, List.length_nil] at ih
        omega
theorem lex_count {l : Bytes} {cs : List TC} {ts : List Token} (_ : LexR l cs) (h : lexL l = .ok ts) : ts.length ≤ l.length + 1 := by
  unfold lexL at h
  split at h
  · cases h
  · have := lexF_count _ _ _ _ _ h
    simpa using this
/-- A text whose only part is a function 'f' without parameters. -/
def FunHead : List TC := [(3, [102, 117, 110, 99], 0), (1, [102], 0), (4, [40], 0), (4, [41], 0)]
theorem parse_fun {l : Bytes} {cs : List TC} {Q : List Stmt → Prop} (hl : LexR l (FunHead ++ cs)) (hsz : l.length ≤ 60000) (hb : BlockC 0 cs [(0, [], 0)] Q) : ∃ F, parseF 900000 l = some (⟨[], [F]⟩, zFault) ∧ F.params = [] ∧ Q F.body := by
  obtain ⟨ts, h1, h2⟩ := lexL_of hl (by omega)
  have hs : At ⟨ts, 0, zFault⟩ 0 (FunHead ++ cs) := ⟨rfl, rfl, h2⟩
  have k1 := At.skip (c := (3, [102, 117, 110, 99], 0)) hs (show (3 : Int) ≠ 0 by decide)
  obtain ⟨n1, n2⟩ := k1.name
  have n3 := n2.want rfl
  have hp := params_stop (o := []) (s := (((⟨ts, 0, zFault⟩ : PS).skip).name.2.want [40])) (by rw [n3.bad, n3.isM]; rfl)
  have n4 := n3.want rfl
  obtain ⟨b, b1, b2, b3⟩ := hb _ n4
  have hf := func_of hp b1
  obtain ⟨n, hpr⟩ := prog_func (o := ⟨[], []⟩) hs hf (prog_end (by rw [b3.bad, b3.kind]; rfl))
  have hlen : ts.length ≤ 60002 := by
    have := lex_count hl h1
    omega
  refine ⟨⟨(⟨ts, 0, zFault⟩ : PS).skip.name.1, [], b.1, (⟨ts, 0, zFault⟩ : PS).skip.now.pos⟩, (parse_of h1 hpr 900000 (by omega)).trans (by rw [if_neg (by rw [b3.bad]; decide)]; rfl), rfl, b2⟩
theorem parse_fun_err {l : Bytes} {cs : List TC} {e : Int} (hl : LexR l (FunHead ++ cs)) (hsz : l.length ≤ 60000) (hb : ∀ s, At s 0 cs → ∃ r, BlockE s r ∧ Er r.2 e) : ∃ f, parseF 900000 l = some (⟨[], []⟩, f) ∧ f.e = e := by
  obtain ⟨ts, h1, h2⟩ := lexL_of hl (by omega)
  have hs : At ⟨ts, 0, zFault⟩ 0 (FunHead ++ cs) := ⟨rfl, rfl, h2⟩
  have k1 := At.skip (c := (3, [102, 117, 110, 99], 0)) hs (show (3 : Int) ≠ 0 by decide)
  obtain ⟨n1, n2⟩ := k1.name
  have n3 := n2.want rfl
  have hp := params_stop (o := []) (s := (((⟨ts, 0, zFault⟩ : PS).skip).name.2.want [40])) (by rw [n3.bad, n3.isM]; rfl)
  have n4 := n3.want rfl
  obtain ⟨b, b1, b2⟩ := hb _ n4
  have hf := func_of hp b1
  obtain ⟨n, hpr⟩ := prog_func (o := ⟨[], []⟩) hs hf (prog_end (by rw [b2.bad]; rfl))
  have hlen : ts.length ≤ 60002 := by
    have := lex_count hl h1
    omega
  exact ⟨_, (parse_of h1 hpr 900000 (by omega)).trans (by rw [if_pos b2.bad]), b2.1⟩
end Go.Proofs.YtgenlgfbjlclbaaDoor
