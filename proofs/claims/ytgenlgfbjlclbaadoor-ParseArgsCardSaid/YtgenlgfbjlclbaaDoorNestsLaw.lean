/- Brackets, signs, blocks, nested: what the parser answers. -/
import Derived.Test.YtgenlgfbjlclbaaDoorPlain
namespace Go.Proofs.YtgenlgfbjlclbaaDoor

def rep {α : Type} : Nat → List α → List α → List α
  | 0, _, r => r
  | n + 1, x, r => x ++ rep n x r
theorem rep_snoc {α : Type} : ∀ (n : Nat) (x r : List α), rep (n + 1) x r = rep n x (x ++ r)
  | 0, _, _ => rfl
  | n + 1, x, r => by
    show x ++ rep (n + 1) x r = x ++ rep n x (x ++ r)
    rw [rep_snoc n x r]
theorem rep_app {α : Type} : ∀ (n : Nat) (x r s : List α), rep n x r ++ s = rep n x (r ++ s)
  | 0, _, _, _ => rfl
  | n + 1, x, r, s => by
    show (x ++ rep n x r) ++ s = x ++ rep n x (r ++ s)
    rw [List.append_assoc, rep_app n x r s]
theorem rep_len {α : Type} : ∀ (n : Nat) (x r : List α), (rep n x r).length = n * x.length + r.length
  | 0, _, _ => by simp [rep]
  | n + 1, x, r => by
    show (x ++ rep n x r).length = _
    rw [List.length_append, rep_len n x r, Nat.add_mul, Nat.one_mul]
    omega
theorem lex_rep {o : Bytes} {tcs : List TC} (G : Bytes → Prop) (hs : ∀ l cs, G l → LexR l cs → LexR (o ++ l) (tcs ++ cs)) (hG : ∀ l, G l → G (o ++ l)) : ∀ (n : Nat) (l : Bytes) (cs : List TC), G l → LexR l cs → LexR (rep n o l) (rep n tcs cs) ∧ G (rep n o l)
  | 0, _, _, g, h => ⟨h, g⟩
  | n + 1, l, cs, g, h => by
    have ih := lex_rep G hs hG n l cs g h
    exact ⟨hs _ _ ih.2 ih.1, hG _ ih.2⟩
theorem UnaryC.any {d : Int} {cs cs' : List TC} {P : Expr → Prop} (h : UnaryC d cs cs' P) : UnaryC d cs cs' (fun _ => True) := fun s hs => by
  obtain ⟨r, h1, _, h3⟩ := h s hs
  exact ⟨r, h1, trivial, h3⟩
theorem StmtC.any {d : Int} {cs cs' : List TC} {P : Stmt → Prop} (h : StmtC d cs cs' P) : StmtC d cs cs' (fun _ => True) := fun s hs => by
  obtain ⟨r, h1, _, h3⟩ := h s hs
  exact ⟨r, h1, trivial, h3⟩
theorem chain_err {s : PS} {r : Expr × PS} {e : Int} (h : UnaryE s r) (he : Er r.2 e) : ∀ j, j ≤ 5 → ExprE (5 - j) s r
  | 0, _ => expr_top h
  | j + 1, hj => by
    have ih := chain_err h he j (by omega)
    rw [show 5 - j = 5 - (j + 1) + 1 by omega] at ih
    exact expr_at (by omega) ih (rest_stop (.inl he.bad))
theorem whole_err {s : PS} {d : Int} {cs : List TC} {e : Int} (hs : At s d cs) (hd : d < 200) (h : ∀ s, At s (d + 1) cs → ∃ r, UnaryE s r ∧ Er r.2 e) : ∃ r, WholeE s r ∧ Er r.2 e := by
  obtain ⟨d1, d2⟩ := hs.down hd
  obtain ⟨r, h1, h2⟩ := h _ d2
  exact ⟨_, whole_yes d1 (chain_err h1 h2 5 (by omega)), h2⟩
theorem whole_deepest {s : PS} {d : Int} {cs : List TC} (hs : At s d cs) (hd : 200 ≤ d) : ∃ r, WholeE s r ∧ Er r.2 13 := by
  obtain ⟨d1, d2⟩ := hs.deepest hd
  exact ⟨_, whole_no d1, d2, by decide⟩

/-! Brackets. -/
theorem parens {c : TC} (_ : noBin c = true) : ∀ (n : Nat) (d : Int) (cs : List TC), d + n ≤ 200 → UnaryC d (rep n [(4, [40], 0)] ((2, [49], 1) :: rep n [(4, [41], 0)] (c :: cs))) (c :: cs) (fun _ => True)
  | 0, d, cs, _ => (unary_num [49] 1).any
  | n + 1, d, cs, h => by
    rw [rep_snoc n [(4, [41], 0)]]
    exact unary_paren (whole_unary (c := (4, [41], 0)) (parens rfl n (d + 1) (c :: cs) (by omega)) rfl (by omega))
theorem parens_err : ∀ (n : Nat) (d : Int) (cs : List TC), d ≤ 200 → 200 < d + n → ∀ s, At s d (rep n [(4, [40], 0)] cs) → ∃ r, UnaryE s r ∧ Er r.2 13
  | 0, d, cs, h1, h2 => by omega
  | n + 1, d, cs, h1, h2 => fun s hs => by
    have hs : At s d ((4, [40], 0) :: rep n [(4, [40], 0)] cs) := hs
    obtain ⟨k1, k2⟩ := no_sign hs rfl
    have h3 := hs.skip (show (4 : Int) ≠ 0 by decide)
    have hw : ∃ r, WholeE s.skip r ∧ Er r.2 13 := by
      by_cases hd : d < 200
      · exact whole_err h3 hd (parens_err n (d + 1) cs (by omega) (by omega))
      · exact whole_deepest h3 (by omega)
    obtain ⟨r, ⟨m, e⟩, he⟩ := hw
    refine ⟨_, unary_prim hs.bad k1 k2 (prim_of (n := m) (r := (r.1, r.2)) ?_), he⟩
    rw [psPrimary, if_neg (by rw [hs.kind]; decide), if_neg (by rw [hs.take]; decide), if_neg (by rw [hs.take]; decide), if_pos (by rw [hs.take]; rfl), e]
    simp only [Option.bind_some]
    rw [bad_want he.bad]
/-! Signs. -/
theorem signs (m : Bytes) (hm : m = [33] ∨ m = [45]) {c : TC} : ∀ (n : Nat) (d : Int) (cs : List TC), d + n ≤ 200 → UnaryC d (rep n [(4, m, 0)] ((2, [49], 1) :: c :: cs)) (c :: cs) (fun _ => True)
  | 0, d, cs, _ => (unary_num [49] 1).any
  | n + 1, d, cs, h => by
    have ih := signs m hm (c := c) n (d + 1) cs (by omega)
    rcases hm with rfl | rfl
    · exact (unary_not (v := 0) ih (by omega)).any
    · exact (unary_minus (v := 0) ih (by omega)).any
theorem signs_err (m : Bytes) (hm : m = [33] ∨ m = [45]) : ∀ (n : Nat) (d : Int) (cs : List TC), d ≤ 200 → 200 < d + n → ∀ s, At s d (rep n [(4, m, 0)] cs) → ∃ r, UnaryE s r ∧ Er r.2 13
  | 0, d, cs, h1, h2 => by omega
  | n + 1, d, cs, h1, h2 => fun s hs => by
    have hs : At s d ((4, m, 0) :: rep n [(4, m, 0)] cs) := hs
    have hsg : (s.isM [33] || s.isM [45]) = true := by
      rw [hs.isM, hs.isM]
      rcases hm with rfl | rfl <;> rfl
    by_cases hd : d < 200
    · obtain ⟨d1, d2⟩ := hs.down hd
      obtain ⟨r, e1, e2⟩ := signs_err m hm n (d + 1) cs (by omega) (by omega) _ (d2.skip (show (4 : Int) ≠ 0 by decide))
      exact ⟨_, unary_sign hs.bad hsg d1 e1, e2⟩
    · obtain ⟨d1, d2⟩ := hs.deepest (show 200 ≤ d by omega)
      exact ⟨_, unary_deep hs.bad hsg d1, d2, by decide⟩
/-! Blocks. -/
abbrev Lb : TC := (4, [123], 0)
abbrev Rb : TC := (4, [125], 0)
abbrev IfA : List TC := [(3, [105, 102], 0), (1, [97], 0), Lb]
abbrev WhA : List TC := [(3, [119, 104, 105, 108, 101], 0), (1, [97], 0), Lb]
theorem cond_a {d : Int} {cs : List TC} (hd : d < 200) : WholeC d ((1, [97], 0) :: Lb :: cs) (Lb :: cs) (fun _ => True) :=
  whole_unary (unary_var (t := [97]) (fun x hx => by cases hx; rfl) (by simp)).any rfl hd
theorem blocks (T : List TC) (hT : T = IfA ∨ T = WhA) : ∀ (n : Nat) (d : Int) (cs : List TC), d + n ≤ 200 → StmtsC [] d (rep n T (rep n [Rb] (Rb :: cs))) cs (fun _ => True)
  | 0, d, cs, _ => stmts_end trivial
  | n + 1, d, cs, h => by
    rw [rep_snoc n [Rb]]
    have ih := blocks T hT n (d + 1) (Rb :: cs) (by omega)
    have hb : BlockC d (Lb :: rep n T (rep n [Rb] (Rb :: Rb :: cs))) (Rb :: cs) (fun _ => True) := block_of ih (by omega)
    rcases hT with rfl | rfl
    · exact stmts_next (t := [105, 102]) (k := 3) (v := 0) (stmt_ch (choice_1 (cond_a (by omega)) hb rfl)).any rfl (fun x _ => stmts_end trivial)
    · exact stmts_next (t := [119, 104, 105, 108, 101]) (k := 3) (v := 0) (stmt_wh (cond_a (by omega)) hb).any rfl (fun x _ => stmts_end trivial)
theorem stmts_err {s : PS} {k v e : Int} {t : Bytes} {d : Int} {cs : List TC} {o : List Stmt} (hs : At s d ((k, t, v) :: cs)) (hne : ((k == 3 || k == 4) && t == [125]) = false) (h : ∃ r, StmtE s r ∧ Er r.2 e) : ∃ r, StmtsE o s r ∧ Er r.2 e := by
  obtain ⟨r, h1, h2⟩ := h
  refine ⟨(o ++ [r.1], r.2.want [125]), stmts_more (by rw [hs.bad, hs.isM, hne]; decide) h1 (stmts_stop (by rw [h2.bad]; rfl)), ?_⟩
  show Er (r.2.want [125]) e
  rw [bad_want h2.bad]
  exact h2
theorem blocks_err (T : List TC) (hT : T = IfA ∨ T = WhA) : ∀ (n : Nat) (d : Int) (cs : List TC), d ≤ 200 → 200 < d + n → ∀ s, At s d (rep n T cs) → ∃ r, StmtsE [] s r ∧ Er r.2 13
  | 0, d, cs, h1, h2 => by omega
  | n + 1, d, cs, h1, h2 => fun s hs => by
    have hbw : ∀ s, At s d ((1, [97], 0) :: Lb :: rep n T cs) → ∃ r b, WholeE s r ∧ BlockE r.2 b ∧ Er b.2 13 := fun s hs => by
      by_cases hd : d < 200
      · obtain ⟨r, w1, _, w3⟩ := cond_a hd s hs
        obtain ⟨d1, d2⟩ := (w3.want rfl).down hd
        obtain ⟨b, b1, b2⟩ := blocks_err T hT n (d + 1) cs (by omega) (by omega) _ d2
        exact ⟨r, _, w1, block_yes d1 b1, b2⟩
      · obtain ⟨r, w1, w2⟩ := whole_deepest hs (show 200 ≤ d by omega)
        exact ⟨r, _, w1, bad_block w2.bad, w2⟩
    rcases hT with rfl | rfl
    · have hs : At s d ((3, [105, 102], 0) :: (1, [97], 0) :: Lb :: rep n IfA cs) := hs
      obtain ⟨r, b, w1, b1, b2⟩ := hbw _ (hs.skip (show (3 : Int) ≠ 0 by decide))
      exact stmts_err hs rfl ⟨_, Go.Proofs.YtgenlgfbjlclbaaDoor.stmt_if_b (by rw [hs.take]; decide) (by rw [hs.take]; rfl) (choice_none w1 b1 (bad_take b2.bad _)), b2⟩
    · have hs : At s d ((3, [119, 104, 105, 108, 101], 0) :: (1, [97], 0) :: Lb :: rep n WhA cs) := hs
      obtain ⟨r, b, w1, b1, b2⟩ := hbw _ (hs.skip (show (3 : Int) ≠ 0 by decide))
      exact stmts_err hs rfl ⟨_, Go.Proofs.YtgenlgfbjlclbaaDoor.stmt_while_b (by rw [hs.take]; decide) (by rw [hs.take]; decide) (by rw [hs.take]; rfl) w1 b1, b2⟩

/-! The texts. -/
abbrev Ret : TC := (3, [114, 101, 116, 117, 114, 110], 0)
abbrev Semi : TC := (4, [59], 0)
abbrev End : TC := (0, [], 0)
def openB (k : Nat) : Bytes := [[40], [45], [33], [105, 102, 32, 97, 32, 123], [119, 104, 105, 108, 101, 32, 97, 32, 123]].getD k []
def shutB (k : Nat) : Bytes := [[41], [], [], [125], [125]].getD k []
def nestT (k n : Nat) : Bytes := if k < 3 then [102, 117, 110, 99, 32, 102, 40, 41, 32, 123, 32, 114, 101, 116, 117, 114, 110, 32] ++ rep n (openB k) (49 :: rep n (shutB k) [59, 32, 125]) else [102, 117, 110, 99, 32, 102, 40, 41, 32, 123, 32] ++ rep n (openB k) (rep n (shutB k) [32, 125])
theorem lex_head {l : Bytes} {cs : List TC} (h : LexR l cs) : LexR ([102, 117, 110, 99, 32, 102, 40, 41, 32, 123, 32] ++ l) (FunHead ++ Lb :: cs) :=
  (lexr_name (c := 102) (s := [117, 110, 99]) rfl rfl (fun x hx => by cases hx; rfl) (lexr_blank (c := 32) rfl (lexr_name (c := 102) (s := []) rfl rfl (fun x hx => by cases hx; rfl) (lexr_mark (c := 40) (s := []) rfl rfl rfl (lexr_mark (c := 41) (s := []) rfl rfl rfl (lexr_blank (c := 32) rfl (lexr_mark (c := 123) (s := []) rfl rfl rfl (lexr_blank (c := 32) rfl h))))))))
theorem lex_ret {l : Bytes} {cs : List TC} (h : LexR l cs) : LexR ([102, 117, 110, 99, 32, 102, 40, 41, 32, 123, 32, 114, 101, 116, 117, 114, 110, 32] ++ l) (FunHead ++ Lb :: Ret :: cs) :=
  (lexr_name (c := 102) (s := [117, 110, 99]) rfl rfl (fun x hx => by cases hx; rfl) (lexr_blank (c := 32) rfl (lexr_name (c := 102) (s := []) rfl rfl (fun x hx => by cases hx; rfl) (lexr_mark (c := 40) (s := []) rfl rfl rfl (lexr_mark (c := 41) (s := []) rfl rfl rfl (lexr_blank (c := 32) rfl (lexr_mark (c := 123) (s := []) rfl rfl rfl (lexr_blank (c := 32) rfl (lexr_name (c := 114) (s := [101, 116, 117, 114, 110]) rfl rfl (fun x hx => by cases hx; rfl) (lexr_blank (c := 32) rfl h))))))))))
theorem lex_tail : LexR [59, 32, 125] [Semi, Rb, End] := (lexr_mark (c := 59) (s := []) rfl rfl rfl (lexr_blank (c := 32) rfl (lexr_mark (c := 125) (s := []) rfl rfl rfl lexr_nil)))
theorem lex_btail : LexR [32, 125] [Rb, End] := (lexr_blank (c := 32) rfl (lexr_mark (c := 125) (s := []) rfl rfl rfl lexr_nil))
theorem lex_one {l : Bytes} {cs : List TC} (hl : ∀ x, l.head? = some x → isDigit x = false) (h : LexR l cs) : LexR (49 :: l) ((2, [49], 1) :: cs) := lexr_num (c := 49) (s := []) (v := 1) rfl rfl rfl hl h
theorem rep_nil {α : Type} : ∀ (n : Nat) (r : List α), rep n [] r = r
  | 0, _ => rfl
  | n + 1, r => rep_nil n r
theorem lex_shut {l : Bytes} {cs : List TC} (c : UInt8) (hc : c = 41 ∨ c = 125) (n : Nat) (h : LexR l cs) : LexR (rep n [c] l) (rep n [(4, [c], 0)] cs) :=
  (lex_rep (fun _ => True) (fun l cs _ h => by rcases hc with rfl | rfl; exact lexr_mark (c := 41) (s := []) rfl rfl rfl h; exact lexr_mark (c := 125) (s := []) rfl rfl rfl h) (fun _ _ => trivial) n l cs trivial h).1
theorem bang_mark {l : Bytes} (h : l.head? ≠ some 61) : marksL.find? (fun m => m.isPrefixOf (33 :: ([] ++ l))) = some [33] := by
  cases l with
  | nil => rfl
  | cons x r =>
    have hx : ((61 : UInt8) == x) = false := by
      rw [beq_eq_false_iff_ne]
      exact fun he => h (by rw [he]; rfl)
    simp [marksL, List.find?, List.isPrefixOf, hx]
theorem head_rep_1 {n : Nat} {l : Bytes} (hl : ∀ x, l.head? = some x → isDigit x = false) : ∀ x, (rep n [41] l).head? = some x → isDigit x = false := by
  cases n with
  | zero => exact hl
  | succ n => intro x hx; cases hx; rfl
/-- WHAT THE PARSER ANSWERS: a function, or that it is nested too deep. -/
theorem nests_law (k n : Nat) (hk : k < 5) (hn : n < 256) :
    ((if k < 3 then 2 else 1) + n ≤ 200 → ∃ F, parseF 900000 (nestT k n) = some (⟨[], [F]⟩, zFault)) ∧ (200 < (if k < 3 then 2 else 1) + n → ∃ f, parseF 900000 (nestT k n) = some (⟨[], []⟩, f) ∧ f.e = 13) := by
  have semi : ∀ x, ([59, 32, 125] : Bytes).head? = some x → isDigit x = false := fun x hx => by cases hx; rfl
  have hlen : (nestT k n).length ≤ 60000 := by
    have h1 : (openB k).length ≤ 9 := by
      have : ∀ k, k < 5 → (openB k).length ≤ 9 := by decide
      exact this k hk
    have h2 : (shutB k).length ≤ 1 := by
      have : ∀ k, k < 5 → (shutB k).length ≤ 1 := by decide
      exact this k hk
    have h3 : n * (openB k).length ≤ 256 * 9 := Nat.mul_le_mul (by omega) h1
    have h4 : n * (shutB k).length ≤ 256 * 1 := Nat.mul_le_mul (by omega) h2
    unfold nestT
    split
    · simp only [List.length_append, rep_len, List.length_cons, List.length_nil]
      omega
    · simp only [List.length_append, rep_len, List.length_cons, List.length_nil]
      omega
  have hret : ∀ {cs : List TC}, (∀ s, At s 1 (Ret :: cs) → ∃ r, StmtE s r ∧ Er r.2 13) → ∀ s, At s 0 (Lb :: Ret :: cs) → ∃ r, BlockE s r ∧ Er r.2 13 := fun h s hs => by
    obtain ⟨d1, d2⟩ := (hs.want rfl).down (by decide)
    obtain ⟨r, r1, r2⟩ := stmts_err (o := []) d2 rfl (h _ d2)
    exact ⟨_, block_yes d1 r1, r2⟩
  have hstm : ∀ {cs : List TC}, (∀ s, At s 2 cs → ∃ r, UnaryE s r ∧ Er r.2 13) → ∀ s, At s 1 (Ret :: cs) → ∃ r, StmtE s r ∧ Er r.2 13 := fun h s hs => by
    obtain ⟨r, r1, r2⟩ := whole_err (hs.skip (show (3 : Int) ≠ 0 by decide)) (by decide) h
    exact ⟨_, Go.Proofs.YtgenlgfbjlclbaaDoor.stmt_return_b (by rw [hs.take]; decide) (by rw [hs.take]; decide) (by rw [hs.take]; decide) (by rw [hs.take]; rfl) r1, by
      show Er (r.2.want [59]) 13
      rw [bad_want r2.bad]
      exact r2⟩
  have hok : ∀ {cs : List TC}, UnaryC 2 cs [Semi, Rb, End] (fun _ => True) → BlockC 0 (Lb :: Ret :: cs) [End] (fun _ => True) := fun h =>
    block_of (stmts_next (stmt_ret (whole_unary h rfl (by decide))).any rfl (fun _ _ => stmts_end trivial)) (by decide)
  have hcase : k = 0 ∨ k = 1 ∨ k = 2 ∨ k = 3 ∨ k = 4 := by omega
  rcases hcase with rfl | rfl | rfl | rfl | rfl
  · have hl : LexR (nestT 0 n) (FunHead ++ Lb :: Ret :: rep n [(4, [40], 0)] ((2, [49], 1) :: rep n [(4, [41], 0)] [Semi, Rb, End])) :=
      lex_ret (lex_rep (fun _ => True) (fun l cs _ h => lexr_mark (c := 40) (s := []) rfl rfl rfl h) (fun _ _ => trivial) n _ _ trivial (lex_one (head_rep_1 semi) (lex_shut 41 (.inl rfl) n lex_tail))).1
    refine ⟨fun h => ?_, fun h => ?_⟩
    · obtain ⟨F, h1, _⟩ := parse_fun hl hlen (hok (parens rfl n 2 _ (by simp at h; omega)))
      exact ⟨F, h1⟩
    · exact parse_fun_err hl hlen (hret (hstm (parens_err n 2 _ (by decide) (by simp at h; omega))))
  · have hl : LexR (nestT 1 n) (FunHead ++ Lb :: Ret :: rep n [(4, [45], 0)] ((2, [49], 1) :: [Semi, Rb, End])) := by
      have h0 : LexR (49 :: rep n (shutB 1) [59, 32, 125]) ((2, [49], 1) :: [Semi, Rb, End]) := by
        rw [show shutB 1 = [] from rfl, rep_nil]
        exact lex_one semi lex_tail
      exact lex_ret (lex_rep (fun _ => True) (fun l cs _ h => lexr_mark (c := 45) (s := []) rfl rfl rfl h) (fun _ _ => trivial) n _ _ trivial h0).1
    refine ⟨fun h => ?_, fun h => ?_⟩
    · obtain ⟨F, h1, _⟩ := parse_fun hl hlen (hok (signs [45] (.inr rfl) n 2 _ (by simp at h; omega)))
      exact ⟨F, h1⟩
    · exact parse_fun_err hl hlen (hret (hstm (signs_err [45] (.inr rfl) n 2 _ (by decide) (by simp at h; omega))))
  · have hl : LexR (nestT 2 n) (FunHead ++ Lb :: Ret :: rep n [(4, [33], 0)] ((2, [49], 1) :: [Semi, Rb, End])) := by
      have h0 : LexR (49 :: rep n (shutB 2) [59, 32, 125]) ((2, [49], 1) :: [Semi, Rb, End]) := by
        rw [show shutB 2 = [] from rfl, rep_nil]
        exact lex_one semi lex_tail
      exact lex_ret (lex_rep (fun l => l.head? ≠ some 61) (fun l cs g h => lexr_mark (c := 33) (s := []) rfl rfl (bang_mark g) h) (fun _ _ h => by cases h) n _ _ (fun h => by cases h) h0).1
    refine ⟨fun h => ?_, fun h => ?_⟩
    · obtain ⟨F, h1, _⟩ := parse_fun hl hlen (hok (signs [33] (.inl rfl) n 2 _ (by simp at h; omega)))
      exact ⟨F, h1⟩
    · exact parse_fun_err hl hlen (hret (hstm (signs_err [33] (.inl rfl) n 2 _ (by decide) (by simp at h; omega))))
  · have hl : LexR (nestT 3 n) (FunHead ++ Lb :: rep n IfA (rep n [Rb] [Rb, End])) :=
      lex_head (lex_rep (o := [105, 102, 32, 97, 32, 123]) (tcs := IfA) (fun _ => True) (fun l cs _ h => (lexr_name (c := 105) (s := [102]) rfl rfl (fun x hx => by cases hx; rfl) (lexr_blank (c := 32) rfl (lexr_name (c := 97) (s := []) rfl rfl (fun x hx => by cases hx; rfl) (lexr_blank (c := 32) rfl (lexr_mark (c := 123) (s := []) rfl rfl rfl h)))))) (fun _ _ => trivial) n _ _ trivial (lex_shut 125 (.inr rfl) n lex_btail)).1
    refine ⟨fun h => ?_, fun h => ?_⟩
    · obtain ⟨F, h1, _⟩ := parse_fun hl hlen (block_of (blocks IfA (.inl rfl) n 1 _ (by simp at h; omega)) (by decide))
      exact ⟨F, h1⟩
    · refine parse_fun_err hl hlen (fun s hs => ?_)
      obtain ⟨d1, d2⟩ := (At.want hs rfl).down (by decide)
      obtain ⟨r, r1, r2⟩ := blocks_err IfA (.inl rfl) n 1 _ (by decide) (by simp at h; omega) _ d2
      exact ⟨_, block_yes d1 r1, r2⟩
  · have hl : LexR (nestT 4 n) (FunHead ++ Lb :: rep n WhA (rep n [Rb] [Rb, End])) :=
      lex_head (lex_rep (o := [119, 104, 105, 108, 101, 32, 97, 32, 123]) (tcs := WhA) (fun _ => True) (fun l cs _ h => (lexr_name (c := 119) (s := [104, 105, 108, 101]) rfl rfl (fun x hx => by cases hx; rfl) (lexr_blank (c := 32) rfl (lexr_name (c := 97) (s := []) rfl rfl (fun x hx => by cases hx; rfl) (lexr_blank (c := 32) rfl (lexr_mark (c := 123) (s := []) rfl rfl rfl h)))))) (fun _ _ => trivial) n _ _ trivial (lex_shut 125 (.inr rfl) n lex_btail)).1
    refine ⟨fun h => ?_, fun h => ?_⟩
    · obtain ⟨F, h1, _⟩ := parse_fun hl hlen (block_of (blocks WhA (.inr rfl) n 1 _ (by simp at h; omega)) (by decide))
      exact ⟨F, h1⟩
    · refine parse_fun_err hl hlen (fun s hs => ?_)
      obtain ⟨d1, d2⟩ := (At.want hs rfl).down (by decide)
      obtain ⟨r, r1, r2⟩ := blocks_err WhA (.inr rfl) n 1 _ (by decide) (by simp at h; omega) _ d2
      exact ⟨_, block_yes d1 r1, r2⟩
end Go.Proofs.YtgenlgfbjlclbaaDoor
