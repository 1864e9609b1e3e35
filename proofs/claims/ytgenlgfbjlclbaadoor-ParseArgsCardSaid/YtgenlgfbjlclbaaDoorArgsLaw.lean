/- Arguments, parameters, globals, as many as one likes: what the parser answers. -/
import Derived.Test.YtgenlgfbjlclbaaDoorNestsLaw
namespace Go.Proofs.YtgenlgfbjlclbaaDoor

/-- Items with a separator between, from number j on. -/
def sepF {α : Type} (sep : List α) (item : Nat → List α) : Nat → Nat → List α
  | _, 0 => []
  | j, k + 1 => (if j = 0 then [] else sep) ++ (item j ++ sepF sep item (j + 1) k)
theorem sepF_snoc {α : Type} (sep : List α) (item : Nat → List α) : ∀ (k j : Nat), sepF sep item j (k + 1) = sepF sep item j k ++ ((if j + k = 0 then [] else sep) ++ item (j + k))
  | 0, j => by simp [sepF]
  | k + 1, j => by
    rw [sepF, sepF_snoc sep item k (j + 1), sepF, show j + 1 + k = j + (k + 1) by omega]
    simp only [List.append_assoc]
theorem sepF_len {α : Type} (sep : List α) (item : Nat → List α) (a b : Nat) (hs : sep.length ≤ a) (hi : ∀ j, (item j).length ≤ b) : ∀ (k j : Nat), (sepF sep item j k).length ≤ k * (a + b)
  | 0, j => by simp [sepF]
  | k + 1, j => by
    have ih := sepF_len sep item a b hs hi k (j + 1)
    have h2 := hi j
    have h3 : (if j = 0 then [] else sep).length ≤ a := by
      split
      · exact Nat.zero_le _
      · exact hs
    rw [sepF, List.length_append, List.length_append, Nat.add_mul, Nat.one_mul]
    omega
theorem lex_sep {sep : Bytes} {item : Nat → Bytes} {sepC : List TC} {itemC : Nat → List TC} (G : Bytes → Prop) (hi : ∀ j l cs, G l → LexR l cs → LexR (item j ++ l) (itemC j ++ cs)) (hs : ∀ l cs, LexR l cs → LexR (sep ++ l) (sepC ++ cs)) (hG : ∀ j l, G (sep ++ (item j ++ l))) :
    ∀ (k j : Nat) (l : Bytes) (cs : List TC), G l → LexR l cs → LexR (sepF sep item j k ++ l) (sepF sepC itemC j k ++ cs)
  | 0, _, _, _, _, h => h
  | k + 1, j, l, cs, g, h => by
    have g2 : G (sepF sep item (j + 1) k ++ l) := by
      cases k with
      | zero => exact g
      | succ k =>
        rw [sepF, if_neg (by omega), List.append_assoc, List.append_assoc]
        exact hG _ _
    have ih := hi j _ _ g2 (lex_sep G hi hs hG k (j + 1) l cs g h)
    rw [sepF, sepF]
    by_cases hj : j = 0
    · rw [if_pos hj, if_pos hj, List.nil_append, List.nil_append, List.append_assoc, List.append_assoc]
      exact ih
    · rw [if_neg hj, if_neg hj, List.append_assoc, List.append_assoc, List.append_assoc, List.append_assoc]
      exact hs _ _ ih
/-! The names: 'n' and one of eight letters. -/
def nmL (i : Int) : UInt8 := UInt8.ofNat (97 + (bits BinOp.and IntKind.i64 i 7).toNat)
def nmB (i : Nat) : Bytes := [110, nmL i]
def nmC (i : Nat) : List TC := [(1, nmB i, 0)]
theorem lex_letter {x : UInt8} (hx : x ∈ ([97, 98, 99, 100, 101, 102, 103, 104] : Bytes)) {l : Bytes} {cs : List TC} (g : ∀ y, l.head? = some y → alnum y = false) (h : LexR l cs) : LexR (110 :: x :: l) ((1, [110, x], 0) :: cs) := by
  have hw : ∀ x ∈ ([97, 98, 99, 100, 101, 102, 103, 104] : Bytes), ([x] : Bytes).all alnum = true ∧ wordsL.contains [110, x] = false := by decide
  obtain ⟨h1, h2⟩ := hw x hx
  have := lexr_name (c := 110) (s := [x]) rfl h1 g h
  rw [if_neg (by rw [h2]; decide)] at this
  exact this
theorem and_seven (x : Int) : bits BinOp.and IntKind.i64 x 7 = ((bits BinOp.and IntKind.i64 x 7).toNat : Int) ∧ (bits BinOp.and IntKind.i64 x 7).toNat ≤ 7 := by
  have h : (BitVec.ofInt 64 x &&& BitVec.ofInt 64 7).toNat ≤ (BitVec.ofInt 64 7).toNat := by rw [BitVec.toNat_and]; exact Nat.and_le_right
  have h2 : (BitVec.ofInt 64 7).toNat = 7 := rfl
  have e : bits BinOp.and IntKind.i64 x 7 = ((BitVec.ofInt 64 x &&& BitVec.ofInt 64 7).toNat : Int) := by
    show IntKind.i64.wrap (((BitVec.ofInt 64 x &&& BitVec.ofInt 64 7).toNat : Nat) : Int) = _
    rw [IntKind.wrap_i64]
    omega
  rw [e]
  omega
theorem nmL_in (i : Int) : nmL i ∈ ([97, 98, 99, 100, 101, 102, 103, 104] : Bytes) := by
  have h := (and_seven i).2
  unfold nmL
  generalize (bits BinOp.and IntKind.i64 i 7).toNat = k at h
  have : ∀ k, k < 8 → UInt8.ofNat (97 + k) ∈ ([97, 98, 99, 100, 101, 102, 103, 104] : Bytes) := by decide
  exact this k (by omega)
abbrev Comma : TC := (4, [44], 0)
abbrev Shut : TC := (4, [41], 0)
def NoName (l : Bytes) : Prop := ∀ y, l.head? = some y → alnum y = false
theorem lex_nm (j : Nat) (l : Bytes) (cs : List TC) (g : NoName l) (h : LexR l cs) : LexR (nmB j ++ l) (nmC j ++ cs) := lex_letter (nmL_in _) g h
/-! The parser. -/
theorem params_c {d : Int} {cs : List TC} : ∀ (k : Nat) (o : List ByteArray) (s : PS), At s d (sepF [Comma] nmC o.length k ++ Shut :: cs) → ∃ r, ParamsE o s r ∧ r.1.length = o.length + k ∧ At r.2 d cs
  | 0, o, s, hs => by
    have hs : At s d (Shut :: cs) := hs
    exact ⟨_, params_stop (by rw [hs.bad, hs.isM]; rfl), rfl, hs.want rfl⟩
  | k + 1, o, s, hs => by
    have go : ∀ s1 : PS, s1 = (if o = [] then s else s.want [44]) → ¬ (s.bad || s.isM [41]) = true → At s1 d ((1, nmB o.length, 0) :: (sepF [Comma] nmC (o.length + 1) k ++ Shut :: cs)) → ∃ r, ParamsE o s r ∧ r.1.length = o.length + (k + 1) ∧ At r.2 d cs := by
      intro s1 he hn h1
      obtain ⟨_, n2⟩ := h1.name
      obtain ⟨r, r1, r2, r3⟩ := params_c k (o ++ [s1.name.1]) s1.name.2 (by rw [List.length_append]; exact n2)
      rw [he] at r1
      refine ⟨r, params_more hn r1, ?_, r3⟩
      rw [r2, List.length_append]
      simp only [List.length_cons, List.length_nil]
      omega
    cases o with
    | nil =>
      have hs : At s d ((1, nmB 0, 0) :: (sepF [Comma] nmC (0 + 1) k ++ Shut :: cs)) := hs
      exact go s rfl (by rw [hs.bad, hs.isM]; simp) hs
    | cons a b =>
      have hs : At s d (Comma :: (1, nmB (a :: b).length, 0) :: (sepF [Comma] nmC ((a :: b).length + 1) k ++ Shut :: cs)) := hs
      exact go (s.want [44]) rfl (by rw [hs.bad, hs.isM]; decide) (hs.want rfl)
def oneC (_ : Nat) : List TC := [(2, [49], 1)]
theorem one_c {d : Int} {c : TC} {cs : List TC} (hn : noBin c = true) (hd : d < 200) : WholeC d ((2, [49], 1) :: c :: cs) (c :: cs) (fun _ => True) := whole_unary (unary_num [49] 1).any hn hd
theorem args_c {d : Int} {cs : List TC} (hd : d < 200) : ∀ (k : Nat) (o : List Expr), ArgsC o d (sepF [Comma] oneC o.length k ++ Shut :: cs) cs (fun l => l.length = o.length + k)
  | 0, o => args_end rfl
  | k + 1, o => by
    have one : WholeC d ((2, [49], 1) :: (sepF [Comma] oneC (o.length + 1) k ++ Shut :: cs)) (sepF [Comma] oneC (o.length + 1) k ++ Shut :: cs) (fun _ => True) := by
      cases k with
      | zero => exact one_c rfl hd
      | succ k => rw [sepF, if_neg (by omega)]; exact one_c rfl hd
    have rest : ∀ x : Expr, ArgsC (o ++ [x]) d (sepF [Comma] oneC (o.length + 1) k ++ Shut :: cs) cs (fun l => l.length = o.length + (k + 1)) := fun x s hs => by
      obtain ⟨r, r1, r2, r3⟩ := args_c hd k (o ++ [x]) s (by rw [List.length_append]; exact hs)
      exact ⟨r, r1, by show r.1.length = _; rw [r2, List.length_append]; simp only [List.length_cons, List.length_nil]; omega, r3⟩
    cases o with
    | nil => exact args_first one rfl (fun x _ => rest x)
    | cons a b => exact args_next (by simp) one (fun x _ => rest x)
def gC (j : Nat) : List TC := (3, [118, 97, 114], 0) :: (1, nmB j, 0) :: (4, [91], 0) :: (2, [55], 7) :: (4, [93], 0) :: [(4, [59], 0)]
theorem global_c {d : Int} {cs : List TC} {t : Bytes} {s : PS} (hs : At s d ((1, t, 0) :: (4, [91], 0) :: (2, [55], 7) :: (4, [93], 0) :: (4, [59], 0) :: cs)) : At (globalL 0 s).2 d cs := by
  obtain ⟨_, n2⟩ := hs.name
  have n3 := n2.skip (show (4 : Int) ≠ 0 by decide)
  have h4 := n3.num
  unfold globalL
  rw [if_pos (by rw [n2.take]; rfl)]
  simp only []
  rw [if_neg (by rw [n3.bad]; decide), if_neg (by rw [n3.kind]; decide), if_neg (by rw [h4]; decide)]
  exact ((n3.skip (show (2 : Int) ≠ 0 by decide)).want rfl).want rfl
theorem globals_c {d : Int} {cs : List TC} : ∀ (k j : Nat) (o : Prog) (s : PS), At s d (sepF [] gC j k ++ cs) → ∃ o' s', At s' d cs ∧ o'.globals.length = o.globals.length + k ∧ o'.funcs = o.funcs ∧ ∀ r, ProgE o' s' r → ProgE o s r
  | 0, _, o, s, hs => ⟨o, s, hs, rfl, rfl, fun _ h => h⟩
  | k + 1, j, o, s, hs => by
    have hs : At s d ((3, [118, 97, 114], 0) :: (1, nmB j, 0) :: (4, [91], 0) :: (2, [55], 7) :: (4, [93], 0) :: (4, [59], 0) :: (sepF [] gC (j + 1) k ++ cs)) := by
      rw [sepF, show (if j = 0 then [] else ([] : List TC)) = [] by split <;> rfl] at hs
      exact hs
    have h2 := global_c (hs.skip (show (3 : Int) ≠ 0 by decide))
    obtain ⟨o', s', h3, h4, h5, h6⟩ := globals_c k (j + 1) ⟨o.globals ++ [(globalL 0 s.skip).1], o.funcs⟩ _ h2
    refine ⟨o', s', h3, ?_, h5, fun r hr => prog_var hs (h6 r hr)⟩
    rw [h4, List.length_append]
    simp only [List.length_cons, List.length_nil]
    omega
/-! The text. -/
def gB (j : Nat) : Bytes := [118, 97, 114, 32] ++ (nmB j ++ [91, 55, 93, 59])
def gsB (m : Nat) : Bytes := sepF [] gB 0 m
def psB (m : Nat) : Bytes := sepF [44, 32] nmB 0 m
def asB (n : Nat) : Bytes := sepF [44] (fun _ => [49]) 0 n
def argsT (n m : Nat) : Bytes := gsB m ++ ([102, 117, 110, 99, 32, 102, 40] ++ (psB m ++ ([41, 32, 123, 32, 103, 40] ++ (asB n ++ [41, 59, 32, 125]))))
theorem lex_end : LexR [41, 59, 32, 125] [Shut, Semi, Rb, End] := (lexr_mark (c := 41) (s := []) rfl rfl rfl (lexr_mark (c := 59) (s := []) rfl rfl rfl (lexr_blank (c := 32) rfl (lexr_mark (c := 125) (s := []) rfl rfl rfl lexr_nil))))
theorem lex_mid {l : Bytes} {cs : List TC} (h : LexR l cs) : LexR ([41, 32, 123, 32, 103, 40] ++ l) (Shut :: Lb :: (1, [103], 0) :: (4, [40], 0) :: cs) := (lexr_mark (c := 41) (s := []) rfl rfl rfl (lexr_blank (c := 32) rfl (lexr_mark (c := 123) (s := []) rfl rfl rfl (lexr_blank (c := 32) rfl (lexr_name (c := 103) (s := []) rfl rfl (fun x hx => by cases hx; rfl) (lexr_mark (c := 40) (s := []) rfl rfl rfl h))))))
theorem lex_fun {l : Bytes} {cs : List TC} (h : LexR l cs) : LexR ([102, 117, 110, 99, 32, 102, 40] ++ l) ((3, [102, 117, 110, 99], 0) :: (1, [102], 0) :: (4, [40], 0) :: cs) := (lexr_name (c := 102) (s := [117, 110, 99]) rfl rfl (fun x hx => by cases hx; rfl) (lexr_blank (c := 32) rfl (lexr_name (c := 102) (s := []) rfl rfl (fun x hx => by cases hx; rfl) (lexr_mark (c := 40) (s := []) rfl rfl rfl h))))
theorem lex_sev {l : Bytes} {cs : List TC} (h : LexR l cs) : LexR ([91, 55, 93, 59] ++ l) ((4, [91], 0) :: (2, [55], 7) :: (4, [93], 0) :: (4, [59], 0) :: cs) := (lexr_mark (c := 91) (s := []) rfl rfl rfl (lexr_num (c := 55) (s := []) (v := 7) rfl rfl rfl (fun x hx => by cases hx; rfl) (lexr_mark (c := 93) (s := []) rfl rfl rfl (lexr_mark (c := 59) (s := []) rfl rfl rfl h))))
theorem lex_var {l : Bytes} {cs : List TC} (h : LexR l cs) : LexR ([118, 97, 114, 32] ++ l) ((3, [118, 97, 114], 0) :: cs) := (lexr_name (c := 118) (s := [97, 114]) rfl rfl (fun x hx => by cases hx; rfl) (lexr_blank (c := 32) rfl h))
theorem args_law (n m : Nat) (hn : n < 32) (hm : m < 32) : ∃ gs F S E, parseF 900000 (argsT n m) = some (⟨gs, [F]⟩, zFault) ∧ gs.length = m ∧ F.params.length = m ∧ F.body = [S] ∧ S.es = [E] ∧ E.kids.length = n := by
  have hl : LexR (argsT n m) (sepF [] gC 0 m ++ ((3, [102, 117, 110, 99], 0) :: (1, [102], 0) :: (4, [40], 0) :: (sepF [Comma] nmC 0 m ++ (Shut :: Lb :: (1, [103], 0) :: (4, [40], 0) :: (sepF [Comma] oneC 0 n ++ [Shut, Semi, Rb, End]))))) := by
    refine lex_sep (sep := []) (sepC := []) (fun _ => True) (fun j l cs _ h => ?_) (fun _ _ h => h) (fun _ _ => trivial) m 0 _ _ trivial (lex_fun (lex_sep NoName lex_nm (fun l cs h => ?_) (fun _ _ y hy => by cases hy; rfl) m 0 _ _ (fun y hy => by cases hy; rfl) (lex_mid (lex_sep (fun l => ∀ y, l.head? = some y → isDigit y = false) (fun j l cs g h => lex_one g h) (fun l cs h => ?_) (fun _ _ y hy => by cases hy; rfl) n 0 _ _ (fun y hy => by cases hy; rfl) lex_end))))
    · have := lex_var (lex_nm j _ _ (fun y hy => by cases hy; rfl) (lex_sev h))
      rw [gB, List.append_assoc, List.append_assoc]
      exact this
    · exact (lexr_mark (c := 44) (s := []) rfl rfl rfl (lexr_blank (c := 32) rfl h))
    · exact (lexr_mark (c := 44) (s := []) rfl rfl rfl h)
  have hlen : (argsT n m).length ≤ 60000 := by
    have h1 := sepF_len [] gB 0 10 (Nat.le_refl _) (fun _ => Nat.le_refl _) m 0
    have h2 := sepF_len [44, 32] nmB 2 2 (Nat.le_refl _) (fun _ => Nat.le_refl _) m 0
    have h3 := sepF_len ([44] : Bytes) (fun _ => [49]) 1 1 (Nat.le_refl _) (fun _ => Nat.le_refl _) n 0
    unfold argsT gsB psB asB
    simp only [List.length_append, List.length_cons, List.length_nil]
    omega
  obtain ⟨ts, h1, h2⟩ := lexL_of hl (by omega)
  obtain ⟨o, s, hs, ho1, ho2, hgo⟩ := globals_c m 0 ⟨[], []⟩ ⟨ts, 0, zFault⟩ ⟨rfl, rfl, h2⟩
  have k1 := hs.skip (show (3 : Int) ≠ 0 by decide)
  obtain ⟨n1, n2⟩ := k1.name
  obtain ⟨ps, p1, p2, p3⟩ := params_c m [] _ (n2.want rfl)
  have hb : BlockC 0 (Lb :: (1, [103], 0) :: (4, [40], 0) :: (sepF [Comma] oneC 0 n ++ [Shut, Semi, Rb, End])) [End] (fun l => ∃ S E, l = [S] ∧ S.es = [E] ∧ E.kids.length = n) :=
    block_of (stmts_next (stmt_call (t := [103]) (v := 0) (v' := 0) (whole_unary (unary_call (args_c (by decide) n [])) rfl (by decide)) (fun e he => he.1)) rfl (fun x hx => stmts_end (by
      obtain ⟨_, _, _, _, e, he, _, _, _, _, hk⟩ := hx
      exact ⟨x, e, rfl, he, by rw [hk]; simp⟩))) (by decide)
  obtain ⟨b, b1, ⟨S, E, b2, b3, b4⟩, b5⟩ := hb _ p3
  obtain ⟨q, hpr⟩ := hgo _ (prog_func hs (func_of p1 b1) (prog_end (by rw [b5.bad, b5.kind]; rfl)))
  have hts : ts.length ≤ 60002 := by
    have := lex_count hl h1
    omega
  refine ⟨o.globals, _, S, E, (parse_of h1 hpr 900000 (by omega)).trans (by rw [if_neg (by rw [b5.bad]; decide), ho2]; rfl), by simpa using ho1, by simpa using p2, b2, b3, b4⟩
end Go.Proofs.YtgenlgfbjlclbaaDoor
