/- A chain of else-ifs: what the parser answers. -/
import Derived.Test.YtgenlgfbjlclbaaDoorOps
namespace Go.Proofs.YtgenlgfbjlclbaaDoor

/-- So many else-ifs, each the only statement of the else before; a last else, or none. -/
def Chain : Nat → Bool → Stmt → Prop
  | 0, last, S => S.does = 4 ∧ S.thens.length = 1 ∧ S.es.length = 1 ∧ if last then ∃ T, S.elses = [T] ∧ T.does = 2 else S.elses = []
  | n + 1, last, S => S.does = 4 ∧ S.thens.length = 1 ∧ S.es.length = 1 ∧ ∃ T, S.elses = [T] ∧ Chain n last T
/-- What is asked: a name, a number. -/
def Ask (i : Int) (t : Bytes) : List TC := [(1, [97], 0), (4, [61, 61], 0), (2, t, i)]
def Body (i : Int) (t : Bytes) : List TC := [(4, [123], 0), (1, [120], 0), (4, [61], 0), (2, t, i), (4, [59], 0), (4, [125], 0)]
theorem asked {d : Int} (hd : d < 200) (i : Int) (t : Bytes) (cs : List TC) : WholeC d (Ask i t ++ Lb :: cs) (Lb :: cs) (fun _ => True) :=
  whole_of (expr_lift (by decide) (expr_lift (by decide) (expr_c (P := fun _ => True) (by decide)
    (expr_lift (by decide) (expr_lift (by decide) (expr_u (unary_var (t := [97]) (fun x hx => by cases hx; rfl) (by simp)).any) rfl) rfl)
    (fun a _ => rest_cmp (P := fun _ => True) rfl (by decide) (expr_lift (by decide) (expr_lift (by decide) (expr_u (unary_num t i).any) rfl) rfl) (fun _ _ _ => trivial))) rfl) rfl) hd
theorem set_num {d : Int} (hd : d < 200) (i : Int) (t : Bytes) (cs : List TC) : WholeC d ((2, t, i) :: (4, [59], 0) :: cs) ((4, [59], 0) :: cs) (fun _ => True) := whole_unary (unary_num t i).any rfl hd
theorem set_var {d : Int} (hd : d < 200) (cs : List TC) : WholeC d ((1, [120], 0) :: (4, [61], 0) :: cs) ((4, [61], 0) :: cs) (fun e => e.kind = 3 ∧ e.name = bsOf [120]) := fun s hs => by
  obtain ⟨r, h1, h2, h3⟩ := whole_unary (c := (4, [61], 0)) (cs' := cs) (unary_var (t := [120]) (v := 0) (fun x hx => by cases hx; rfl) (by simp)) rfl hd s hs
  exact ⟨r, h1, ⟨h2.1, h2.2.2.1⟩, h3⟩
theorem body_set {d : Int} (hd : d < 199) (i : Int) (t : Bytes) (cs : List TC) : BlockC d (Body i t ++ cs) cs (fun l => ∃ T, l = [T] ∧ T.does = 2) :=
  block_of (stmts_next (P := fun T => T.does = 2) (fun s hs => by
    obtain ⟨r, h1, h2, h3⟩ := stmt_set (t := [120]) (set_var (by omega) _) (fun e h => h) (set_num (by omega) i t _) s hs
    exact ⟨r, h1, h2.1, h3⟩) rfl (fun x hx => stmts_end ⟨x, rfl, hx⟩)) (by omega)
def Else (last : Bool) : List TC := if last then (3, [101, 108, 115, 101], 0) :: Body 2 [50] else []
def Elif : List TC := (3, [101, 108, 115, 101], 0) :: (3, [105, 102], 0) :: (Ask 1 [49] ++ Body 1 [49])
/-- From behind 'if' on. -/
theorem chain_if (last : Bool) (cs : List TC) : ∀ (n : Nat) (d i : Int) (t : Bytes), d + n < 199 → ChoiceC d (Ask i t ++ (Body i t ++ rep n Elif (Else last ++ Rb :: cs))) (Rb :: cs) (Chain n last)
  | 0, d, i, t, hd => fun q s hs => by
    cases last with
    | false =>
      obtain ⟨r, h1, h2, h3⟩ := choice_1 (asked (by omega) i t _) (body_set (by omega) i t (Rb :: cs)) rfl q s hs
      obtain ⟨e1, _, ⟨T, e3, _⟩, e4, E, e5, _⟩ := h2
      exact ⟨r, h1, ⟨e1, by rw [e3]; rfl, by rw [e5]; rfl, e4⟩, h3⟩
    | true =>
      obtain ⟨r, h1, h2, h3⟩ := choice_2 (asked (by omega) i t _) (body_set (by omega) i t _) rfl (body_set (by omega) 2 [50] (Rb :: cs)) q s hs
      obtain ⟨e1, _, ⟨T, e3, _⟩, e4, E, e5, _⟩ := h2
      exact ⟨r, h1, ⟨e1, by rw [e3]; rfl, by rw [e5]; rfl, e4⟩, h3⟩
  | n + 1, d, i, t, hd => fun q s hs => by
    obtain ⟨r, h1, h2, h3⟩ := choice_3 (asked (by omega) i t _) (body_set (by omega) i t _) (chain_if last cs n (d + 1) 1 [49] (by omega)) (by omega) q s hs
    obtain ⟨e1, _, ⟨T, e3, _⟩, e4, E, e5, _⟩ := h2
    exact ⟨r, h1, ⟨e1, by rw [e3]; rfl, by rw [e5]; rfl, e4⟩, h3⟩
/-! The text. -/
def elseB (last : Bool) : Bytes := if last then [32, 101, 108, 115, 101, 32, 123, 32, 120, 32, 61, 32, 50, 59, 32, 125] else []
def chainT (n : Nat) (last : Bool) : Bytes := [102, 117, 110, 99, 32, 102, 40, 41, 32, 123, 32, 105, 102, 32, 97, 32, 61, 61, 32, 48, 32, 123, 32, 120, 32, 61, 32, 48, 59, 32, 125] ++ rep n [32, 101, 108, 115, 101, 32, 105, 102, 32, 97, 32, 61, 61, 32, 49, 32, 123, 32, 120, 32, 61, 32, 49, 59, 32, 125] (elseB last ++ [32, 125])
theorem lex_elif {l : Bytes} {cs : List TC} (h : LexR l cs) : LexR ([32, 101, 108, 115, 101, 32, 105, 102, 32, 97, 32, 61, 61, 32, 49, 32, 123, 32, 120, 32, 61, 32, 49, 59, 32, 125] ++ l) (Elif ++ cs) :=
  (lexr_blank (c := 32) rfl (lexr_name (c := 101) (s := [108, 115, 101]) rfl rfl (fun x hx => by cases hx; rfl) (lexr_blank (c := 32) rfl (lexr_name (c := 105) (s := [102]) rfl rfl (fun x hx => by cases hx; rfl) (lexr_blank (c := 32) rfl (lexr_name (c := 97) (s := []) rfl rfl (fun x hx => by cases hx; rfl) (lexr_blank (c := 32) rfl (lexr_mark (c := 61) (s := [61]) rfl rfl rfl (lexr_blank (c := 32) rfl (lexr_num (c := 49) (s := []) (v := 1) rfl rfl rfl (fun x hx => by cases hx; rfl) (lexr_blank (c := 32) rfl (lexr_mark (c := 123) (s := []) rfl rfl rfl (lexr_blank (c := 32) rfl (lexr_name (c := 120) (s := []) rfl rfl (fun x hx => by cases hx; rfl) (lexr_blank (c := 32) rfl (lexr_mark (c := 61) (s := []) rfl rfl rfl (lexr_blank (c := 32) rfl (lexr_num (c := 49) (s := []) (v := 1) rfl rfl rfl (fun x hx => by cases hx; rfl) (lexr_mark (c := 59) (s := []) rfl rfl rfl (lexr_blank (c := 32) rfl (lexr_mark (c := 125) (s := []) rfl rfl rfl h)))))))))))))))))))))
theorem lex_else {l : Bytes} {cs : List TC} (last : Bool) (h : LexR l cs) : LexR (elseB last ++ l) (Else last ++ cs) := by
  cases last with
  | false => exact h
  | true => exact (lexr_blank (c := 32) rfl (lexr_name (c := 101) (s := [108, 115, 101]) rfl rfl (fun x hx => by cases hx; rfl) (lexr_blank (c := 32) rfl (lexr_mark (c := 123) (s := []) rfl rfl rfl (lexr_blank (c := 32) rfl (lexr_name (c := 120) (s := []) rfl rfl (fun x hx => by cases hx; rfl) (lexr_blank (c := 32) rfl (lexr_mark (c := 61) (s := []) rfl rfl rfl (lexr_blank (c := 32) rfl (lexr_num (c := 50) (s := []) (v := 2) rfl rfl rfl (fun x hx => by cases hx; rfl) (lexr_mark (c := 59) (s := []) rfl rfl rfl (lexr_blank (c := 32) rfl (lexr_mark (c := 125) (s := []) rfl rfl rfl h)))))))))))))
theorem lex_hi {l : Bytes} {cs : List TC} (h : LexR l cs) : LexR ([102, 117, 110, 99, 32, 102, 40, 41, 32, 123, 32, 105, 102, 32, 97, 32, 61, 61, 32, 48, 32, 123, 32, 120, 32, 61, 32, 48, 59, 32, 125] ++ l) (FunHead ++ Lb :: (3, [105, 102], 0) :: (Ask 0 [48] ++ (Body 0 [48] ++ cs))) :=
  (lexr_name (c := 102) (s := [117, 110, 99]) rfl rfl (fun x hx => by cases hx; rfl) (lexr_blank (c := 32) rfl (lexr_name (c := 102) (s := []) rfl rfl (fun x hx => by cases hx; rfl) (lexr_mark (c := 40) (s := []) rfl rfl rfl (lexr_mark (c := 41) (s := []) rfl rfl rfl (lexr_blank (c := 32) rfl (lexr_mark (c := 123) (s := []) rfl rfl rfl (lexr_blank (c := 32) rfl (lexr_name (c := 105) (s := [102]) rfl rfl (fun x hx => by cases hx; rfl) (lexr_blank (c := 32) rfl (lexr_name (c := 97) (s := []) rfl rfl (fun x hx => by cases hx; rfl) (lexr_blank (c := 32) rfl (lexr_mark (c := 61) (s := [61]) rfl rfl rfl (lexr_blank (c := 32) rfl (lexr_num (c := 48) (s := []) (v := 0) rfl rfl rfl (fun x hx => by cases hx; rfl) (lexr_blank (c := 32) rfl (lexr_mark (c := 123) (s := []) rfl rfl rfl (lexr_blank (c := 32) rfl (lexr_name (c := 120) (s := []) rfl rfl (fun x hx => by cases hx; rfl) (lexr_blank (c := 32) rfl (lexr_mark (c := 61) (s := []) rfl rfl rfl (lexr_blank (c := 32) rfl (lexr_num (c := 48) (s := []) (v := 0) rfl rfl rfl (fun x hx => by cases hx; rfl) (lexr_mark (c := 59) (s := []) rfl rfl rfl (lexr_blank (c := 32) rfl (lexr_mark (c := 125) (s := []) rfl rfl rfl h))))))))))))))))))))))))))
theorem chains_law (n : Nat) (last : Bool) (hn : n < 64) : ∃ F S, parseF 900000 (chainT n last) = some (⟨[], [F]⟩, zFault) ∧ F.body = [S] ∧ Chain n last S := by
  have hl : LexR (chainT n last) _ := lex_hi (lex_rep (fun _ => True) (fun l cs _ h => lex_elif h) (fun _ _ => trivial) n _ _ trivial (lex_else last lex_btail)).1
  have hlen : (chainT n last).length ≤ 60000 := by
    have h1 : (elseB last).length ≤ 16 := by cases last <;> decide
    have h2 : ([32, 101, 108, 115, 101, 32, 105, 102, 32, 97, 32, 61, 61, 32, 49, 32, 123, 32, 120, 32, 61, 32, 49, 59, 32, 125] : Bytes).length = 26 := rfl
    unfold chainT
    simp only [List.length_append, rep_len, h2, List.length_cons, List.length_nil] at h1 ⊢
    omega
  obtain ⟨F, h1, _, S, h2, h3⟩ := parse_fun (Q := fun l => ∃ S, l = [S] ∧ Chain n last S) hl hlen
    (block_of (stmts_next (stmt_ch (chain_if last [End] n (0 + 1) 0 [48] (by omega))) rfl (fun x hx => stmts_end ⟨x, rfl, hx⟩)) (by decide))
  exact ⟨F, S, h1, h2, h3⟩
end Go.Proofs.YtgenlgfbjlclbaaDoor
