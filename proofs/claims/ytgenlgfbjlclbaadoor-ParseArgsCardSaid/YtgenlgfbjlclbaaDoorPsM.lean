/- The parser's functions that call each other, all in one; global; function. -/
import Derived.Test.YtgenlgfbjlclbaaDoorPsL
namespace Go.Proofs.YtgenlgfbjlclbaaDoor
open Go.RowKit Go.Proofs.YtgenlgfbjlclbaaDoorW.PrintWords Go.Proofs.YtgenlgfbjlclbaaDoorW.PrintLast Go.Proofs.YtgenlgfbjlclbaaDoorW.PrintMore
set_option linter.unusedVariables false
set_option linter.unusedSimpArgs false

theorem good_succ {a : GA} {g : Nat} (n : Nat) (hn : n ≤ 1000000) (IH : ∀ m, m ≤ n → Good a g (ps m)) : Good a g (ps (n + 1)) where
  expr l s x s' w h hl hx := expr_step n IH l s x s' w h hl hx
  whole s x s' w h hx := whole_step (IH n (Nat.le_refl _)) (deep_all n).expr s x s' w h hx
  unary s x s' w h hx := unary_step (IH n (Nat.le_refl _)) (deep_all n).unary s x s' w h hx
  primary q s x s' w h _ hx := prim_step (IH n (Nat.le_refl _)) q s x s' w h hx
  args s xs s' w h hx := args_step n hn IH s xs s' w h hx
  block s xs s' w h hx := block_step n hn IH s xs s' w h hx
  stmt s x s' w h hx := stmt_step (IH n (Nat.le_refl _)) s w h x s' hx
  choice q s x s' w h hx := choice_step (IH n (Nat.le_refl _)) (deep_all n) q s w h x s' hx
  turn q s x s' w h hx := turn_step (IH n (Nat.le_refl _)) q s x s' w h hx
theorem good_none {a : GA} {g : Nat} : Good a g (ps 0) where
  expr _ _ _ _ _ _ _ hx := by cases hx
  whole _ _ _ _ _ hx := by cases hx
  unary _ _ _ _ _ hx := by cases hx
  primary _ _ _ _ _ _ _ hx := by cases hx
  args _ _ _ _ _ hx := by cases hx
  block _ _ _ _ _ hx := by cases hx
  stmt _ _ _ _ _ hx := by cases hx
  choice _ _ _ _ _ _ hx := by cases hx
  turn _ _ _ _ _ _ hx := by cases hx
theorem good_all {a : GA} {g : Nat} : ∀ n, n ≤ 1000000 → ∀ m, m ≤ n → Good a g (ps m)
  | 0, _, m, hm => by
    obtain rfl : m = 0 := by omega
    exact good_none
  | n + 1, hn, m, hm => by
    have IH := good_all (a := a) (g := g) n (by omega)
    by_cases h : m = n + 1
    · rw [h]; exact good_succ n (by omega) IH
    · exact IH m (by omega)
theorem bad_skip {s : PS} {l : Bytes} (h : (s.take l).1 = true) : s.skip.bad = false := by
  have hb : s.bad = false := by
    unfold PS.take at h
    split at h
    · cases h
    · rename_i hx
      cases hb : s.bad with
      | false => rfl
      | true => rw [hb] at hx; exact absurd rfl hx
  unfold PS.skip
  split <;> exact hb

set_option maxRecDepth 100000 in
set_option maxHeartbeats 6400000 in
theorem global_word {a : GA} {g : Nat} (h0 : Int) (s : PS) (w : World) (h : PSt a g s w) (h1 : (s.name.2.take [91]).1 = false) :
    Calls Tryd.prog 24 #[.pointer (some ⟨g, 0, none⟩), .int .i64 h0] w fun e w' => e = .returned (.agg #[.string s.name.1, .int .i64 h0, .int .i64 0, .int .i64 s.now.pos.line, .int .i64 s.now.pos.col]) ∧ Chg g w w' ∧ PSt a g (s.name.2.want [59]) w' := by
  have FR := Aside0.mk (Fr.start h)
  have C := FR.out.c0
  have hf2 := fld2
  have hf3 := fld3
  obtain ⟨t, ht⟩ : ∃ t, t = s.now := ⟨_, rfl⟩
  have HN := Lib.hid ht
  rw [← ht]
  have HT := Lib.hid h1
  clear ht h h1
  go_enter Tryd.func24, Tryd.ntmps24
  go_wp2_with (first | ((with_reducible refine gate_dst (N := 4) rfl ?_); refine FR.out.boxE (N := 4) #[.string ⟨#[]⟩, .int .i64 0, .int .i64 0, .int .i64 0, .int .i64 0] 75 (by rfl) (by rfl) ?hr ?_; (case hr => first | (go_simp; done) | (go_simp; rfl)); intro b4 AW1 f_; replace FR := Aside0.mk f_; replace C := f_.c1; clear f_) | (go_at_call 22; (with_reducible refine (FR.out.bc (now_calls FR.out.ps)).mono ?_); rintro e AW2 ⟨rfl, f_⟩; rw [← HN.out]; replace FR := Aside0.mk f_; replace C := f_.c1; clear f_) | (go_at_call 45; (with_reducible refine (FR.out.cc (name_calls FR.out.ps)).mono ?_); rintro e AW3 ⟨rfl, f_⟩; replace FR := Aside0.mk f_; replace C := f_.c1; clear f_) | ((with_reducible refine gate_dst (N := 5) rfl ?_); refine FR.out.varE (W1 := ?_) (N := 5) #[.string s.name.1, .int .i64 h0, .int .i64 0, .int .i64 t.pos.line, .int .i64 t.pos.col] 75 (by rfl) (by rfl) (by rfl) (by rfl) ?hr ?hs ?_; (case hr => first | (go_simp; done) | (go_simp; rfl)); (case hs => first | (go_simp; done) | (go_simp; rfl)); intro b5 AW4 f_; replace FR := Aside0.mk f_; replace C := f_.c2; clear f_) | (go_at_call 23; (with_reducible refine (FR.out.cc (take_no ⟨#[91]⟩ [91] rfl FR.out.ps HT.out)).mono ?_); rintro e AW5 ⟨rfl, f_⟩; replace FR := Aside0.mk f_; replace C := f_.c2; clear f_) | (go_at_call 46; (with_reducible refine (FR.out.cc (want_calls ⟨#[59]⟩ [59] rfl FR.out.ps)).mono ?_); rintro e AW6 ⟨rfl, f_⟩; replace FR := Aside0.mk f_; replace C := f_.c2; clear f_) | ((with_reducible refine gate_store (t := 75) (p := 4) (v := .tmp 46) rfl ?_); refine FR.out.s2 [.string s.name.1, .int .i64 h0, .int .i64 0, .int .i64 t.pos.line, .int .i64 t.pos.col] (by rfl) (by rfl) ?hr (by rfl) ?_; (case hr => first | (go_simp; done) | (go_simp; rfl)); intro AW7 f_; replace FR := Aside0.mk f_; replace C := f_.c2; clear f_))
  refine bodyPost_ret (results_cell_row rfl _ _ b4 _ _ (0, 0) _ rfl FR.out.b2 Tryd.underlying75 rfl (by kernel_rfl)) rfl ?_
  exact ⟨rfl, FR.out.ch, FR.out.ps⟩

set_option maxRecDepth 100000 in
set_option maxHeartbeats 6400000 in
theorem global_kind {a : GA} {g : Nat} (h0 : Int) (s : PS) (w : World) (h : PSt a g s w) (h1 : (s.name.2.take [91]).1 = true) (h2 : ¬ s.name.2.skip.now.kind = 2) :
    Calls Tryd.prog 24 #[.pointer (some ⟨g, 0, none⟩), .int .i64 h0] w fun e w' => e = .returned (.agg #[.string s.name.1, .int .i64 h0, .int .i64 0, .int .i64 s.now.pos.line, .int .i64 s.now.pos.col]) ∧ Chg g w w' ∧ PSt a g (((s.name.2.skip.fail 12).want [93]).want [59]) w' := by
  have FR := Aside0.mk (Fr.start h)
  have C := FR.out.c0
  have hf2 := fld2
  have hf3 := fld3
  obtain ⟨t, ht⟩ : ∃ t, t = s.now := ⟨_, rfl⟩
  have HN := Lib.hid ht
  rw [← ht]
  have HT := Lib.hid h1
  have HB_ := Lib.hid (bad_skip h1)
  obtain ⟨u, hu⟩ : ∃ u, u = s.name.2.skip.now := ⟨_, rfl⟩
  have HU := Lib.hid hu
  rw [← hu] at h2
  have ku : (u.kind == 2) = false := beq_eq_false_iff_ne.2 h2
  have ku2 : (u.kind != 2) = true := by simp only [bne, ku]; rfl
  clear ht h h1 hu h2
  go_enter Tryd.func24, Tryd.ntmps24
  go_wp2_with (first | ((with_reducible refine gate_dst (N := 4) rfl ?_); refine FR.out.boxE (N := 4) #[.string ⟨#[]⟩, .int .i64 0, .int .i64 0, .int .i64 0, .int .i64 0] 75 (by rfl) (by rfl) ?hr ?_; (case hr => first | (go_simp; done) | (go_simp; rfl)); intro b4 BW1 f_; replace FR := Aside0.mk f_; replace C := f_.c1; clear f_) | (go_at_call 22; (with_reducible refine (FR.out.bc (now_calls FR.out.ps)).mono ?_); rintro e BW2 ⟨rfl, f_⟩; rw [← HN.out]; replace FR := Aside0.mk f_; replace C := f_.c1; clear f_) | (go_at_call 45; (with_reducible refine (FR.out.cc (name_calls FR.out.ps)).mono ?_); rintro e BW3 ⟨rfl, f_⟩; replace FR := Aside0.mk f_; replace C := f_.c1; clear f_) | ((with_reducible refine gate_dst (N := 5) rfl ?_); refine FR.out.varE (W1 := ?_) (N := 5) #[.string s.name.1, .int .i64 h0, .int .i64 0, .int .i64 t.pos.line, .int .i64 t.pos.col] 75 (by rfl) (by rfl) (by rfl) (by rfl) ?hr ?hs ?_; (case hr => first | (go_simp; done) | (go_simp; rfl)); (case hs => first | (go_simp; done) | (go_simp; rfl)); intro b5 BW4 f_; replace FR := Aside0.mk f_; replace C := f_.c2; clear f_) | (go_at_call 23; (with_reducible refine (FR.out.cc (take_yes ⟨#[91]⟩ [91] rfl FR.out.ps HT.out)).mono ?_); rintro e BW5 ⟨rfl, f_⟩; replace FR := Aside0.mk f_; replace C := f_.c2; clear f_) | (go_at_call 22; (with_reducible refine (FR.out.bc (now_calls FR.out.ps)).mono ?_); rintro e BW6 ⟨rfl, f_⟩; rw [← HU.out]; replace FR := Aside0.mk f_; replace C := f_.c2; clear f_) | ((with_reducible refine gate_dst (N := 6) rfl ?_); refine FR.out.varE (W1 := ?_) (N := 6) #[.int .i64 u.kind, .string u.text, .int .i64 u.num, .int .i64 u.pos.line, .int .i64 u.pos.col] 71 (by rfl) (by rfl) (by rfl) (by rfl) ?hr ?hs ?_; (case hr => first | (go_simp; done) | (go_simp; rfl)); (case hs => first | (go_simp; done) | (go_simp; rfl)); intro b6 BW7 f_; replace FR := Aside0.mk f_; replace C := f_.c3; clear f_) | (go_at_call 21; (with_reducible refine (FR.out.bc (bad_calls FR.out.ps)).mono ?_); rintro e BW8 ⟨rfl, f_⟩; rw [HB_.out]; replace FR := Aside0.mk f_; replace C := f_.c3; clear f_) | (go_at_call 26; (with_reducible refine (FR.out.cc (fail_calls 12 FR.out.ps)).mono ?_); rintro e BW9 ⟨rfl, f_⟩; replace FR := Aside0.mk f_; replace C := f_.c3; clear f_) | (go_at_call 46; (with_reducible refine (FR.out.cc (want_calls ⟨#[93]⟩ [93] rfl FR.out.ps)).mono ?_); rintro e BW10 ⟨rfl, f_⟩; replace FR := Aside0.mk f_; replace C := f_.c3; clear f_) | (go_at_call 46; (with_reducible refine (FR.out.cc (want_calls ⟨#[59]⟩ [59] rfl FR.out.ps)).mono ?_); rintro e BW11 ⟨rfl, f_⟩; replace FR := Aside0.mk f_; replace C := f_.c3; clear f_) | ((with_reducible refine gate_store (t := 75) (p := 4) (v := .tmp 46) rfl ?_); refine FR.out.s3 [.string s.name.1, .int .i64 h0, .int .i64 0, .int .i64 t.pos.line, .int .i64 t.pos.col] (by rfl) (by rfl) ?hr (by rfl) ?_; (case hr => first | (go_simp; done) | (go_simp; rfl)); intro BW12 f_; replace FR := Aside0.mk f_; replace C := f_.c3; clear f_))
  refine bodyPost_ret (results_cell_row rfl _ _ b4 _ _ (0, 0) _ rfl FR.out.b3 Tryd.underlying75 rfl (by kernel_rfl)) rfl ?_
  exact ⟨rfl, FR.out.ch, FR.out.ps⟩

set_option maxRecDepth 100000 in
set_option maxHeartbeats 6400000 in
theorem global_low {a : GA} {g : Nat} (h0 : Int) (s : PS) (w : World) (h : PSt a g s w) (h1 : (s.name.2.take [91]).1 = true) (h2 : s.name.2.skip.now.kind = 2) (h3 : s.name.2.skip.now.num < 1) :
    Calls Tryd.prog 24 #[.pointer (some ⟨g, 0, none⟩), .int .i64 h0] w fun e w' => e = .returned (.agg #[.string s.name.1, .int .i64 h0, .int .i64 0, .int .i64 s.now.pos.line, .int .i64 s.now.pos.col]) ∧ Chg g w w' ∧ PSt a g (((s.name.2.skip.fail 31).want [93]).want [59]) w' := by
  have FR := Aside0.mk (Fr.start h)
  have C := FR.out.c0
  have hf2 := fld2
  have hf3 := fld3
  obtain ⟨t, ht⟩ : ∃ t, t = s.now := ⟨_, rfl⟩
  have HN := Lib.hid ht
  rw [← ht]
  have HT := Lib.hid h1
  have HB_ := Lib.hid (bad_skip h1)
  obtain ⟨u, hu⟩ : ∃ u, u = s.name.2.skip.now := ⟨_, rfl⟩
  have HU := Lib.hid hu
  rw [← hu] at h2 h3
  have ku : (u.kind == 2) = true := beq_iff_eq.2 h2
  have ku2 : (u.kind != 2) = false := by simp only [bne, ku]; rfl
  have kn : decide (u.num < 1) = true := decide_eq_true h3
  clear ht h h1 hu h2 h3
  go_enter Tryd.func24, Tryd.ntmps24
  go_wp2_with (first | ((with_reducible refine gate_dst (N := 4) rfl ?_); refine FR.out.boxE (N := 4) #[.string ⟨#[]⟩, .int .i64 0, .int .i64 0, .int .i64 0, .int .i64 0] 75 (by rfl) (by rfl) ?hr ?_; (case hr => first | (go_simp; done) | (go_simp; rfl)); intro b4 ClowW1 f_; replace FR := Aside0.mk f_; replace C := f_.c1; clear f_) | (go_at_call 22; (with_reducible refine (FR.out.bc (now_calls FR.out.ps)).mono ?_); rintro e ClowW2 ⟨rfl, f_⟩; rw [← HN.out]; replace FR := Aside0.mk f_; replace C := f_.c1; clear f_) | (go_at_call 45; (with_reducible refine (FR.out.cc (name_calls FR.out.ps)).mono ?_); rintro e ClowW3 ⟨rfl, f_⟩; replace FR := Aside0.mk f_; replace C := f_.c1; clear f_) | ((with_reducible refine gate_dst (N := 5) rfl ?_); refine FR.out.varE (W1 := ?_) (N := 5) #[.string s.name.1, .int .i64 h0, .int .i64 0, .int .i64 t.pos.line, .int .i64 t.pos.col] 75 (by rfl) (by rfl) (by rfl) (by rfl) ?hr ?hs ?_; (case hr => first | (go_simp; done) | (go_simp; rfl)); (case hs => first | (go_simp; done) | (go_simp; rfl)); intro b5 ClowW4 f_; replace FR := Aside0.mk f_; replace C := f_.c2; clear f_) | (go_at_call 23; (with_reducible refine (FR.out.cc (take_yes ⟨#[91]⟩ [91] rfl FR.out.ps HT.out)).mono ?_); rintro e ClowW5 ⟨rfl, f_⟩; replace FR := Aside0.mk f_; replace C := f_.c2; clear f_) | (go_at_call 22; (with_reducible refine (FR.out.bc (now_calls FR.out.ps)).mono ?_); rintro e ClowW6 ⟨rfl, f_⟩; rw [← HU.out]; replace FR := Aside0.mk f_; replace C := f_.c2; clear f_) | ((with_reducible refine gate_dst (N := 6) rfl ?_); refine FR.out.varE (W1 := ?_) (N := 6) #[.int .i64 u.kind, .string u.text, .int .i64 u.num, .int .i64 u.pos.line, .int .i64 u.pos.col] 71 (by rfl) (by rfl) (by rfl) (by rfl) ?hr ?hs ?_; (case hr => first | (go_simp; done) | (go_simp; rfl)); (case hs => first | (go_simp; done) | (go_simp; rfl)); intro b6 ClowW7 f_; replace FR := Aside0.mk f_; replace C := f_.c3; clear f_) | (go_at_call 21; (with_reducible refine (FR.out.bc (bad_calls FR.out.ps)).mono ?_); rintro e ClowW8 ⟨rfl, f_⟩; rw [HB_.out]; replace FR := Aside0.mk f_; replace C := f_.c3; clear f_) | (go_at_call 26; (with_reducible refine (FR.out.cc (fail_calls 31 FR.out.ps)).mono ?_); rintro e ClowW9 ⟨rfl, f_⟩; replace FR := Aside0.mk f_; replace C := f_.c3; clear f_) | (go_at_call 46; (with_reducible refine (FR.out.cc (want_calls ⟨#[93]⟩ [93] rfl FR.out.ps)).mono ?_); rintro e ClowW10 ⟨rfl, f_⟩; replace FR := Aside0.mk f_; replace C := f_.c3; clear f_) | (go_at_call 46; (with_reducible refine (FR.out.cc (want_calls ⟨#[59]⟩ [59] rfl FR.out.ps)).mono ?_); rintro e ClowW11 ⟨rfl, f_⟩; replace FR := Aside0.mk f_; replace C := f_.c3; clear f_) | ((with_reducible refine gate_store (t := 75) (p := 4) (v := .tmp 46) rfl ?_); refine FR.out.s3 [.string s.name.1, .int .i64 h0, .int .i64 0, .int .i64 t.pos.line, .int .i64 t.pos.col] (by rfl) (by rfl) ?hr (by rfl) ?_; (case hr => first | (go_simp; done) | (go_simp; rfl)); intro ClowW12 f_; replace FR := Aside0.mk f_; replace C := f_.c3; clear f_))
  refine bodyPost_ret (results_cell_row rfl _ _ b4 _ _ (0, 0) _ rfl FR.out.b3 Tryd.underlying75 rfl (by kernel_rfl)) rfl ?_
  exact ⟨rfl, FR.out.ch, FR.out.ps⟩

set_option maxRecDepth 100000 in
set_option maxHeartbeats 6400000 in
theorem global_high {a : GA} {g : Nat} (h0 : Int) (s : PS) (w : World) (h : PSt a g s w) (h1 : (s.name.2.take [91]).1 = true) (h2 : s.name.2.skip.now.kind = 2) (h3 : ¬ s.name.2.skip.now.num < 1) (h4 : 4096 < s.name.2.skip.now.num) :
    Calls Tryd.prog 24 #[.pointer (some ⟨g, 0, none⟩), .int .i64 h0] w fun e w' => e = .returned (.agg #[.string s.name.1, .int .i64 h0, .int .i64 0, .int .i64 s.now.pos.line, .int .i64 s.now.pos.col]) ∧ Chg g w w' ∧ PSt a g (((s.name.2.skip.fail 31).want [93]).want [59]) w' := by
  have FR := Aside0.mk (Fr.start h)
  have C := FR.out.c0
  have hf2 := fld2
  have hf3 := fld3
  obtain ⟨t, ht⟩ : ∃ t, t = s.now := ⟨_, rfl⟩
  have HN := Lib.hid ht
  rw [← ht]
  have HT := Lib.hid h1
  have HB_ := Lib.hid (bad_skip h1)
  obtain ⟨u, hu⟩ : ∃ u, u = s.name.2.skip.now := ⟨_, rfl⟩
  have HU := Lib.hid hu
  rw [← hu] at h2 h3 h4
  have ku : (u.kind == 2) = true := beq_iff_eq.2 h2
  have ku2 : (u.kind != 2) = false := by simp only [bne, ku]; rfl
  have kn : decide (u.num < 1) = false := decide_eq_false h3
  have kn2 : decide (4096 < u.num) = true := decide_eq_true h4
  clear ht h h1 hu h2 h3 h4
  go_enter Tryd.func24, Tryd.ntmps24
  go_wp2_with (first | ((with_reducible refine gate_dst (N := 4) rfl ?_); refine FR.out.boxE (N := 4) #[.string ⟨#[]⟩, .int .i64 0, .int .i64 0, .int .i64 0, .int .i64 0] 75 (by rfl) (by rfl) ?hr ?_; (case hr => first | (go_simp; done) | (go_simp; rfl)); intro b4 ChighW1 f_; replace FR := Aside0.mk f_; replace C := f_.c1; clear f_) | (go_at_call 22; (with_reducible refine (FR.out.bc (now_calls FR.out.ps)).mono ?_); rintro e ChighW2 ⟨rfl, f_⟩; rw [← HN.out]; replace FR := Aside0.mk f_; replace C := f_.c1; clear f_) | (go_at_call 45; (with_reducible refine (FR.out.cc (name_calls FR.out.ps)).mono ?_); rintro e ChighW3 ⟨rfl, f_⟩; replace FR := Aside0.mk f_; replace C := f_.c1; clear f_) | ((with_reducible refine gate_dst (N := 5) rfl ?_); refine FR.out.varE (W1 := ?_) (N := 5) #[.string s.name.1, .int .i64 h0, .int .i64 0, .int .i64 t.pos.line, .int .i64 t.pos.col] 75 (by rfl) (by rfl) (by rfl) (by rfl) ?hr ?hs ?_; (case hr => first | (go_simp; done) | (go_simp; rfl)); (case hs => first | (go_simp; done) | (go_simp; rfl)); intro b5 ChighW4 f_; replace FR := Aside0.mk f_; replace C := f_.c2; clear f_) | (go_at_call 23; (with_reducible refine (FR.out.cc (take_yes ⟨#[91]⟩ [91] rfl FR.out.ps HT.out)).mono ?_); rintro e ChighW5 ⟨rfl, f_⟩; replace FR := Aside0.mk f_; replace C := f_.c2; clear f_) | (go_at_call 22; (with_reducible refine (FR.out.bc (now_calls FR.out.ps)).mono ?_); rintro e ChighW6 ⟨rfl, f_⟩; rw [← HU.out]; replace FR := Aside0.mk f_; replace C := f_.c2; clear f_) | ((with_reducible refine gate_dst (N := 6) rfl ?_); refine FR.out.varE (W1 := ?_) (N := 6) #[.int .i64 u.kind, .string u.text, .int .i64 u.num, .int .i64 u.pos.line, .int .i64 u.pos.col] 71 (by rfl) (by rfl) (by rfl) (by rfl) ?hr ?hs ?_; (case hr => first | (go_simp; done) | (go_simp; rfl)); (case hs => first | (go_simp; done) | (go_simp; rfl)); intro b6 ChighW7 f_; replace FR := Aside0.mk f_; replace C := f_.c3; clear f_) | (go_at_call 21; (with_reducible refine (FR.out.bc (bad_calls FR.out.ps)).mono ?_); rintro e ChighW8 ⟨rfl, f_⟩; rw [HB_.out]; replace FR := Aside0.mk f_; replace C := f_.c3; clear f_) | (go_at_call 26; (with_reducible refine (FR.out.cc (fail_calls 31 FR.out.ps)).mono ?_); rintro e ChighW9 ⟨rfl, f_⟩; replace FR := Aside0.mk f_; replace C := f_.c3; clear f_) | (go_at_call 46; (with_reducible refine (FR.out.cc (want_calls ⟨#[93]⟩ [93] rfl FR.out.ps)).mono ?_); rintro e ChighW10 ⟨rfl, f_⟩; replace FR := Aside0.mk f_; replace C := f_.c3; clear f_) | (go_at_call 46; (with_reducible refine (FR.out.cc (want_calls ⟨#[59]⟩ [59] rfl FR.out.ps)).mono ?_); rintro e ChighW11 ⟨rfl, f_⟩; replace FR := Aside0.mk f_; replace C := f_.c3; clear f_) | ((with_reducible refine gate_store (t := 75) (p := 4) (v := .tmp 46) rfl ?_); refine FR.out.s3 [.string s.name.1, .int .i64 h0, .int .i64 0, .int .i64 t.pos.line, .int .i64 t.pos.col] (by rfl) (by rfl) ?hr (by rfl) ?_; (case hr => first | (go_simp; done) | (go_simp; rfl)); intro ChighW12 f_; replace FR := Aside0.mk f_; replace C := f_.c3; clear f_))
  refine bodyPost_ret (results_cell_row rfl _ _ b4 _ _ (0, 0) _ rfl FR.out.b3 Tryd.underlying75 rfl (by kernel_rfl)) rfl ?_
  exact ⟨rfl, FR.out.ch, FR.out.ps⟩

set_option maxRecDepth 100000 in
set_option maxHeartbeats 6400000 in
theorem global_row {a : GA} {g : Nat} (h0 : Int) (s : PS) (w : World) (h : PSt a g s w) (h1 : (s.name.2.take [91]).1 = true) (h2 : s.name.2.skip.now.kind = 2) (h3 : ¬ s.name.2.skip.now.num < 1) (h4 : ¬ 4096 < s.name.2.skip.now.num) :
    Calls Tryd.prog 24 #[.pointer (some ⟨g, 0, none⟩), .int .i64 h0] w fun e w' => e = .returned (.agg #[.string s.name.1, .int .i64 h0, .int .i64 s.name.2.skip.now.num, .int .i64 s.now.pos.line, .int .i64 s.now.pos.col]) ∧ Chg g w w' ∧ PSt a g ((s.name.2.skip.skip.want [93]).want [59]) w' := by
  have FR := Aside0.mk (Fr.start h)
  have C := FR.out.c0
  have hf2 := fld2
  have hf3 := fld3
  obtain ⟨t, ht⟩ : ∃ t, t = s.now := ⟨_, rfl⟩
  have HN := Lib.hid ht
  rw [← ht]
  have HT := Lib.hid h1
  have HB_ := Lib.hid (bad_skip h1)
  obtain ⟨u, hu⟩ : ∃ u, u = s.name.2.skip.now := ⟨_, rfl⟩
  have HU := Lib.hid hu
  rw [← hu] at h2 h3 h4 ⊢
  have ku : (u.kind == 2) = true := beq_iff_eq.2 h2
  have ku2 : (u.kind != 2) = false := by simp only [bne, ku]; rfl
  have kn : decide (u.num < 1) = false := decide_eq_false h3
  have kn2 : decide (4096 < u.num) = false := decide_eq_false h4
  clear ht h h1 hu h2 h3 h4
  go_enter Tryd.func24, Tryd.ntmps24
  go_wp2_with (first | ((with_reducible refine gate_dst (N := 4) rfl ?_); refine FR.out.boxE (N := 4) #[.string ⟨#[]⟩, .int .i64 0, .int .i64 0, .int .i64 0, .int .i64 0] 75 (by rfl) (by rfl) ?hr ?_; (case hr => first | (go_simp; done) | (go_simp; rfl)); intro b4 DW1 f_; replace FR := Aside0.mk f_; replace C := f_.c1; clear f_) | (go_at_call 22; (with_reducible refine (FR.out.bc (now_calls FR.out.ps)).mono ?_); rintro e DW2 ⟨rfl, f_⟩; rw [← HN.out]; replace FR := Aside0.mk f_; replace C := f_.c1; clear f_) | (go_at_call 45; (with_reducible refine (FR.out.cc (name_calls FR.out.ps)).mono ?_); rintro e DW3 ⟨rfl, f_⟩; replace FR := Aside0.mk f_; replace C := f_.c1; clear f_) | ((with_reducible refine gate_dst (N := 5) rfl ?_); refine FR.out.varE (W1 := ?_) (N := 5) #[.string s.name.1, .int .i64 h0, .int .i64 0, .int .i64 t.pos.line, .int .i64 t.pos.col] 75 (by rfl) (by rfl) (by rfl) (by rfl) ?hr ?hs ?_; (case hr => first | (go_simp; done) | (go_simp; rfl)); (case hs => first | (go_simp; done) | (go_simp; rfl)); intro b5 DW4 f_; replace FR := Aside0.mk f_; replace C := f_.c2; clear f_) | (go_at_call 23; (with_reducible refine (FR.out.cc (take_yes ⟨#[91]⟩ [91] rfl FR.out.ps HT.out)).mono ?_); rintro e DW5 ⟨rfl, f_⟩; replace FR := Aside0.mk f_; replace C := f_.c2; clear f_) | (go_at_call 22; (with_reducible refine (FR.out.bc (now_calls FR.out.ps)).mono ?_); rintro e DW6 ⟨rfl, f_⟩; rw [← HU.out]; replace FR := Aside0.mk f_; replace C := f_.c2; clear f_) | ((with_reducible refine gate_dst (N := 6) rfl ?_); refine FR.out.varE (W1 := ?_) (N := 6) #[.int .i64 u.kind, .string u.text, .int .i64 u.num, .int .i64 u.pos.line, .int .i64 u.pos.col] 71 (by rfl) (by rfl) (by rfl) (by rfl) ?hr ?hs ?_; (case hr => first | (go_simp; done) | (go_simp; rfl)); (case hs => first | (go_simp; done) | (go_simp; rfl)); intro b6 DW7 f_; replace FR := Aside0.mk f_; replace C := f_.c3; clear f_) | (go_at_call 21; (with_reducible refine (FR.out.bc (bad_calls FR.out.ps)).mono ?_); rintro e DW8 ⟨rfl, f_⟩; rw [HB_.out]; replace FR := Aside0.mk f_; replace C := f_.c3; clear f_) | (go_at_call 44; (with_reducible refine (FR.out.cc (skip_calls FR.out.ps)).mono ?_); rintro e DW9 ⟨rfl, f_⟩; rw [← HU.out]; replace FR := Aside0.mk f_; replace C := f_.c3; clear f_) | ((with_reducible refine gate_store (t := 3) (p := 21) (v := .tmp 20) rfl ?_); refine FR.out.p2 (W1 := ?_) #[.string s.name.1, .int .i64 h0, .int .i64 u.num, .int .i64 t.pos.line, .int .i64 t.pos.col] (by rfl) (by rfl) ?hr ?hk ?hb ?_; (case hr => first | (go_simp; done) | (go_simp; rfl)); (case hk => exact (Chg.refl _ _).set _ _); (case hb => exact fun h => blk_put h 2 _ rfl); intro DW10 f_; replace FR := Aside0.mk f_; replace C := f_.c3; clear f_) | (go_at_call 46; (with_reducible refine (FR.out.cc (want_calls ⟨#[93]⟩ [93] rfl FR.out.ps)).mono ?_); rintro e DW11 ⟨rfl, f_⟩; replace FR := Aside0.mk f_; replace C := f_.c3; clear f_) | (go_at_call 46; (with_reducible refine (FR.out.cc (want_calls ⟨#[59]⟩ [59] rfl FR.out.ps)).mono ?_); rintro e DW12 ⟨rfl, f_⟩; replace FR := Aside0.mk f_; replace C := f_.c3; clear f_) | ((with_reducible refine gate_store (t := 75) (p := 4) (v := .tmp 46) rfl ?_); refine FR.out.s3 [.string s.name.1, .int .i64 h0, .int .i64 u.num, .int .i64 t.pos.line, .int .i64 t.pos.col] (by rfl) (by rfl) ?hr (by rfl) ?_; (case hr => first | (go_simp; done) | (go_simp; rfl)); intro DW13 f_; replace FR := Aside0.mk f_; replace C := f_.c3; clear f_))
  refine bodyPost_ret (results_cell_row rfl _ _ b4 _ _ (0, 0) _ rfl FR.out.b3 Tryd.underlying75 rfl (by kernel_rfl)) rfl ?_
  exact ⟨rfl, FR.out.ch, FR.out.ps⟩

theorem global_calls {a : GA} {g : Nat} (h0 : Int) (s : PS) (w : World) (h : PSt a g s w) :
    Calls Tryd.prog 24 #[.pointer (some ⟨g, 0, none⟩), .int .i64 h0] w fun e w' => e = .returned (.agg #[.string (globalL h0 s).1.name, .int .i64 (globalL h0 s).1.hold, .int .i64 (globalL h0 s).1.size, .int .i64 (globalL h0 s).1.pos.line, .int .i64 (globalL h0 s).1.pos.col]) ∧ Chg g w w' ∧ PSt a g (globalL h0 s).2 w' := by
  cases h1 : (s.name.2.take [91]).1 with
  | false =>
    have e : globalL h0 s = (⟨s.name.1, h0, 0, s.now.pos⟩, s.name.2.want [59]) := by unfold globalL; simp only [h1]; rfl
    rw [e]
    exact global_word h0 s w h h1
  | true =>
  have hb := bad_skip h1
  by_cases h2 : s.name.2.skip.now.kind = 2
  · by_cases h3 : s.name.2.skip.now.num < 1
    · have e : globalL h0 s = (⟨s.name.1, h0, 0, s.now.pos⟩, ((s.name.2.skip.fail 31).want [93]).want [59]) := by
        unfold globalL
        simp only [h1, hb, if_true, Bool.false_eq_true, if_false]
        rw [if_neg (fun h => h h2), if_pos (Or.inl h3)]
      rw [e]
      exact global_low h0 s w h h1 h2 h3
    · by_cases h4 : 4096 < s.name.2.skip.now.num
      · have e : globalL h0 s = (⟨s.name.1, h0, 0, s.now.pos⟩, ((s.name.2.skip.fail 31).want [93]).want [59]) := by
          unfold globalL
          simp only [h1, hb, if_true, Bool.false_eq_true, if_false]
          rw [if_neg (fun h => h h2), if_pos (Or.inr h4)]
        rw [e]
        exact global_high h0 s w h h1 h2 h3 h4
      · have e : globalL h0 s = (⟨s.name.1, h0, s.name.2.skip.now.num, s.now.pos⟩, (s.name.2.skip.skip.want [93]).want [59]) := by
          unfold globalL
          simp only [h1, hb, if_true, Bool.false_eq_true, if_false]
          rw [if_neg (fun h => h h2), if_neg (fun h => h.elim h3 h4)]
        rw [e]
        exact global_row h0 s w h h1 h2 h3 h4
  · have e : globalL h0 s = (⟨s.name.1, h0, 0, s.now.pos⟩, ((s.name.2.skip.fail 12).want [93]).want [59]) := by
      unfold globalL
      simp only [h1, hb, if_true, Bool.false_eq_true, if_false]
      rw [if_pos h2]
    rw [e]
    exact global_kind h0 s w h h1 h2

theorem globalL_wf (h0 : Int) (s : PS) : Wf64 (globalL h0 s).1.size := by
  unfold globalL
  simp only []
  split
  · split
    · exact wf_zero
    · split
      · exact wf_zero
      · split
        · exact wf_zero
        · rename_i h
          have h2 := not_or.1 h
          exact ⟨by show _ ≤ s.name.2.skip.now.num; omega, by show s.name.2.skip.now.num ≤ _; omega⟩
  · exact wf_zero
end Go.Proofs.YtgenlgfbjlclbaaDoor
