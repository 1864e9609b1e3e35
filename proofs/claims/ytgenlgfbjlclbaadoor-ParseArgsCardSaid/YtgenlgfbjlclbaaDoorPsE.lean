/- primary: a number, a truth, brackets, a variable. -/
import Derived.Test.YtgenlgfbjlclbaaDoorPsD
namespace Go.Proofs.YtgenlgfbjlclbaaDoor
open Go.RowKit Go.Proofs.YtgenlgfbjlclbaaDoorW.PrintWords Go.Proofs.YtgenlgfbjlclbaaDoorW.PrintLast Go.Proofs.YtgenlgfbjlclbaaDoorW.PrintMore
set_option linter.unusedVariables false
set_option linter.unusedSimpArgs false

theorem wf_one : Wf64 1 := ⟨by decide, by decide⟩
theorem now_wf {a : GA} {g : Nat} {s : PS} {w : World} (h : PSt a g s w) : Wf64 s.now.num := by
  obtain ⟨ad, c, h5, h6, h7⟩ := h.blk
  obtain ⟨t, r, hts, _⟩ := h.wt.cons
  have hC := Kd.F_now h6
  rw [hts] at hC
  obtain ⟨ad2, ea, e0, e1, e2, e3, e4, em0⟩ := atToken hC 0 (by decide) (by simp)
  have : s.now = t := by unfold PS.now; rw [hts]; rfl
  rw [this]
  exact em0
theorem take_skip {s : PS} {l : Bytes} (h : (s.take l).1 = true) : (s.take l).2 = s.skip := by
  unfold PS.take at h ⊢
  split
  · rename_i hx; rw [if_pos hx] at h; cases h
  · rfl

set_option maxRecDepth 100000 in
set_option maxHeartbeats 6400000 in
theorem prim_num {a : GA} {g : Nat} {p : Ps} (G : Good a g p) (q : Pos) (s : PS) (x : Expr) (s' : PS) (w : World) (h : PSt a g s w) (hx : psPrimary p q s = some (x, s')) (hk : s.now.kind = 2) :
    Calls Tryd.prog 96 #[.pointer (some ⟨g, 0, none⟩), .agg #[.int .i64 q.line, .int .i64 q.col]] w (EPost a g w x s') := by
  have FR := Aside0.mk (Fr.start h)
  have C := FR.out.c0
  have HWN := Lib.hid (now_wf h)
  obtain ⟨t, ht⟩ : ∃ t, t = s.now := ⟨_, rfl⟩
  have HN := Lib.hid ht
  unfold psPrimary at hx
  rw [← ht] at hx
  rw [if_pos (by rw [ht]; exact hk)] at hx
  obtain ⟨rfl, rfl⟩ := Prod.mk.inj (Option.some.inj hx)
  have kk : (t.kind == 2) = true := beq_iff_eq.2 (by rw [ht]; exact hk)
  have HW := Lib.hid (show Wf64 t.num by rw [ht]; exact HWN.out)
  clear hx hk ht h
  go_enter Tryd.func96, Tryd.ntmps96
  go_wp2_with (first | ((with_reducible refine gate_dst (N := 3) rfl ?_); refine FR.out.boxE (N := 3) #[.int .i64 q.line, .int .i64 q.col] 32 (by rfl) (by rfl) ?hr ?_; (case hr => first | (go_simp; done) | (go_simp; rfl)); intro b3 AW1 f_; replace FR := Aside0.mk f_; replace C := f_.c1; clear f_) | ((with_reducible refine gate_dst (N := 4) rfl ?_); refine FR.out.boxE (N := 4) #[.int .i64 0, .int .i64 0, .int .i64 0, .int .i64 0, .string ⟨#[]⟩, .int .i64 0, .slice none 0 0] 51 (by rfl) (by rfl) ?hr ?_; (case hr => first | (go_simp; done) | (go_simp; rfl)); intro b4 AW2 f_; replace FR := Aside0.mk f_; replace C := f_.c2; clear f_) | (go_at_call 22; (with_reducible refine (FR.out.bc (now_calls FR.out.ps)).mono ?_); rintro e AW3 ⟨rfl, f_⟩; rw [← HN.out]; replace FR := Aside0.mk f_; replace C := f_.c2; clear f_) | ((with_reducible refine gate_dst (N := 5) rfl ?_); refine FR.out.varE (W1 := ?_) (N := 5) #[.int .i64 t.kind, .string t.text, .int .i64 t.num, .int .i64 t.pos.line, .int .i64 t.pos.col] 71 (by rfl) (by rfl) (by rfl) (by rfl) ?hr ?hs ?_; (case hr => first | (go_simp; done) | (go_simp; rfl)); (case hs => first | (go_simp; done) | (go_simp; rfl)); intro b5 AW4 f_; replace FR := Aside0.mk f_; replace C := f_.c3; clear f_) | (go_at_call 44; (with_reducible refine (FR.out.cc (skip_calls FR.out.ps)).mono ?_); rintro e AW5 ⟨rfl, f_⟩; replace FR := Aside0.mk f_; replace C := f_.c3; clear f_) | ((with_reducible refine gate_store (t := 51) (p := 4) (v := .tmp 20) rfl ?_); refine FR.out.s2 [.int .i64 1, .int .i64 q.line, .int .i64 q.col, .int .i64 t.num, .string ⟨#[]⟩, .int .i64 0, .slice none 0 0] (by rfl) (by rfl) ?hr (by rfl) ?_; (case hr => first | (go_simp; done) | (go_simp; rfl)); intro AW6 f_; replace FR := Aside0.mk f_; replace C := f_.c3; clear f_))
  refine bodyPost_ret (results_cell_row rfl _ _ b4 _ _ (0, 0) _ rfl FR.out.b2 Tryd.underlying51 rfl (by kernel_rfl)) rfl ?_
  exact FR.out.epost (x := ⟨1, q, t.num, ⟨#[]⟩, 0, []⟩) rfl (foot_all fun W => kExpr_mk W ⟨1, q, t.num, ⟨#[]⟩, 0, []⟩ HW.out (Nat.le_refl _) (Kd.C_nil kExpr W))

set_option maxRecDepth 100000 in
set_option maxHeartbeats 6400000 in
theorem prim_true {a : GA} {g : Nat} {p : Ps} (G : Good a g p) (q : Pos) (s : PS) (x : Expr) (s' : PS) (w : World) (h : PSt a g s w) (hx : psPrimary p q s = some (x, s')) (hk : ¬ s.now.kind = 2) (h1 : (s.take [116, 114, 117, 101]).1 = true) :
    Calls Tryd.prog 96 #[.pointer (some ⟨g, 0, none⟩), .agg #[.int .i64 q.line, .int .i64 q.col]] w (EPost a g w x s') := by
  have FR := Aside0.mk (Fr.start h)
  have C := FR.out.c0
  have HWN := Lib.hid (now_wf h)
  obtain ⟨t, ht⟩ : ∃ t, t = s.now := ⟨_, rfl⟩
  have HN := Lib.hid ht
  unfold psPrimary at hx
  rw [← ht] at hx
  have hk2 : ¬ t.kind = 2 := by rw [ht]; exact hk
  have kk : (t.kind == 2) = false := beq_eq_false_iff_ne.2 hk2
  rw [if_neg hk2] at hx
  rw [if_pos h1] at hx
  obtain ⟨rfl, rfl⟩ := Prod.mk.inj (Option.some.inj hx)
  have HT1 := Lib.hid h1
  clear hx hk hk2 ht h h1
  go_enter Tryd.func96, Tryd.ntmps96
  go_wp2_with (first | ((with_reducible refine gate_dst (N := 3) rfl ?_); refine FR.out.boxE (N := 3) #[.int .i64 q.line, .int .i64 q.col] 32 (by rfl) (by rfl) ?hr ?_; (case hr => first | (go_simp; done) | (go_simp; rfl)); intro b3 BW1 f_; replace FR := Aside0.mk f_; replace C := f_.c1; clear f_) | ((with_reducible refine gate_dst (N := 4) rfl ?_); refine FR.out.boxE (N := 4) #[.int .i64 0, .int .i64 0, .int .i64 0, .int .i64 0, .string ⟨#[]⟩, .int .i64 0, .slice none 0 0] 51 (by rfl) (by rfl) ?hr ?_; (case hr => first | (go_simp; done) | (go_simp; rfl)); intro b4 BW2 f_; replace FR := Aside0.mk f_; replace C := f_.c2; clear f_) | (go_at_call 22; (with_reducible refine (FR.out.bc (now_calls FR.out.ps)).mono ?_); rintro e BW3 ⟨rfl, f_⟩; rw [← HN.out]; replace FR := Aside0.mk f_; replace C := f_.c2; clear f_) | ((with_reducible refine gate_dst (N := 5) rfl ?_); refine FR.out.varE (W1 := ?_) (N := 5) #[.int .i64 t.kind, .string t.text, .int .i64 t.num, .int .i64 t.pos.line, .int .i64 t.pos.col] 71 (by rfl) (by rfl) (by rfl) (by rfl) ?hr ?hs ?_; (case hr => first | (go_simp; done) | (go_simp; rfl)); (case hs => first | (go_simp; done) | (go_simp; rfl)); intro b5 BW4 f_; replace FR := Aside0.mk f_; replace C := f_.c3; clear f_) | (go_at_call 23; (with_reducible refine (FR.out.cc (take_yes ⟨#[116, 114, 117, 101]⟩ [116, 114, 117, 101] rfl FR.out.ps HT1.out)).mono ?_); rintro e BW5 ⟨rfl, f_⟩; replace FR := Aside0.mk f_; replace C := f_.c3; clear f_) | ((with_reducible refine gate_store (t := 51) (p := 4) (v := .tmp 25) rfl ?_); refine FR.out.s2 [.int .i64 2, .int .i64 q.line, .int .i64 q.col, .int .i64 1, .string ⟨#[]⟩, .int .i64 0, .slice none 0 0] (by rfl) (by rfl) ?hr (by rfl) ?_; (case hr => first | (go_simp; done) | (go_simp; rfl)); intro BW6 f_; replace FR := Aside0.mk f_; replace C := f_.c3; clear f_))
  refine bodyPost_ret (results_cell_row rfl _ _ b4 _ _ (0, 0) _ rfl FR.out.b2 Tryd.underlying51 rfl (by kernel_rfl)) rfl ?_
  exact FR.out.epost (x := ⟨2, q, 1, ⟨#[]⟩, 0, []⟩) rfl (foot_all fun W => kExpr_mk W ⟨2, q, 1, ⟨#[]⟩, 0, []⟩ wf_one (Nat.le_refl _) (Kd.C_nil kExpr W))

set_option maxRecDepth 100000 in
set_option maxHeartbeats 6400000 in
theorem prim_false {a : GA} {g : Nat} {p : Ps} (G : Good a g p) (q : Pos) (s : PS) (x : Expr) (s' : PS) (w : World) (h : PSt a g s w) (hx : psPrimary p q s = some (x, s')) (hk : ¬ s.now.kind = 2) (h1 : (s.take [116, 114, 117, 101]).1 = false) (h2 : (s.take [102, 97, 108, 115, 101]).1 = true) :
    Calls Tryd.prog 96 #[.pointer (some ⟨g, 0, none⟩), .agg #[.int .i64 q.line, .int .i64 q.col]] w (EPost a g w x s') := by
  have FR := Aside0.mk (Fr.start h)
  have C := FR.out.c0
  have HWN := Lib.hid (now_wf h)
  obtain ⟨t, ht⟩ : ∃ t, t = s.now := ⟨_, rfl⟩
  have HN := Lib.hid ht
  unfold psPrimary at hx
  rw [← ht] at hx
  have hk2 : ¬ t.kind = 2 := by rw [ht]; exact hk
  have kk : (t.kind == 2) = false := beq_eq_false_iff_ne.2 hk2
  rw [if_neg hk2] at hx
  rw [if_neg (by rw [h1]; decide), if_pos h2] at hx
  obtain ⟨rfl, rfl⟩ := Prod.mk.inj (Option.some.inj hx)
  have HT1 := Lib.hid h1
  have HT2 := Lib.hid h2
  clear hx hk hk2 ht h h1 h2
  go_enter Tryd.func96, Tryd.ntmps96
  go_wp2_with (first | ((with_reducible refine gate_dst (N := 3) rfl ?_); refine FR.out.boxE (N := 3) #[.int .i64 q.line, .int .i64 q.col] 32 (by rfl) (by rfl) ?hr ?_; (case hr => first | (go_simp; done) | (go_simp; rfl)); intro b3 CW1 f_; replace FR := Aside0.mk f_; replace C := f_.c1; clear f_) | ((with_reducible refine gate_dst (N := 4) rfl ?_); refine FR.out.boxE (N := 4) #[.int .i64 0, .int .i64 0, .int .i64 0, .int .i64 0, .string ⟨#[]⟩, .int .i64 0, .slice none 0 0] 51 (by rfl) (by rfl) ?hr ?_; (case hr => first | (go_simp; done) | (go_simp; rfl)); intro b4 CW2 f_; replace FR := Aside0.mk f_; replace C := f_.c2; clear f_) | (go_at_call 22; (with_reducible refine (FR.out.bc (now_calls FR.out.ps)).mono ?_); rintro e CW3 ⟨rfl, f_⟩; rw [← HN.out]; replace FR := Aside0.mk f_; replace C := f_.c2; clear f_) | ((with_reducible refine gate_dst (N := 5) rfl ?_); refine FR.out.varE (W1 := ?_) (N := 5) #[.int .i64 t.kind, .string t.text, .int .i64 t.num, .int .i64 t.pos.line, .int .i64 t.pos.col] 71 (by rfl) (by rfl) (by rfl) (by rfl) ?hr ?hs ?_; (case hr => first | (go_simp; done) | (go_simp; rfl)); (case hs => first | (go_simp; done) | (go_simp; rfl)); intro b5 CW4 f_; replace FR := Aside0.mk f_; replace C := f_.c3; clear f_) | (go_at_call 23; (with_reducible refine (FR.out.cc (take_no ⟨#[116, 114, 117, 101]⟩ [116, 114, 117, 101] rfl FR.out.ps HT1.out)).mono ?_); rintro e CW5 ⟨rfl, f_⟩; replace FR := Aside0.mk f_; replace C := f_.c3; clear f_) | (go_at_call 23; (with_reducible refine (FR.out.cc (take_yes ⟨#[102, 97, 108, 115, 101]⟩ [102, 97, 108, 115, 101] rfl FR.out.ps HT2.out)).mono ?_); rintro e CW6 ⟨rfl, f_⟩; replace FR := Aside0.mk f_; replace C := f_.c3; clear f_) | ((with_reducible refine gate_store (t := 51) (p := 4) (v := .tmp 30) rfl ?_); refine FR.out.s2 [.int .i64 2, .int .i64 q.line, .int .i64 q.col, .int .i64 0, .string ⟨#[]⟩, .int .i64 0, .slice none 0 0] (by rfl) (by rfl) ?hr (by rfl) ?_; (case hr => first | (go_simp; done) | (go_simp; rfl)); intro CW7 f_; replace FR := Aside0.mk f_; replace C := f_.c3; clear f_))
  refine bodyPost_ret (results_cell_row rfl _ _ b4 _ _ (0, 0) _ rfl FR.out.b2 Tryd.underlying51 rfl (by kernel_rfl)) rfl ?_
  exact FR.out.epost (x := ⟨2, q, 0, ⟨#[]⟩, 0, []⟩) rfl (foot_all fun W => kExpr_mk W ⟨2, q, 0, ⟨#[]⟩, 0, []⟩ wf_zero (Nat.le_refl _) (Kd.C_nil kExpr W))

set_option maxRecDepth 100000 in
set_option maxHeartbeats 6400000 in
theorem prim_paren {a : GA} {g : Nat} {p : Ps} (G : Good a g p) (q : Pos) (s : PS) (x : Expr) (s' : PS) (w : World) (h : PSt a g s w) (hx : psPrimary p q s = some (x, s')) (hk : ¬ s.now.kind = 2) (h1 : (s.take [116, 114, 117, 101]).1 = false) (h2 : (s.take [102, 97, 108, 115, 101]).1 = false) (h3 : (s.take [40]).1 = true) :
    Calls Tryd.prog 96 #[.pointer (some ⟨g, 0, none⟩), .agg #[.int .i64 q.line, .int .i64 q.col]] w (EPost a g w x s') := by
  have FR := Aside0.mk (Fr.start h)
  have C := FR.out.c0
  have HWN := Lib.hid (now_wf h)
  obtain ⟨t, ht⟩ : ∃ t, t = s.now := ⟨_, rfl⟩
  have HN := Lib.hid ht
  unfold psPrimary at hx
  rw [← ht] at hx
  have hk2 : ¬ t.kind = 2 := by rw [ht]; exact hk
  have kk : (t.kind == 2) = false := beq_eq_false_iff_ne.2 hk2
  rw [if_neg hk2] at hx
  rw [if_neg (by rw [h1]; decide), if_neg (by rw [h2]; decide), if_pos h3] at hx
  obtain ⟨⟨x1, s1⟩, h4, h5⟩ := Option.bind_eq_some_iff.1 hx
  obtain ⟨rfl, rfl⟩ := Prod.mk.inj (Option.some.inj h5)
  have HT1 := Lib.hid h1
  have HT2 := Lib.hid h2
  have HT3 := Lib.hid h3
  have HX := Lib.hid h4
  clear hx hk hk2 ht h h1 h2 h3 h4 h5
  go_enter Tryd.func96, Tryd.ntmps96
  go_wp2_with (first | ((with_reducible refine gate_dst (N := 3) rfl ?_); refine FR.out.boxE (N := 3) #[.int .i64 q.line, .int .i64 q.col] 32 (by rfl) (by rfl) ?hr ?_; (case hr => first | (go_simp; done) | (go_simp; rfl)); intro b3 DW1 f_; replace FR := Aside0.mk f_; replace C := f_.c1; clear f_) | ((with_reducible refine gate_dst (N := 4) rfl ?_); refine FR.out.boxE (N := 4) #[.int .i64 0, .int .i64 0, .int .i64 0, .int .i64 0, .string ⟨#[]⟩, .int .i64 0, .slice none 0 0] 51 (by rfl) (by rfl) ?hr ?_; (case hr => first | (go_simp; done) | (go_simp; rfl)); intro b4 DW2 f_; replace FR := Aside0.mk f_; replace C := f_.c2; clear f_) | (go_at_call 22; (with_reducible refine (FR.out.bc (now_calls FR.out.ps)).mono ?_); rintro e DW3 ⟨rfl, f_⟩; rw [← HN.out]; replace FR := Aside0.mk f_; replace C := f_.c2; clear f_) | ((with_reducible refine gate_dst (N := 5) rfl ?_); refine FR.out.varE (W1 := ?_) (N := 5) #[.int .i64 t.kind, .string t.text, .int .i64 t.num, .int .i64 t.pos.line, .int .i64 t.pos.col] 71 (by rfl) (by rfl) (by rfl) (by rfl) ?hr ?hs ?_; (case hr => first | (go_simp; done) | (go_simp; rfl)); (case hs => first | (go_simp; done) | (go_simp; rfl)); intro b5 DW4 f_; replace FR := Aside0.mk f_; replace C := f_.c3; clear f_) | (go_at_call 23; (with_reducible refine (FR.out.cc (take_no ⟨#[116, 114, 117, 101]⟩ [116, 114, 117, 101] rfl FR.out.ps HT1.out)).mono ?_); rintro e DW5 ⟨rfl, f_⟩; replace FR := Aside0.mk f_; replace C := f_.c3; clear f_) | (go_at_call 23; (with_reducible refine (FR.out.cc (take_no ⟨#[102, 97, 108, 115, 101]⟩ [102, 97, 108, 115, 101] rfl FR.out.ps HT2.out)).mono ?_); rintro e DW6 ⟨rfl, f_⟩; replace FR := Aside0.mk f_; replace C := f_.c3; clear f_) | (go_at_call 23; (with_reducible refine (FR.out.cc (take_yes ⟨#[40]⟩ [40] rfl FR.out.ps HT3.out)).mono ?_); rintro e DW7 ⟨rfl, f_⟩; replace FR := Aside0.mk f_; replace C := f_.c3; clear f_) | (go_at_call 73; (with_reducible refine (FR.out.ec (G.whole _ _ _ _ FR.out.ps HX.out)).mono ?_); rintro e DW8 ⟨A6, c6, okx, rfl, f_⟩; replace FR := Aside0.mk f_; replace C := f_.c3; clear f_) | ((with_reducible refine gate_dst (N := 6) rfl ?_); refine FR.out.varE (W1 := ?_) (N := 6) #[.int .i64 x1.kind, .int .i64 x1.pos.line, .int .i64 x1.pos.col, .int .i64 x1.num, .string x1.name, .int .i64 x1.op, .slice A6 x1.kids.length c6] 51 (by rfl) (by rfl) (by rfl) (by rfl) ?hr ?hs ?_; (case hr => first | (go_simp; done) | (go_simp; rfl)); (case hs => first | (go_simp; done) | (go_simp; rfl)); intro b6 DW9 f_; replace FR := Aside0.mk f_; replace C := f_.c4; clear f_) | (go_at_call 46; (with_reducible refine (FR.out.cc (want_calls ⟨#[41]⟩ [41] rfl FR.out.ps)).mono ?_); rintro e DW10 ⟨rfl, f_⟩; replace FR := Aside0.mk f_; replace C := f_.c4; clear f_) | ((with_reducible refine gate_store (t := 51) (p := 4) (v := .tmp 38) rfl ?_); refine FR.out.s3 [.int .i64 x1.kind, .int .i64 x1.pos.line, .int .i64 x1.pos.col, .int .i64 x1.num, .string x1.name, .int .i64 x1.op, .slice A6 x1.kids.length c6] (by rfl) (by rfl) ?hr (by rfl) ?_; (case hr => first | (go_simp; done) | (go_simp; rfl)); intro DW11 f_; replace FR := Aside0.mk f_; replace C := f_.c4; clear f_))
  refine bodyPost_ret (results_cell_row rfl _ _ b4 _ _ (0, 0) _ rfl FR.out.b3 Tryd.underlying51 rfl (by kernel_rfl)) rfl ?_
  exact FR.out.epost rfl FR.out.v1

set_option maxRecDepth 100000 in
set_option maxHeartbeats 6400000 in
theorem prim_var {a : GA} {g : Nat} {p : Ps} (G : Good a g p) (q : Pos) (s : PS) (x : Expr) (s' : PS) (w : World) (h : PSt a g s w) (hx : psPrimary p q s = some (x, s')) (hk : ¬ s.now.kind = 2) (h1 : (s.take [116, 114, 117, 101]).1 = false) (h2 : (s.take [102, 97, 108, 115, 101]).1 = false) (h3 : (s.take [40]).1 = false) (h4 : (s.name.2.take [91]).1 = false) (h5 : (s.name.2.take [40]).1 = false) :
    Calls Tryd.prog 96 #[.pointer (some ⟨g, 0, none⟩), .agg #[.int .i64 q.line, .int .i64 q.col]] w (EPost a g w x s') := by
  have FR := Aside0.mk (Fr.start h)
  have C := FR.out.c0
  have HWN := Lib.hid (now_wf h)
  obtain ⟨t, ht⟩ : ∃ t, t = s.now := ⟨_, rfl⟩
  have HN := Lib.hid ht
  unfold psPrimary at hx
  rw [← ht] at hx
  have hk2 : ¬ t.kind = 2 := by rw [ht]; exact hk
  have kk : (t.kind == 2) = false := beq_eq_false_iff_ne.2 hk2
  rw [if_neg hk2] at hx
  rw [if_neg (by rw [h1]; decide), if_neg (by rw [h2]; decide), if_neg (by rw [h3]; decide)] at hx
  replace hx : (if (s.name.2.take [91]).1 = true then (p.whole s.name.2.skip).bind fun r => some ((⟨4, q, 0, s.name.1, 0, [r.1]⟩ : Expr), r.2.want [93]) else if (s.name.2.take [40]).1 = true then (p.args [] s.name.2.skip).bind fun r => some (⟨5, q, 0, s.name.1, 0, r.1⟩, r.2) else some (⟨3, q, 0, s.name.1, 0, []⟩, s.name.2)) = some (x, s') := hx
  rw [if_neg (by rw [h4]; decide), if_neg (by rw [h5]; decide)] at hx
  obtain ⟨rfl, rfl⟩ := Prod.mk.inj (Option.some.inj hx)
  have HT1 := Lib.hid h1
  have HT2 := Lib.hid h2
  have HT3 := Lib.hid h3
  have HT4 := Lib.hid h4
  have HT5 := Lib.hid h5
  clear hx hk hk2 ht h h1 h2 h3 h4 h5
  go_enter Tryd.func96, Tryd.ntmps96
  go_wp2_with (first | ((with_reducible refine gate_dst (N := 3) rfl ?_); refine FR.out.boxE (N := 3) #[.int .i64 q.line, .int .i64 q.col] 32 (by rfl) (by rfl) ?hr ?_; (case hr => first | (go_simp; done) | (go_simp; rfl)); intro b3 EW1 f_; replace FR := Aside0.mk f_; replace C := f_.c1; clear f_) | ((with_reducible refine gate_dst (N := 4) rfl ?_); refine FR.out.boxE (N := 4) #[.int .i64 0, .int .i64 0, .int .i64 0, .int .i64 0, .string ⟨#[]⟩, .int .i64 0, .slice none 0 0] 51 (by rfl) (by rfl) ?hr ?_; (case hr => first | (go_simp; done) | (go_simp; rfl)); intro b4 EW2 f_; replace FR := Aside0.mk f_; replace C := f_.c2; clear f_) | (go_at_call 22; (with_reducible refine (FR.out.bc (now_calls FR.out.ps)).mono ?_); rintro e EW3 ⟨rfl, f_⟩; rw [← HN.out]; replace FR := Aside0.mk f_; replace C := f_.c2; clear f_) | ((with_reducible refine gate_dst (N := 5) rfl ?_); refine FR.out.varE (W1 := ?_) (N := 5) #[.int .i64 t.kind, .string t.text, .int .i64 t.num, .int .i64 t.pos.line, .int .i64 t.pos.col] 71 (by rfl) (by rfl) (by rfl) (by rfl) ?hr ?hs ?_; (case hr => first | (go_simp; done) | (go_simp; rfl)); (case hs => first | (go_simp; done) | (go_simp; rfl)); intro b5 EW4 f_; replace FR := Aside0.mk f_; replace C := f_.c3; clear f_) | (go_at_call 23; (with_reducible refine (FR.out.cc (take_no ⟨#[116, 114, 117, 101]⟩ [116, 114, 117, 101] rfl FR.out.ps HT1.out)).mono ?_); rintro e EW5 ⟨rfl, f_⟩; replace FR := Aside0.mk f_; replace C := f_.c3; clear f_) | (go_at_call 23; (with_reducible refine (FR.out.cc (take_no ⟨#[102, 97, 108, 115, 101]⟩ [102, 97, 108, 115, 101] rfl FR.out.ps HT2.out)).mono ?_); rintro e EW6 ⟨rfl, f_⟩; replace FR := Aside0.mk f_; replace C := f_.c3; clear f_) | (go_at_call 23; (with_reducible refine (FR.out.cc (take_no ⟨#[40]⟩ [40] rfl FR.out.ps HT3.out)).mono ?_); rintro e EW7 ⟨rfl, f_⟩; replace FR := Aside0.mk f_; replace C := f_.c3; clear f_) | (go_at_call 45; (with_reducible refine (FR.out.cc (name_calls FR.out.ps)).mono ?_); rintro e EW8 ⟨rfl, f_⟩; replace FR := Aside0.mk f_; replace C := f_.c3; clear f_) | (go_at_call 23; (with_reducible refine (FR.out.cc (take_no ⟨#[91]⟩ [91] rfl FR.out.ps HT4.out)).mono ?_); rintro e EW9 ⟨rfl, f_⟩; replace FR := Aside0.mk f_; replace C := f_.c3; clear f_) | (go_at_call 23; (with_reducible refine (FR.out.cc (take_no ⟨#[40] ⟩ [40]  rfl FR.out.ps HT5.out)).mono ?_); rintro e EW10 ⟨rfl, f_⟩; replace FR := Aside0.mk f_; replace C := f_.c3; clear f_) | ((with_reducible refine gate_store (t := 51) (p := 4) (v := .tmp 63) rfl ?_); refine FR.out.s2 [.int .i64 3, .int .i64 q.line, .int .i64 q.col, .int .i64 0, .string s.name.1, .int .i64 0, .slice none 0 0] (by rfl) (by rfl) ?hr (by rfl) ?_; (case hr => first | (go_simp; done) | (go_simp; rfl)); intro EW11 f_; replace FR := Aside0.mk f_; replace C := f_.c3; clear f_))
  refine bodyPost_ret (results_cell_row rfl _ _ b4 _ _ (0, 0) _ rfl FR.out.b2 Tryd.underlying51 rfl (by kernel_rfl)) rfl ?_
  exact FR.out.epost (x := ⟨3, q, 0, s.name.1, 0, []⟩) rfl (foot_all fun W => kExpr_mk W ⟨3, q, 0, s.name.1, 0, []⟩ wf_zero (Nat.le_refl _) (Kd.C_nil kExpr W))

set_option maxRecDepth 100000 in
set_option maxHeartbeats 6400000 in
theorem prim_index {a : GA} {g : Nat} {p : Ps} (G : Good a g p) (q : Pos) (s : PS) (x : Expr) (s' : PS) (w : World) (h : PSt a g s w) (hx : psPrimary p q s = some (x, s')) (hk : ¬ s.now.kind = 2) (h1 : (s.take [116, 114, 117, 101]).1 = false) (h2 : (s.take [102, 97, 108, 115, 101]).1 = false) (h3 : (s.take [40]).1 = false) (h4 : (s.name.2.take [91]).1 = true) :
    Calls Tryd.prog 96 #[.pointer (some ⟨g, 0, none⟩), .agg #[.int .i64 q.line, .int .i64 q.col]] w (EPost a g w x s') := by
  have FR := Aside0.mk (Fr.start h)
  have C := FR.out.c0
  have HWN := Lib.hid (now_wf h)
  obtain ⟨t, ht⟩ : ∃ t, t = s.now := ⟨_, rfl⟩
  have HN := Lib.hid ht
  unfold psPrimary at hx
  rw [← ht] at hx
  have hk2 : ¬ t.kind = 2 := by rw [ht]; exact hk
  have kk : (t.kind == 2) = false := beq_eq_false_iff_ne.2 hk2
  rw [if_neg hk2] at hx
  rw [if_neg (by rw [h1]; decide), if_neg (by rw [h2]; decide), if_neg (by rw [h3]; decide)] at hx
  replace hx : (if (s.name.2.take [91]).1 = true then (p.whole s.name.2.skip).bind fun r => some ((⟨4, q, 0, s.name.1, 0, [r.1]⟩ : Expr), r.2.want [93]) else if (s.name.2.take [40]).1 = true then (p.args [] s.name.2.skip).bind fun r => some (⟨5, q, 0, s.name.1, 0, r.1⟩, r.2) else some (⟨3, q, 0, s.name.1, 0, []⟩, s.name.2)) = some (x, s') := hx
  rw [if_pos h4] at hx
  obtain ⟨⟨x1, s1⟩, h5, h6⟩ := Option.bind_eq_some_iff.1 hx
  obtain ⟨rfl, rfl⟩ := Prod.mk.inj (Option.some.inj h6)
  have HT1 := Lib.hid h1
  have HT2 := Lib.hid h2
  have HT3 := Lib.hid h3
  have HT4 := Lib.hid h4
  have HX := Lib.hid h5
  clear hx hk hk2 ht h h1 h2 h3 h4 h5 h6
  go_enter Tryd.func96, Tryd.ntmps96
  go_wp2_with (first | ((with_reducible refine gate_dst (N := 3) rfl ?_); refine FR.out.boxE (N := 3) #[.int .i64 q.line, .int .i64 q.col] 32 (by rfl) (by rfl) ?hr ?_; (case hr => first | (go_simp; done) | (go_simp; rfl)); intro b3 FW1 f_; replace FR := Aside0.mk f_; replace C := f_.c1; clear f_) | ((with_reducible refine gate_dst (N := 4) rfl ?_); refine FR.out.boxE (N := 4) #[.int .i64 0, .int .i64 0, .int .i64 0, .int .i64 0, .string ⟨#[]⟩, .int .i64 0, .slice none 0 0] 51 (by rfl) (by rfl) ?hr ?_; (case hr => first | (go_simp; done) | (go_simp; rfl)); intro b4 FW2 f_; replace FR := Aside0.mk f_; replace C := f_.c2; clear f_) | (go_at_call 22; (with_reducible refine (FR.out.bc (now_calls FR.out.ps)).mono ?_); rintro e FW3 ⟨rfl, f_⟩; rw [← HN.out]; replace FR := Aside0.mk f_; replace C := f_.c2; clear f_) | ((with_reducible refine gate_dst (N := 5) rfl ?_); refine FR.out.varE (W1 := ?_) (N := 5) #[.int .i64 t.kind, .string t.text, .int .i64 t.num, .int .i64 t.pos.line, .int .i64 t.pos.col] 71 (by rfl) (by rfl) (by rfl) (by rfl) ?hr ?hs ?_; (case hr => first | (go_simp; done) | (go_simp; rfl)); (case hs => first | (go_simp; done) | (go_simp; rfl)); intro b5 FW4 f_; replace FR := Aside0.mk f_; replace C := f_.c3; clear f_) | (go_at_call 23; (with_reducible refine (FR.out.cc (take_no ⟨#[116, 114, 117, 101]⟩ [116, 114, 117, 101] rfl FR.out.ps HT1.out)).mono ?_); rintro e FW5 ⟨rfl, f_⟩; replace FR := Aside0.mk f_; replace C := f_.c3; clear f_) | (go_at_call 23; (with_reducible refine (FR.out.cc (take_no ⟨#[102, 97, 108, 115, 101]⟩ [102, 97, 108, 115, 101] rfl FR.out.ps HT2.out)).mono ?_); rintro e FW6 ⟨rfl, f_⟩; replace FR := Aside0.mk f_; replace C := f_.c3; clear f_) | (go_at_call 23; (with_reducible refine (FR.out.cc (take_no ⟨#[40]⟩ [40] rfl FR.out.ps HT3.out)).mono ?_); rintro e FW7 ⟨rfl, f_⟩; replace FR := Aside0.mk f_; replace C := f_.c3; clear f_) | (go_at_call 45; (with_reducible refine (FR.out.cc (name_calls FR.out.ps)).mono ?_); rintro e FW8 ⟨rfl, f_⟩; replace FR := Aside0.mk f_; replace C := f_.c3; clear f_) | (go_at_call 23; (with_reducible refine (FR.out.cc (take_yes ⟨#[91]⟩ [91] rfl FR.out.ps HT4.out)).mono ?_); rintro e FW9 ⟨rfl, f_⟩; replace FR := Aside0.mk f_; replace C := f_.c3; clear f_) | (go_at_call 73; (with_reducible refine (FR.out.ec (G.whole _ _ _ _ FR.out.ps HX.out)).mono ?_); rintro e FW10 ⟨A6, c6, okx, rfl, f_⟩; replace FR := Aside0.mk f_; replace C := f_.c3; clear f_) | ((with_reducible refine gate_dst (N := 8) rfl ?_); refine FR.out.varE (W1 := ?_) (N := 8) #[.int .i64 x1.kind, .int .i64 x1.pos.line, .int .i64 x1.pos.col, .int .i64 x1.num, .string x1.name, .int .i64 x1.op, .slice A6 x1.kids.length c6] 51 (by rfl) (by rfl) (by rfl) (by rfl) ?hr ?hs ?_; (case hr => first | (go_simp; done) | (go_simp; rfl)); (case hs => first | (go_simp; done) | (go_simp; rfl)); intro b8 FW11 f_; replace FR := Aside0.mk f_; replace C := f_.c4; clear f_) | (go_at_call 46; (with_reducible refine (FR.out.cc (want_calls ⟨#[93]⟩ [93] rfl FR.out.ps)).mono ?_); rintro e FW12 ⟨rfl, f_⟩; replace FR := Aside0.mk f_; replace C := f_.c4; clear f_) | ((with_reducible refine gate_dst (N := 51) rfl ?_); refine FR.out.litE kExpr 51 (N := 51) [x1] [.int .i64 x1.kind, .int .i64 x1.pos.line, .int .i64 x1.pos.col, .int .i64 x1.num, .string x1.name, .int .i64 x1.op, .slice A6 x1.kids.length c6] (by rfl) (by rfl) ?hr (fun h => reps1 h rfl) (show 1 ≤ 9223372036854775807 by decide) ?_; (case hr => first | (go_simp; done) | (go_simp; rfl)); intro A_y c_y FW13 oky f_; replace FR := Aside0.mk f_; replace C := f_.c4; clear f_) | ((with_reducible refine gate_store (t := 51) (p := 4) (v := .tmp 52) rfl ?_); refine FR.out.s3 [.int .i64 4, .int .i64 q.line, .int .i64 q.col, .int .i64 0, .string s.name.1, .int .i64 0, .slice A_y 1 c_y] (by rfl) (by rfl) ?hr (by rfl) ?_; (case hr => first | (go_simp; done) | (go_simp; rfl)); intro FW14 f_; replace FR := Aside0.mk f_; replace C := f_.c4; clear f_))
  refine bodyPost_ret (results_cell_row rfl _ _ b4 _ _ (0, 0) _ rfl FR.out.b3 Tryd.underlying51 rfl (by kernel_rfl)) rfl ?_
  exact FR.out.epost (x := ⟨4, q, 0, s.name.1, 0, [x1]⟩) rfl (Foot.imp FR.out.v1 fun W h => kExpr_mk W ⟨4, q, 0, s.name.1, 0, [x1]⟩ wf_zero h.1 h.2)
end Go.Proofs.YtgenlgfbjlclbaaDoor
