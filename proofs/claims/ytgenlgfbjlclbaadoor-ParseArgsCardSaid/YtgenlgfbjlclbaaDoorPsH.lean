/- unary: an expression with signs ahead, or without. -/
import Derived.Test.YtgenlgfbjlclbaaDoorPsG
namespace Go.Proofs.YtgenlgfbjlclbaaDoor
open Go.RowKit Go.Proofs.YtgenlgfbjlclbaaDoorW.PrintWords Go.Proofs.YtgenlgfbjlclbaaDoorW.PrintLast Go.Proofs.YtgenlgfbjlclbaaDoorW.PrintMore
set_option linter.unusedVariables false
set_option linter.unusedSimpArgs false

theorem down_now {s : PS} (h : s.down.1 = true) : s.down.2.now = s.now := by
  unfold PS.down at h ⊢
  split
  · rfl
  · split
    · rename_i hb h2; rw [if_neg hb, if_pos h2] at h; cases h
    · rfl
theorem up_deep (s : PS) : s.up.deep = s.deep - 1 := rfl
theorem skip_deep (s : PS) : s.skip.deep = s.deep := by unfold PS.skip; split <;> rfl

set_option maxRecDepth 100000 in
set_option maxHeartbeats 6400000 in
theorem un_bad {a : GA} {g : Nat} {p : Ps} (G : Good a g p) (hdeep : ∀ s x s', p.unary s = some (x, s') → s'.deep = s.deep) (s : PS) (x : Expr) (s' : PS) (w : World) (h : PSt a g s w) (hx : psUnary p s = some (x, s')) (hb : s.bad = true) :
    Calls Tryd.prog 92 #[.pointer (some ⟨g, 0, none⟩)] w (EPost a g w x s') := by
  have hmf : ∀ (fn : Fn) (first cap : Array Value) (w : World), (Instr.makeFunc fn first cap).run Tryd.prog w = .ok (.func fn first cap) w := fun _ _ _ _ => rfl
  have hf1 := fld1
  have hf3 := fld3
  have FR := Aside0.mk (Fr.start h)
  have C := FR.out.c0
  obtain ⟨t, ht⟩ : ∃ t, t = s.now := ⟨_, rfl⟩
  have HN := Lib.hid ht
  unfold psUnary at hx
  rw [← ht] at hx
  rw [if_pos hb] at hx
  obtain ⟨rfl, rfl⟩ := Prod.mk.inj (Option.some.inj hx)
  have HB_ := Lib.hid hb
  clear hx hb ht h
  go_enter_defers Tryd.func92, Tryd.ntmps92
  go_wp2_with (first | ((with_reducible refine gate_dst (N := 1) rfl ?_); refine FR.out.boxE (N := 1) #[.pointer (some ⟨g, 0, none⟩)] 66 (by rfl) (by rfl) ?hr ?_; (case hr => first | (go_simp; done) | (go_simp; rfl)); intro b1 AW1 f_; replace FR := Aside0.mk f_; replace C := f_.c1; clear f_) | ((with_reducible refine gate_dst (N := 2) rfl ?_); refine FR.out.boxE (N := 2) #[.int .i64 0, .int .i64 0, .int .i64 0, .int .i64 0, .string ⟨#[]⟩, .int .i64 0, .slice none 0 0] 51 (by rfl) (by rfl) ?hr ?_; (case hr => first | (go_simp; done) | (go_simp; rfl)); intro b2 AW2 f_; replace FR := Aside0.mk f_; replace C := f_.c2; clear f_) | (go_at_call 22; (with_reducible refine (FR.out.bc (now_calls FR.out.ps)).mono ?_); rintro e AW3 ⟨rfl, f_⟩; rw [← HN.out]; replace FR := Aside0.mk f_; replace C := f_.c2; clear f_) | ((with_reducible refine gate_dst (N := 3) rfl ?_); refine FR.out.varE (W1 := ?_) (N := 3) #[.int .i64 t.pos.line, .int .i64 t.pos.col] 32 (by rfl) (by rfl) (by rfl) (by rfl) ?hr ?hs ?_; (case hr => first | (go_simp; done) | (go_simp; rfl)); (case hs => first | (go_simp; done) | (go_simp; rfl)); intro b3 AW4 f_; replace FR := Aside0.mk f_; replace C := f_.c3; clear f_) | (go_at_call 21; (with_reducible refine (FR.out.bc (bad_calls FR.out.ps)).mono ?_); rintro e AW5 ⟨rfl, f_⟩; rw [HB_.out]; replace FR := Aside0.mk f_; replace C := f_.c3; clear f_) | ((with_reducible refine gate_store (t := 51) (p := 2) (v := .tmp 12) rfl ?_); refine FR.out.s2 [.int .i64 0, .int .i64 0, .int .i64 0, .int .i64 0, .string ⟨#[]⟩, .int .i64 0, .slice none 0 0] (by rfl) (by rfl) ?hr (by rfl) ?_; (case hr => first | (go_simp; done) | (go_simp; rfl)); intro AW6 f_; replace FR := Aside0.mk f_; replace C := f_.c3; clear f_))
  exact ⟨_, results_cell_row rfl _ _ b2 _ _ (0, 0) _ rfl FR.out.b2 Tryd.underlying51 rfl (by kernel_rfl), FR.out.epost (x := eZ) rfl (eZ_FK _ _)⟩

set_option maxRecDepth 100000 in
set_option maxHeartbeats 6400000 in
theorem un_prim {a : GA} {g : Nat} {p : Ps} (G : Good a g p) (hdeep : ∀ s x s', p.unary s = some (x, s') → s'.deep = s.deep) (s : PS) (x : Expr) (s' : PS) (w : World) (h : PSt a g s w) (hx : psUnary p s = some (x, s')) (hb : s.bad = false) (h1 : s.isM [33] = false) (h2 : s.isM [45] = false) :
    Calls Tryd.prog 92 #[.pointer (some ⟨g, 0, none⟩)] w (EPost a g w x s') := by
  have hmf : ∀ (fn : Fn) (first cap : Array Value) (w : World), (Instr.makeFunc fn first cap).run Tryd.prog w = .ok (.func fn first cap) w := fun _ _ _ _ => rfl
  have hf1 := fld1
  have hf3 := fld3
  have FR := Aside0.mk (Fr.start h)
  have C := FR.out.c0
  obtain ⟨t, ht⟩ : ∃ t, t = s.now := ⟨_, rfl⟩
  have HN := Lib.hid ht
  unfold psUnary at hx
  rw [← ht] at hx
  rw [if_neg (by rw [hb]; decide)] at hx
  have HB_ := Lib.hid hb
  rw [if_neg (by rw [h1, h2]; decide)] at hx
  have HI1 := Lib.hid h1
  have HI2 := Lib.hid h2
  have HX := Lib.hid hx
  clear hx hb ht h h1 h2
  go_enter_defers Tryd.func92, Tryd.ntmps92
  go_wp2_with (first | ((with_reducible refine gate_dst (N := 1) rfl ?_); refine FR.out.boxE (N := 1) #[.pointer (some ⟨g, 0, none⟩)] 66 (by rfl) (by rfl) ?hr ?_; (case hr => first | (go_simp; done) | (go_simp; rfl)); intro b1 BW1 f_; replace FR := Aside0.mk f_; replace C := f_.c1; clear f_) | ((with_reducible refine gate_dst (N := 2) rfl ?_); refine FR.out.boxE (N := 2) #[.int .i64 0, .int .i64 0, .int .i64 0, .int .i64 0, .string ⟨#[]⟩, .int .i64 0, .slice none 0 0] 51 (by rfl) (by rfl) ?hr ?_; (case hr => first | (go_simp; done) | (go_simp; rfl)); intro b2 BW2 f_; replace FR := Aside0.mk f_; replace C := f_.c2; clear f_) | (go_at_call 22; (with_reducible refine (FR.out.bc (now_calls FR.out.ps)).mono ?_); rintro e BW3 ⟨rfl, f_⟩; rw [← HN.out]; replace FR := Aside0.mk f_; replace C := f_.c2; clear f_) | ((with_reducible refine gate_dst (N := 3) rfl ?_); refine FR.out.varE (W1 := ?_) (N := 3) #[.int .i64 t.pos.line, .int .i64 t.pos.col] 32 (by rfl) (by rfl) (by rfl) (by rfl) ?hr ?hs ?_; (case hr => first | (go_simp; done) | (go_simp; rfl)); (case hs => first | (go_simp; done) | (go_simp; rfl)); intro b3 BW4 f_; replace FR := Aside0.mk f_; replace C := f_.c3; clear f_) | (go_at_call 21; (with_reducible refine (FR.out.bc (bad_calls FR.out.ps)).mono ?_); rintro e BW5 ⟨rfl, f_⟩; rw [HB_.out]; replace FR := Aside0.mk f_; replace C := f_.c3; clear f_) | (go_at_call 43; (with_reducible refine (FR.out.bc (is_calls ⟨#[33]⟩ FR.out.ps)).mono ?_); rintro e BW6 ⟨rfl, f_⟩; rw [HI1.out]; replace FR := Aside0.mk f_; replace C := f_.c3; clear f_) | (go_at_call 43; (with_reducible refine (FR.out.bc (is_calls ⟨#[45]⟩ FR.out.ps)).mono ?_); rintro e BW7 ⟨rfl, f_⟩; rw [HI2.out]; replace FR := Aside0.mk f_; replace C := f_.c3; clear f_) | (go_at_call 96; (with_reducible refine (FR.out.ec (G.primary t.pos _ _ _ _ FR.out.ps HB_.out HX.out)).mono ?_); rintro e BW8 ⟨A6, c6, okx, rfl, f_⟩; replace FR := Aside0.mk f_; replace C := f_.c3; clear f_) | ((with_reducible refine gate_store (t := 51) (p := 2) (v := .tmp 44) rfl ?_); refine FR.out.s2 [.int .i64 x.kind, .int .i64 x.pos.line, .int .i64 x.pos.col, .int .i64 x.num, .string x.name, .int .i64 x.op, .slice A6 x.kids.length c6] (by rfl) (by rfl) ?hr (by rfl) ?_; (case hr => first | (go_simp; done) | (go_simp; rfl)); intro BW9 f_; replace FR := Aside0.mk f_; replace C := f_.c3; clear f_))
  exact ⟨_, results_cell_row rfl _ _ b2 _ _ (0, 0) _ rfl FR.out.b2 Tryd.underlying51 rfl (by kernel_rfl), FR.out.epost rfl FR.out.v1⟩

set_option maxRecDepth 100000 in
set_option maxHeartbeats 6400000 in
theorem un_deep_bang {a : GA} {g : Nat} {p : Ps} (G : Good a g p) (hdeep : ∀ s x s', p.unary s = some (x, s') → s'.deep = s.deep) (s : PS) (x : Expr) (s' : PS) (w : World) (h : PSt a g s w) (hx : psUnary p s = some (x, s')) (hb : s.bad = false) (h1 : s.isM [33] = true) (h3 : s.down.1 = false) :
    Calls Tryd.prog 92 #[.pointer (some ⟨g, 0, none⟩)] w (EPost a g w x s') := by
  have hmf : ∀ (fn : Fn) (first cap : Array Value) (w : World), (Instr.makeFunc fn first cap).run Tryd.prog w = .ok (.func fn first cap) w := fun _ _ _ _ => rfl
  have hf1 := fld1
  have hf3 := fld3
  have FR := Aside0.mk (Fr.start h)
  have C := FR.out.c0
  obtain ⟨t, ht⟩ : ∃ t, t = s.now := ⟨_, rfl⟩
  have HN := Lib.hid ht
  unfold psUnary at hx
  rw [← ht] at hx
  rw [if_neg (by rw [hb]; decide)] at hx
  have HB_ := Lib.hid hb
  rw [if_pos (by rw [h1]; rfl)] at hx
  have HI1 := Lib.hid h1
  rw [if_neg (by rw [h3]; decide)] at hx
  obtain ⟨rfl, rfl⟩ := Prod.mk.inj (Option.some.inj hx)
  have HD := Lib.hid h3
  clear hx hb ht h h1 h3
  go_enter_defers Tryd.func92, Tryd.ntmps92
  go_wp2_with (first | ((with_reducible refine gate_dst (N := 1) rfl ?_); refine FR.out.boxE (N := 1) #[.pointer (some ⟨g, 0, none⟩)] 66 (by rfl) (by rfl) ?hr ?_; (case hr => first | (go_simp; done) | (go_simp; rfl)); intro b1 CbangW1 f_; replace FR := Aside0.mk f_; replace C := f_.c1; clear f_) | ((with_reducible refine gate_dst (N := 2) rfl ?_); refine FR.out.boxE (N := 2) #[.int .i64 0, .int .i64 0, .int .i64 0, .int .i64 0, .string ⟨#[]⟩, .int .i64 0, .slice none 0 0] 51 (by rfl) (by rfl) ?hr ?_; (case hr => first | (go_simp; done) | (go_simp; rfl)); intro b2 CbangW2 f_; replace FR := Aside0.mk f_; replace C := f_.c2; clear f_) | (go_at_call 22; (with_reducible refine (FR.out.bc (now_calls FR.out.ps)).mono ?_); rintro e CbangW3 ⟨rfl, f_⟩; rw [← HN.out]; replace FR := Aside0.mk f_; replace C := f_.c2; clear f_) | ((with_reducible refine gate_dst (N := 3) rfl ?_); refine FR.out.varE (W1 := ?_) (N := 3) #[.int .i64 t.pos.line, .int .i64 t.pos.col] 32 (by rfl) (by rfl) (by rfl) (by rfl) ?hr ?hs ?_; (case hr => first | (go_simp; done) | (go_simp; rfl)); (case hs => first | (go_simp; done) | (go_simp; rfl)); intro b3 CbangW4 f_; replace FR := Aside0.mk f_; replace C := f_.c3; clear f_) | (go_at_call 21; (with_reducible refine (FR.out.bc (bad_calls FR.out.ps)).mono ?_); rintro e CbangW5 ⟨rfl, f_⟩; rw [HB_.out]; replace FR := Aside0.mk f_; replace C := f_.c3; clear f_) | (go_at_call 43; (with_reducible refine (FR.out.bc (is_calls ⟨#[33]⟩ FR.out.ps)).mono ?_); rintro e CbangW6 ⟨rfl, f_⟩; rw [HI1.out]; replace FR := Aside0.mk f_; replace C := f_.c3; clear f_) | (go_at_call 60; (with_reducible refine (FR.out.cc (down_no FR.out.ps HD.out)).mono ?_); rintro e CbangW7 ⟨rfl, f_⟩; replace FR := Aside0.mk f_; replace C := f_.c3; clear f_) | ((with_reducible refine gate_store (t := 51) (p := 2) (v := .tmp 23) rfl ?_); refine FR.out.s2 [.int .i64 0, .int .i64 0, .int .i64 0, .int .i64 0, .string ⟨#[]⟩, .int .i64 0, .slice none 0 0] (by rfl) (by rfl) ?hr (by rfl) ?_; (case hr => first | (go_simp; done) | (go_simp; rfl)); intro CbangW8 f_; replace FR := Aside0.mk f_; replace C := f_.c3; clear f_))
  exact ⟨_, results_cell_row rfl _ _ b2 _ _ (0, 0) _ rfl FR.out.b2 Tryd.underlying51 rfl (by kernel_rfl), FR.out.epost (x := eZ) rfl (eZ_FK _ _)⟩

set_option maxRecDepth 100000 in
set_option maxHeartbeats 6400000 in
theorem un_bang_not {a : GA} {g : Nat} {p : Ps} (G : Good a g p) (hdeep : ∀ s x s', p.unary s = some (x, s') → s'.deep = s.deep) (s : PS) (x : Expr) (s' : PS) (w : World) (h : PSt a g s w) (hx : psUnary p s = some (x, s')) (hb : s.bad = false) (h1 : s.isM [33] = true) (h3 : s.down.1 = true) (h4 :  s.now.text.data.toList = [33]) :
    Calls Tryd.prog 92 #[.pointer (some ⟨g, 0, none⟩)] w (EPost a g w x s') := by
  have hmf : ∀ (fn : Fn) (first cap : Array Value) (w : World), (Instr.makeFunc fn first cap).run Tryd.prog w = .ok (.func fn first cap) w := fun _ _ _ _ => rfl
  have hf1 := fld1
  have hf3 := fld3
  have FR := Aside0.mk (Fr.start h)
  have C := FR.out.c0
  obtain ⟨t, ht⟩ : ∃ t, t = s.now := ⟨_, rfl⟩
  have HN := Lib.hid ht
  unfold psUnary at hx
  rw [← ht] at hx
  rw [if_neg (by rw [hb]; decide)] at hx
  have HB_ := Lib.hid hb
  rw [if_pos (by rw [h1]; rfl)] at hx
  have HI1 := Lib.hid h1
  rw [if_pos h3] at hx
  obtain ⟨⟨x1, s1⟩, h5, h6⟩ := Option.bind_eq_some_iff.1 hx
  rw [if_pos (by rw [ht]; exact h4)] at h6
  obtain ⟨rfl, rfl⟩ := Prod.mk.inj (Option.some.inj h6)
  have HD := Lib.hid h3
  have HX := Lib.hid h5
  have HDN := Lib.hid (show s.down.2.now = t by rw [down_now h3, ht])
  have HDX := Lib.hid (show 1 ≤ s1.deep by have := h.d0; rw [hdeep _ _ _ h5, skip_deep, deep_down h3]; omega)
  have kt : (t.text.toList == [33]) = true := by rw [Lib.toList_data, ht]; exact beq_iff_eq.2 h4
  clear hx hb ht h h1 h3 h4 h5 h6
  go_enter_defers Tryd.func92, Tryd.ntmps92
  go_wp2_with (first | ((with_reducible refine gate_dst (N := 1) rfl ?_); refine FR.out.boxE (N := 1) #[.pointer (some ⟨g, 0, none⟩)] 66 (by rfl) (by rfl) ?hr ?_; (case hr => first | (go_simp; done) | (go_simp; rfl)); intro b1 Dbang1W1 f_; replace FR := Aside0.mk f_; replace C := f_.c1; clear f_) | ((with_reducible refine gate_dst (N := 2) rfl ?_); refine FR.out.boxE (N := 2) #[.int .i64 0, .int .i64 0, .int .i64 0, .int .i64 0, .string ⟨#[]⟩, .int .i64 0, .slice none 0 0] 51 (by rfl) (by rfl) ?hr ?_; (case hr => first | (go_simp; done) | (go_simp; rfl)); intro b2 Dbang1W2 f_; replace FR := Aside0.mk f_; replace C := f_.c2; clear f_) | (go_at_call 22; (with_reducible refine (FR.out.bc (now_calls FR.out.ps)).mono ?_); rintro e Dbang1W3 ⟨rfl, f_⟩; rw [← HN.out]; replace FR := Aside0.mk f_; replace C := f_.c2; clear f_) | ((with_reducible refine gate_dst (N := 3) rfl ?_); refine FR.out.varE (W1 := ?_) (N := 3) #[.int .i64 t.pos.line, .int .i64 t.pos.col] 32 (by rfl) (by rfl) (by rfl) (by rfl) ?hr ?hs ?_; (case hr => first | (go_simp; done) | (go_simp; rfl)); (case hs => first | (go_simp; done) | (go_simp; rfl)); intro b3 Dbang1W4 f_; replace FR := Aside0.mk f_; replace C := f_.c3; clear f_) | (go_at_call 21; (with_reducible refine (FR.out.bc (bad_calls FR.out.ps)).mono ?_); rintro e Dbang1W5 ⟨rfl, f_⟩; rw [HB_.out]; replace FR := Aside0.mk f_; replace C := f_.c3; clear f_) | (go_at_call 43; (with_reducible refine (FR.out.bc (is_calls ⟨#[33]⟩ FR.out.ps)).mono ?_); rintro e Dbang1W6 ⟨rfl, f_⟩; rw [HI1.out]; replace FR := Aside0.mk f_; replace C := f_.c3; clear f_) | (go_at_call 60; (with_reducible refine (FR.out.cc (down_yes FR.out.ps HD.out)).mono ?_); rintro e Dbang1W7 ⟨rfl, f_⟩; replace FR := Aside0.mk f_; replace C := f_.c3; clear f_) | (go_at_call 44; (with_reducible refine (FR.out.cc (skip_calls FR.out.ps)).mono ?_); rintro e Dbang1W8 ⟨rfl, f_⟩; rw [HDN.out]; replace FR := Aside0.mk f_; replace C := f_.c3; clear f_) | (go_at_call 92; (with_reducible refine (FR.out.ec (G.unary _ _ _ _ FR.out.ps HX.out)).mono ?_); rintro e Dbang1W9 ⟨A6, c6, okx, rfl, f_⟩; replace FR := Aside0.mk f_; replace C := f_.c3; clear f_) | ((with_reducible refine gate_dst (N := 5) rfl ?_); refine FR.out.varE (W1 := ?_) (N := 5) #[.int .i64 x1.kind, .int .i64 x1.pos.line, .int .i64 x1.pos.col, .int .i64 x1.num, .string x1.name, .int .i64 x1.op, .slice A6 x1.kids.length c6] 51 (by rfl) (by rfl) (by rfl) (by rfl) ?hr ?hs ?_; (case hr => first | (go_simp; done) | (go_simp; rfl)); (case hs => first | (go_simp; done) | (go_simp; rfl)); intro b5 Dbang1W10 f_; replace FR := Aside0.mk f_; replace C := f_.c4; clear f_) | ((with_reducible refine gate_dst (N := 34) rfl ?_); refine FR.out.litE kExpr 51 (N := 34) [x1] [.int .i64 x1.kind, .int .i64 x1.pos.line, .int .i64 x1.pos.col, .int .i64 x1.num, .string x1.name, .int .i64 x1.op, .slice A6 x1.kids.length c6] (by rfl) (by rfl) ?hr (fun h => reps1 h rfl) (show 1 ≤ 9223372036854775807 by decide) ?_; (case hr => first | (go_simp; done) | (go_simp; rfl)); intro A_y c_y Dbang1W11 oky f_; replace FR := Aside0.mk f_; replace C := f_.c4; clear f_) | ((with_reducible refine gate_store (t := 51) (p := 2) (v := .tmp 35) rfl ?_); refine FR.out.s3 [.int .i64 9, .int .i64 t.pos.line, .int .i64 t.pos.col, .int .i64 0, .string ⟨#[]⟩, .int .i64 0, .slice A_y 1 c_y] (by rfl) (by rfl) ?hr (by rfl) ?_; (case hr => first | (go_simp; done) | (go_simp; rfl)); intro Dbang1W12 f_; replace FR := Aside0.mk f_; replace C := f_.c4; clear f_))
  · refine leaves_cons (f := 95) (args := #[.pointer (some ⟨b1, 0, none⟩)]) (by simp) (by simp [go_sem]) ?_
    refine (unary_up b1 .returning ((blk_cell FR.out.b4 0).trans rfl) FR.out.ps HDX.out).mono ?_
    rintro e u' w9 ⟨rfl, rfl, ch_, ps_⟩
    have FR := FR.out.chg ch_ ps_
    exact ⟨_, results_cell_row rfl _ _ b2 _ _ (0, 0) _ rfl FR.b3 Tryd.underlying51 rfl (by kernel_rfl), FR.epost (x := ⟨9, t.pos, 0, ⟨#[]⟩, 0, [x1]⟩) rfl (Foot.imp FR.v1 fun W h => kExpr_mk W ⟨9, t.pos, 0, ⟨#[]⟩, 0, [x1]⟩ wf_zero h.1 h.2)⟩

set_option maxRecDepth 100000 in
set_option maxHeartbeats 6400000 in
theorem un_bang_neg {a : GA} {g : Nat} {p : Ps} (G : Good a g p) (hdeep : ∀ s x s', p.unary s = some (x, s') → s'.deep = s.deep) (s : PS) (x : Expr) (s' : PS) (w : World) (h : PSt a g s w) (hx : psUnary p s = some (x, s')) (hb : s.bad = false) (h1 : s.isM [33] = true) (h3 : s.down.1 = true) (h4 : ¬ s.now.text.data.toList = [33]) :
    Calls Tryd.prog 92 #[.pointer (some ⟨g, 0, none⟩)] w (EPost a g w x s') := by
  have hmf : ∀ (fn : Fn) (first cap : Array Value) (w : World), (Instr.makeFunc fn first cap).run Tryd.prog w = .ok (.func fn first cap) w := fun _ _ _ _ => rfl
  have hf1 := fld1
  have hf3 := fld3
  have FR := Aside0.mk (Fr.start h)
  have C := FR.out.c0
  obtain ⟨t, ht⟩ : ∃ t, t = s.now := ⟨_, rfl⟩
  have HN := Lib.hid ht
  unfold psUnary at hx
  rw [← ht] at hx
  rw [if_neg (by rw [hb]; decide)] at hx
  have HB_ := Lib.hid hb
  rw [if_pos (by rw [h1]; rfl)] at hx
  have HI1 := Lib.hid h1
  rw [if_pos h3] at hx
  obtain ⟨⟨x1, s1⟩, h5, h6⟩ := Option.bind_eq_some_iff.1 hx
  rw [if_neg (by rw [ht]; exact h4)] at h6
  obtain ⟨rfl, rfl⟩ := Prod.mk.inj (Option.some.inj h6)
  have HD := Lib.hid h3
  have HX := Lib.hid h5
  have HDN := Lib.hid (show s.down.2.now = t by rw [down_now h3, ht])
  have HDX := Lib.hid (show 1 ≤ s1.deep by have := h.d0; rw [hdeep _ _ _ h5, skip_deep, deep_down h3]; omega)
  have kt : (t.text.toList == [33]) = false := by rw [Lib.toList_data, ht]; exact beq_eq_false_iff_ne.2 h4
  clear hx hb ht h h1 h3 h4 h5 h6
  go_enter_defers Tryd.func92, Tryd.ntmps92
  go_wp2_with (first | ((with_reducible refine gate_dst (N := 1) rfl ?_); refine FR.out.boxE (N := 1) #[.pointer (some ⟨g, 0, none⟩)] 66 (by rfl) (by rfl) ?hr ?_; (case hr => first | (go_simp; done) | (go_simp; rfl)); intro b1 Dbang0W1 f_; replace FR := Aside0.mk f_; replace C := f_.c1; clear f_) | ((with_reducible refine gate_dst (N := 2) rfl ?_); refine FR.out.boxE (N := 2) #[.int .i64 0, .int .i64 0, .int .i64 0, .int .i64 0, .string ⟨#[]⟩, .int .i64 0, .slice none 0 0] 51 (by rfl) (by rfl) ?hr ?_; (case hr => first | (go_simp; done) | (go_simp; rfl)); intro b2 Dbang0W2 f_; replace FR := Aside0.mk f_; replace C := f_.c2; clear f_) | (go_at_call 22; (with_reducible refine (FR.out.bc (now_calls FR.out.ps)).mono ?_); rintro e Dbang0W3 ⟨rfl, f_⟩; rw [← HN.out]; replace FR := Aside0.mk f_; replace C := f_.c2; clear f_) | ((with_reducible refine gate_dst (N := 3) rfl ?_); refine FR.out.varE (W1 := ?_) (N := 3) #[.int .i64 t.pos.line, .int .i64 t.pos.col] 32 (by rfl) (by rfl) (by rfl) (by rfl) ?hr ?hs ?_; (case hr => first | (go_simp; done) | (go_simp; rfl)); (case hs => first | (go_simp; done) | (go_simp; rfl)); intro b3 Dbang0W4 f_; replace FR := Aside0.mk f_; replace C := f_.c3; clear f_) | (go_at_call 21; (with_reducible refine (FR.out.bc (bad_calls FR.out.ps)).mono ?_); rintro e Dbang0W5 ⟨rfl, f_⟩; rw [HB_.out]; replace FR := Aside0.mk f_; replace C := f_.c3; clear f_) | (go_at_call 43; (with_reducible refine (FR.out.bc (is_calls ⟨#[33]⟩ FR.out.ps)).mono ?_); rintro e Dbang0W6 ⟨rfl, f_⟩; rw [HI1.out]; replace FR := Aside0.mk f_; replace C := f_.c3; clear f_) | (go_at_call 60; (with_reducible refine (FR.out.cc (down_yes FR.out.ps HD.out)).mono ?_); rintro e Dbang0W7 ⟨rfl, f_⟩; replace FR := Aside0.mk f_; replace C := f_.c3; clear f_) | (go_at_call 44; (with_reducible refine (FR.out.cc (skip_calls FR.out.ps)).mono ?_); rintro e Dbang0W8 ⟨rfl, f_⟩; rw [HDN.out]; replace FR := Aside0.mk f_; replace C := f_.c3; clear f_) | (go_at_call 92; (with_reducible refine (FR.out.ec (G.unary _ _ _ _ FR.out.ps HX.out)).mono ?_); rintro e Dbang0W9 ⟨A6, c6, okx, rfl, f_⟩; replace FR := Aside0.mk f_; replace C := f_.c3; clear f_) | ((with_reducible refine gate_dst (N := 5) rfl ?_); refine FR.out.varE (W1 := ?_) (N := 5) #[.int .i64 x1.kind, .int .i64 x1.pos.line, .int .i64 x1.pos.col, .int .i64 x1.num, .string x1.name, .int .i64 x1.op, .slice A6 x1.kids.length c6] 51 (by rfl) (by rfl) (by rfl) (by rfl) ?hr ?hs ?_; (case hr => first | (go_simp; done) | (go_simp; rfl)); (case hs => first | (go_simp; done) | (go_simp; rfl)); intro b5 Dbang0W10 f_; replace FR := Aside0.mk f_; replace C := f_.c4; clear f_) | ((with_reducible refine gate_dst (N := 40) rfl ?_); refine FR.out.litE kExpr 51 (N := 40) [⟨1, t.pos, 0, ⟨#[]⟩, 0, []⟩, x1] [.int .i64 1, .int .i64 t.pos.line, .int .i64 t.pos.col, .int .i64 0, .string ⟨#[]⟩, .int .i64 0, .slice none 0 0, .int .i64 x1.kind, .int .i64 x1.pos.line, .int .i64 x1.pos.col, .int .i64 x1.num, .string x1.name, .int .i64 x1.op, .slice A6 x1.kids.length c6] (by rfl) (by rfl) ?hr (fun h => reps2 (c1 := [.int .i64 1, .int .i64 t.pos.line, .int .i64 t.pos.col, .int .i64 0, .string ⟨#[]⟩, .int .i64 0, .slice none 0 0]) (c2 := [.int .i64 x1.kind, .int .i64 x1.pos.line, .int .i64 x1.pos.col, .int .i64 x1.num, .string x1.name, .int .i64 x1.op, .slice A6 x1.kids.length c6]) (foot_all fun W => kExpr_mk W ⟨1, t.pos, 0, ⟨#[]⟩, 0, []⟩ wf_zero (Nat.le_refl _) (Kd.C_nil kExpr W)) h rfl rfl) (show 2 ≤ 9223372036854775807 by decide) ?_; (case hr => first | (go_simp; done) | (go_simp; rfl)); intro A_y c_y Dbang0W11 oky f_; replace FR := Aside0.mk f_; replace C := f_.c4; clear f_) | ((with_reducible refine gate_store (t := 51) (p := 2) (v := .tmp 41) rfl ?_); refine FR.out.s3 [.int .i64 6, .int .i64 t.pos.line, .int .i64 t.pos.col, .int .i64 0, .string ⟨#[]⟩, .int .i64 2, .slice A_y 2 c_y] (by rfl) (by rfl) ?hr (by rfl) ?_; (case hr => first | (go_simp; done) | (go_simp; rfl)); intro Dbang0W12 f_; replace FR := Aside0.mk f_; replace C := f_.c4; clear f_))
  · refine leaves_cons (f := 95) (args := #[.pointer (some ⟨b1, 0, none⟩)]) (by simp) (by simp [go_sem]) ?_
    refine (unary_up b1 .returning ((blk_cell FR.out.b4 0).trans rfl) FR.out.ps HDX.out).mono ?_
    rintro e u' w9 ⟨rfl, rfl, ch_, ps_⟩
    have FR := FR.out.chg ch_ ps_
    exact ⟨_, results_cell_row rfl _ _ b2 _ _ (0, 0) _ rfl FR.b3 Tryd.underlying51 rfl (by kernel_rfl), FR.epost (x := ⟨6, t.pos, 0, ⟨#[]⟩, 2, [⟨1, t.pos, 0, ⟨#[]⟩, 0, []⟩, x1]⟩) rfl (Foot.imp FR.v1 fun W h => kExpr_mk W ⟨6, t.pos, 0, ⟨#[]⟩, 2, [⟨1, t.pos, 0, ⟨#[]⟩, 0, []⟩, x1]⟩ wf_zero h.1 h.2)⟩

set_option maxRecDepth 100000 in
set_option maxHeartbeats 6400000 in
theorem un_deep_minus {a : GA} {g : Nat} {p : Ps} (G : Good a g p) (hdeep : ∀ s x s', p.unary s = some (x, s') → s'.deep = s.deep) (s : PS) (x : Expr) (s' : PS) (w : World) (h : PSt a g s w) (hx : psUnary p s = some (x, s')) (hb : s.bad = false) (h1 : s.isM [33] = false) (h2 : s.isM [45] = true) (h3 : s.down.1 = false) :
    Calls Tryd.prog 92 #[.pointer (some ⟨g, 0, none⟩)] w (EPost a g w x s') := by
  have hmf : ∀ (fn : Fn) (first cap : Array Value) (w : World), (Instr.makeFunc fn first cap).run Tryd.prog w = .ok (.func fn first cap) w := fun _ _ _ _ => rfl
  have hf1 := fld1
  have hf3 := fld3
  have FR := Aside0.mk (Fr.start h)
  have C := FR.out.c0
  obtain ⟨t, ht⟩ : ∃ t, t = s.now := ⟨_, rfl⟩
  have HN := Lib.hid ht
  unfold psUnary at hx
  rw [← ht] at hx
  rw [if_neg (by rw [hb]; decide)] at hx
  have HB_ := Lib.hid hb
  rw [if_pos (by rw [h1, h2]; rfl)] at hx
  have HI1 := Lib.hid h1
  have HI2 := Lib.hid h2
  rw [if_neg (by rw [h3]; decide)] at hx
  obtain ⟨rfl, rfl⟩ := Prod.mk.inj (Option.some.inj hx)
  have HD := Lib.hid h3
  clear hx hb ht h h1 h2 h3
  go_enter_defers Tryd.func92, Tryd.ntmps92
  go_wp2_with (first | ((with_reducible refine gate_dst (N := 1) rfl ?_); refine FR.out.boxE (N := 1) #[.pointer (some ⟨g, 0, none⟩)] 66 (by rfl) (by rfl) ?hr ?_; (case hr => first | (go_simp; done) | (go_simp; rfl)); intro b1 CminusW1 f_; replace FR := Aside0.mk f_; replace C := f_.c1; clear f_) | ((with_reducible refine gate_dst (N := 2) rfl ?_); refine FR.out.boxE (N := 2) #[.int .i64 0, .int .i64 0, .int .i64 0, .int .i64 0, .string ⟨#[]⟩, .int .i64 0, .slice none 0 0] 51 (by rfl) (by rfl) ?hr ?_; (case hr => first | (go_simp; done) | (go_simp; rfl)); intro b2 CminusW2 f_; replace FR := Aside0.mk f_; replace C := f_.c2; clear f_) | (go_at_call 22; (with_reducible refine (FR.out.bc (now_calls FR.out.ps)).mono ?_); rintro e CminusW3 ⟨rfl, f_⟩; rw [← HN.out]; replace FR := Aside0.mk f_; replace C := f_.c2; clear f_) | ((with_reducible refine gate_dst (N := 3) rfl ?_); refine FR.out.varE (W1 := ?_) (N := 3) #[.int .i64 t.pos.line, .int .i64 t.pos.col] 32 (by rfl) (by rfl) (by rfl) (by rfl) ?hr ?hs ?_; (case hr => first | (go_simp; done) | (go_simp; rfl)); (case hs => first | (go_simp; done) | (go_simp; rfl)); intro b3 CminusW4 f_; replace FR := Aside0.mk f_; replace C := f_.c3; clear f_) | (go_at_call 21; (with_reducible refine (FR.out.bc (bad_calls FR.out.ps)).mono ?_); rintro e CminusW5 ⟨rfl, f_⟩; rw [HB_.out]; replace FR := Aside0.mk f_; replace C := f_.c3; clear f_) | (go_at_call 43; (with_reducible refine (FR.out.bc (is_calls ⟨#[33]⟩ FR.out.ps)).mono ?_); rintro e CminusW6 ⟨rfl, f_⟩; rw [HI1.out]; replace FR := Aside0.mk f_; replace C := f_.c3; clear f_) | (go_at_call 43; (with_reducible refine (FR.out.bc (is_calls ⟨#[45]⟩ FR.out.ps)).mono ?_); rintro e CminusW7 ⟨rfl, f_⟩; rw [HI2.out]; replace FR := Aside0.mk f_; replace C := f_.c3; clear f_) | (go_at_call 60; (with_reducible refine (FR.out.cc (down_no FR.out.ps HD.out)).mono ?_); rintro e CminusW8 ⟨rfl, f_⟩; replace FR := Aside0.mk f_; replace C := f_.c3; clear f_) | ((with_reducible refine gate_store (t := 51) (p := 2) (v := .tmp 23) rfl ?_); refine FR.out.s2 [.int .i64 0, .int .i64 0, .int .i64 0, .int .i64 0, .string ⟨#[]⟩, .int .i64 0, .slice none 0 0] (by rfl) (by rfl) ?hr (by rfl) ?_; (case hr => first | (go_simp; done) | (go_simp; rfl)); intro CminusW9 f_; replace FR := Aside0.mk f_; replace C := f_.c3; clear f_))
  exact ⟨_, results_cell_row rfl _ _ b2 _ _ (0, 0) _ rfl FR.out.b2 Tryd.underlying51 rfl (by kernel_rfl), FR.out.epost (x := eZ) rfl (eZ_FK _ _)⟩

set_option maxRecDepth 100000 in
set_option maxHeartbeats 6400000 in
theorem un_minus_not {a : GA} {g : Nat} {p : Ps} (G : Good a g p) (hdeep : ∀ s x s', p.unary s = some (x, s') → s'.deep = s.deep) (s : PS) (x : Expr) (s' : PS) (w : World) (h : PSt a g s w) (hx : psUnary p s = some (x, s')) (hb : s.bad = false) (h1 : s.isM [33] = false) (h2 : s.isM [45] = true) (h3 : s.down.1 = true) (h4 :  s.now.text.data.toList = [33]) :
    Calls Tryd.prog 92 #[.pointer (some ⟨g, 0, none⟩)] w (EPost a g w x s') := by
  have hmf : ∀ (fn : Fn) (first cap : Array Value) (w : World), (Instr.makeFunc fn first cap).run Tryd.prog w = .ok (.func fn first cap) w := fun _ _ _ _ => rfl
  have hf1 := fld1
  have hf3 := fld3
  have FR := Aside0.mk (Fr.start h)
  have C := FR.out.c0
  obtain ⟨t, ht⟩ : ∃ t, t = s.now := ⟨_, rfl⟩
  have HN := Lib.hid ht
  unfold psUnary at hx
  rw [← ht] at hx
  rw [if_neg (by rw [hb]; decide)] at hx
  have HB_ := Lib.hid hb
  rw [if_pos (by rw [h1, h2]; rfl)] at hx
  have HI1 := Lib.hid h1
  have HI2 := Lib.hid h2
  rw [if_pos h3] at hx
  obtain ⟨⟨x1, s1⟩, h5, h6⟩ := Option.bind_eq_some_iff.1 hx
  rw [if_pos (by rw [ht]; exact h4)] at h6
  obtain ⟨rfl, rfl⟩ := Prod.mk.inj (Option.some.inj h6)
  have HD := Lib.hid h3
  have HX := Lib.hid h5
  have HDN := Lib.hid (show s.down.2.now = t by rw [down_now h3, ht])
  have HDX := Lib.hid (show 1 ≤ s1.deep by have := h.d0; rw [hdeep _ _ _ h5, skip_deep, deep_down h3]; omega)
  have kt : (t.text.toList == [33]) = true := by rw [Lib.toList_data, ht]; exact beq_iff_eq.2 h4
  clear hx hb ht h h1 h2 h3 h4 h5 h6
  go_enter_defers Tryd.func92, Tryd.ntmps92
  go_wp2_with (first | ((with_reducible refine gate_dst (N := 1) rfl ?_); refine FR.out.boxE (N := 1) #[.pointer (some ⟨g, 0, none⟩)] 66 (by rfl) (by rfl) ?hr ?_; (case hr => first | (go_simp; done) | (go_simp; rfl)); intro b1 Dminus1W1 f_; replace FR := Aside0.mk f_; replace C := f_.c1; clear f_) | ((with_reducible refine gate_dst (N := 2) rfl ?_); refine FR.out.boxE (N := 2) #[.int .i64 0, .int .i64 0, .int .i64 0, .int .i64 0, .string ⟨#[]⟩, .int .i64 0, .slice none 0 0] 51 (by rfl) (by rfl) ?hr ?_; (case hr => first | (go_simp; done) | (go_simp; rfl)); intro b2 Dminus1W2 f_; replace FR := Aside0.mk f_; replace C := f_.c2; clear f_) | (go_at_call 22; (with_reducible refine (FR.out.bc (now_calls FR.out.ps)).mono ?_); rintro e Dminus1W3 ⟨rfl, f_⟩; rw [← HN.out]; replace FR := Aside0.mk f_; replace C := f_.c2; clear f_) | ((with_reducible refine gate_dst (N := 3) rfl ?_); refine FR.out.varE (W1 := ?_) (N := 3) #[.int .i64 t.pos.line, .int .i64 t.pos.col] 32 (by rfl) (by rfl) (by rfl) (by rfl) ?hr ?hs ?_; (case hr => first | (go_simp; done) | (go_simp; rfl)); (case hs => first | (go_simp; done) | (go_simp; rfl)); intro b3 Dminus1W4 f_; replace FR := Aside0.mk f_; replace C := f_.c3; clear f_) | (go_at_call 21; (with_reducible refine (FR.out.bc (bad_calls FR.out.ps)).mono ?_); rintro e Dminus1W5 ⟨rfl, f_⟩; rw [HB_.out]; replace FR := Aside0.mk f_; replace C := f_.c3; clear f_) | (go_at_call 43; (with_reducible refine (FR.out.bc (is_calls ⟨#[33]⟩ FR.out.ps)).mono ?_); rintro e Dminus1W6 ⟨rfl, f_⟩; rw [HI1.out]; replace FR := Aside0.mk f_; replace C := f_.c3; clear f_) | (go_at_call 43; (with_reducible refine (FR.out.bc (is_calls ⟨#[45]⟩ FR.out.ps)).mono ?_); rintro e Dminus1W7 ⟨rfl, f_⟩; rw [HI2.out]; replace FR := Aside0.mk f_; replace C := f_.c3; clear f_) | (go_at_call 60; (with_reducible refine (FR.out.cc (down_yes FR.out.ps HD.out)).mono ?_); rintro e Dminus1W8 ⟨rfl, f_⟩; replace FR := Aside0.mk f_; replace C := f_.c3; clear f_) | (go_at_call 44; (with_reducible refine (FR.out.cc (skip_calls FR.out.ps)).mono ?_); rintro e Dminus1W9 ⟨rfl, f_⟩; rw [HDN.out]; replace FR := Aside0.mk f_; replace C := f_.c3; clear f_) | (go_at_call 92; (with_reducible refine (FR.out.ec (G.unary _ _ _ _ FR.out.ps HX.out)).mono ?_); rintro e Dminus1W10 ⟨A6, c6, okx, rfl, f_⟩; replace FR := Aside0.mk f_; replace C := f_.c3; clear f_) | ((with_reducible refine gate_dst (N := 5) rfl ?_); refine FR.out.varE (W1 := ?_) (N := 5) #[.int .i64 x1.kind, .int .i64 x1.pos.line, .int .i64 x1.pos.col, .int .i64 x1.num, .string x1.name, .int .i64 x1.op, .slice A6 x1.kids.length c6] 51 (by rfl) (by rfl) (by rfl) (by rfl) ?hr ?hs ?_; (case hr => first | (go_simp; done) | (go_simp; rfl)); (case hs => first | (go_simp; done) | (go_simp; rfl)); intro b5 Dminus1W11 f_; replace FR := Aside0.mk f_; replace C := f_.c4; clear f_) | ((with_reducible refine gate_dst (N := 34) rfl ?_); refine FR.out.litE kExpr 51 (N := 34) [x1] [.int .i64 x1.kind, .int .i64 x1.pos.line, .int .i64 x1.pos.col, .int .i64 x1.num, .string x1.name, .int .i64 x1.op, .slice A6 x1.kids.length c6] (by rfl) (by rfl) ?hr (fun h => reps1 h rfl) (show 1 ≤ 9223372036854775807 by decide) ?_; (case hr => first | (go_simp; done) | (go_simp; rfl)); intro A_y c_y Dminus1W12 oky f_; replace FR := Aside0.mk f_; replace C := f_.c4; clear f_) | ((with_reducible refine gate_store (t := 51) (p := 2) (v := .tmp 35) rfl ?_); refine FR.out.s3 [.int .i64 9, .int .i64 t.pos.line, .int .i64 t.pos.col, .int .i64 0, .string ⟨#[]⟩, .int .i64 0, .slice A_y 1 c_y] (by rfl) (by rfl) ?hr (by rfl) ?_; (case hr => first | (go_simp; done) | (go_simp; rfl)); intro Dminus1W13 f_; replace FR := Aside0.mk f_; replace C := f_.c4; clear f_))
  · refine leaves_cons (f := 95) (args := #[.pointer (some ⟨b1, 0, none⟩)]) (by simp) (by simp [go_sem]) ?_
    refine (unary_up b1 .returning ((blk_cell FR.out.b4 0).trans rfl) FR.out.ps HDX.out).mono ?_
    rintro e u' w9 ⟨rfl, rfl, ch_, ps_⟩
    have FR := FR.out.chg ch_ ps_
    exact ⟨_, results_cell_row rfl _ _ b2 _ _ (0, 0) _ rfl FR.b3 Tryd.underlying51 rfl (by kernel_rfl), FR.epost (x := ⟨9, t.pos, 0, ⟨#[]⟩, 0, [x1]⟩) rfl (Foot.imp FR.v1 fun W h => kExpr_mk W ⟨9, t.pos, 0, ⟨#[]⟩, 0, [x1]⟩ wf_zero h.1 h.2)⟩

set_option maxRecDepth 100000 in
set_option maxHeartbeats 6400000 in
theorem un_minus_neg {a : GA} {g : Nat} {p : Ps} (G : Good a g p) (hdeep : ∀ s x s', p.unary s = some (x, s') → s'.deep = s.deep) (s : PS) (x : Expr) (s' : PS) (w : World) (h : PSt a g s w) (hx : psUnary p s = some (x, s')) (hb : s.bad = false) (h1 : s.isM [33] = false) (h2 : s.isM [45] = true) (h3 : s.down.1 = true) (h4 : ¬ s.now.text.data.toList = [33]) :
    Calls Tryd.prog 92 #[.pointer (some ⟨g, 0, none⟩)] w (EPost a g w x s') := by
  have hmf : ∀ (fn : Fn) (first cap : Array Value) (w : World), (Instr.makeFunc fn first cap).run Tryd.prog w = .ok (.func fn first cap) w := fun _ _ _ _ => rfl
  have hf1 := fld1
  have hf3 := fld3
  have FR := Aside0.mk (Fr.start h)
  have C := FR.out.c0
  obtain ⟨t, ht⟩ : ∃ t, t = s.now := ⟨_, rfl⟩
  have HN := Lib.hid ht
  unfold psUnary at hx
  rw [← ht] at hx
  rw [if_neg (by rw [hb]; decide)] at hx
  have HB_ := Lib.hid hb
  rw [if_pos (by rw [h1, h2]; rfl)] at hx
  have HI1 := Lib.hid h1
  have HI2 := Lib.hid h2
  rw [if_pos h3] at hx
  obtain ⟨⟨x1, s1⟩, h5, h6⟩ := Option.bind_eq_some_iff.1 hx
  rw [if_neg (by rw [ht]; exact h4)] at h6
  obtain ⟨rfl, rfl⟩ := Prod.mk.inj (Option.some.inj h6)
  have HD := Lib.hid h3
  have HX := Lib.hid h5
  have HDN := Lib.hid (show s.down.2.now = t by rw [down_now h3, ht])
  have HDX := Lib.hid (show 1 ≤ s1.deep by have := h.d0; rw [hdeep _ _ _ h5, skip_deep, deep_down h3]; omega)
  have kt : (t.text.toList == [33]) = false := by rw [Lib.toList_data, ht]; exact beq_eq_false_iff_ne.2 h4
  clear hx hb ht h h1 h2 h3 h4 h5 h6
  go_enter_defers Tryd.func92, Tryd.ntmps92
  go_wp2_with (first | ((with_reducible refine gate_dst (N := 1) rfl ?_); refine FR.out.boxE (N := 1) #[.pointer (some ⟨g, 0, none⟩)] 66 (by rfl) (by rfl) ?hr ?_; (case hr => first | (go_simp; done) | (go_simp; rfl)); intro b1 Dminus0W1 f_; replace FR := Aside0.mk f_; replace C := f_.c1; clear f_) | ((with_reducible refine gate_dst (N := 2) rfl ?_); refine FR.out.boxE (N := 2) #[.int .i64 0, .int .i64 0, .int .i64 0, .int .i64 0, .string ⟨#[]⟩, .int .i64 0, .slice none 0 0] 51 (by rfl) (by rfl) ?hr ?_; (case hr => first | (go_simp; done) | (go_simp; rfl)); intro b2 Dminus0W2 f_; replace FR := Aside0.mk f_; replace C := f_.c2; clear f_) | (go_at_call 22; (with_reducible refine (FR.out.bc (now_calls FR.out.ps)).mono ?_); rintro e Dminus0W3 ⟨rfl, f_⟩; rw [← HN.out]; replace FR := Aside0.mk f_; replace C := f_.c2; clear f_) | ((with_reducible refine gate_dst (N := 3) rfl ?_); refine FR.out.varE (W1 := ?_) (N := 3) #[.int .i64 t.pos.line, .int .i64 t.pos.col] 32 (by rfl) (by rfl) (by rfl) (by rfl) ?hr ?hs ?_; (case hr => first | (go_simp; done) | (go_simp; rfl)); (case hs => first | (go_simp; done) | (go_simp; rfl)); intro b3 Dminus0W4 f_; replace FR := Aside0.mk f_; replace C := f_.c3; clear f_) | (go_at_call 21; (with_reducible refine (FR.out.bc (bad_calls FR.out.ps)).mono ?_); rintro e Dminus0W5 ⟨rfl, f_⟩; rw [HB_.out]; replace FR := Aside0.mk f_; replace C := f_.c3; clear f_) | (go_at_call 43; (with_reducible refine (FR.out.bc (is_calls ⟨#[33]⟩ FR.out.ps)).mono ?_); rintro e Dminus0W6 ⟨rfl, f_⟩; rw [HI1.out]; replace FR := Aside0.mk f_; replace C := f_.c3; clear f_) | (go_at_call 43; (with_reducible refine (FR.out.bc (is_calls ⟨#[45]⟩ FR.out.ps)).mono ?_); rintro e Dminus0W7 ⟨rfl, f_⟩; rw [HI2.out]; replace FR := Aside0.mk f_; replace C := f_.c3; clear f_) | (go_at_call 60; (with_reducible refine (FR.out.cc (down_yes FR.out.ps HD.out)).mono ?_); rintro e Dminus0W8 ⟨rfl, f_⟩; replace FR := Aside0.mk f_; replace C := f_.c3; clear f_) | (go_at_call 44; (with_reducible refine (FR.out.cc (skip_calls FR.out.ps)).mono ?_); rintro e Dminus0W9 ⟨rfl, f_⟩; rw [HDN.out]; replace FR := Aside0.mk f_; replace C := f_.c3; clear f_) | (go_at_call 92; (with_reducible refine (FR.out.ec (G.unary _ _ _ _ FR.out.ps HX.out)).mono ?_); rintro e Dminus0W10 ⟨A6, c6, okx, rfl, f_⟩; replace FR := Aside0.mk f_; replace C := f_.c3; clear f_) | ((with_reducible refine gate_dst (N := 5) rfl ?_); refine FR.out.varE (W1 := ?_) (N := 5) #[.int .i64 x1.kind, .int .i64 x1.pos.line, .int .i64 x1.pos.col, .int .i64 x1.num, .string x1.name, .int .i64 x1.op, .slice A6 x1.kids.length c6] 51 (by rfl) (by rfl) (by rfl) (by rfl) ?hr ?hs ?_; (case hr => first | (go_simp; done) | (go_simp; rfl)); (case hs => first | (go_simp; done) | (go_simp; rfl)); intro b5 Dminus0W11 f_; replace FR := Aside0.mk f_; replace C := f_.c4; clear f_) | ((with_reducible refine gate_dst (N := 40) rfl ?_); refine FR.out.litE kExpr 51 (N := 40) [⟨1, t.pos, 0, ⟨#[]⟩, 0, []⟩, x1] [.int .i64 1, .int .i64 t.pos.line, .int .i64 t.pos.col, .int .i64 0, .string ⟨#[]⟩, .int .i64 0, .slice none 0 0, .int .i64 x1.kind, .int .i64 x1.pos.line, .int .i64 x1.pos.col, .int .i64 x1.num, .string x1.name, .int .i64 x1.op, .slice A6 x1.kids.length c6] (by rfl) (by rfl) ?hr (fun h => reps2 (c1 := [.int .i64 1, .int .i64 t.pos.line, .int .i64 t.pos.col, .int .i64 0, .string ⟨#[]⟩, .int .i64 0, .slice none 0 0]) (c2 := [.int .i64 x1.kind, .int .i64 x1.pos.line, .int .i64 x1.pos.col, .int .i64 x1.num, .string x1.name, .int .i64 x1.op, .slice A6 x1.kids.length c6]) (foot_all fun W => kExpr_mk W ⟨1, t.pos, 0, ⟨#[]⟩, 0, []⟩ wf_zero (Nat.le_refl _) (Kd.C_nil kExpr W)) h rfl rfl) (show 2 ≤ 9223372036854775807 by decide) ?_; (case hr => first | (go_simp; done) | (go_simp; rfl)); intro A_y c_y Dminus0W12 oky f_; replace FR := Aside0.mk f_; replace C := f_.c4; clear f_) | ((with_reducible refine gate_store (t := 51) (p := 2) (v := .tmp 41) rfl ?_); refine FR.out.s3 [.int .i64 6, .int .i64 t.pos.line, .int .i64 t.pos.col, .int .i64 0, .string ⟨#[]⟩, .int .i64 2, .slice A_y 2 c_y] (by rfl) (by rfl) ?hr (by rfl) ?_; (case hr => first | (go_simp; done) | (go_simp; rfl)); intro Dminus0W13 f_; replace FR := Aside0.mk f_; replace C := f_.c4; clear f_))
  · refine leaves_cons (f := 95) (args := #[.pointer (some ⟨b1, 0, none⟩)]) (by simp) (by simp [go_sem]) ?_
    refine (unary_up b1 .returning ((blk_cell FR.out.b4 0).trans rfl) FR.out.ps HDX.out).mono ?_
    rintro e u' w9 ⟨rfl, rfl, ch_, ps_⟩
    have FR := FR.out.chg ch_ ps_
    exact ⟨_, results_cell_row rfl _ _ b2 _ _ (0, 0) _ rfl FR.b3 Tryd.underlying51 rfl (by kernel_rfl), FR.epost (x := ⟨6, t.pos, 0, ⟨#[]⟩, 2, [⟨1, t.pos, 0, ⟨#[]⟩, 0, []⟩, x1]⟩) rfl (Foot.imp FR.v1 fun W h => kExpr_mk W ⟨6, t.pos, 0, ⟨#[]⟩, 2, [⟨1, t.pos, 0, ⟨#[]⟩, 0, []⟩, x1]⟩ wf_zero h.1 h.2)⟩

theorem unary_step {a : GA} {g : Nat} {p : Ps} (G : Good a g p) (hdeep : ∀ s x s', p.unary s = some (x, s') → s'.deep = s.deep) (s : PS) (x : Expr) (s' : PS) (w : World) (h : PSt a g s w) (hx : psUnary p s = some (x, s')) :
    Calls Tryd.prog 92 #[.pointer (some ⟨g, 0, none⟩)] w (EPost a g w x s') := by
  cases hb : s.bad with
  | true => exact un_bad G hdeep s x s' w h hx hb
  | false =>
  cases h1 : s.isM [33] with
  | true =>
    cases h3 : s.down.1 with
    | false => exact un_deep_bang G hdeep s x s' w h hx hb h1 h3
    | true =>
      by_cases h4 : s.now.text.data.toList = [33]
      · exact un_bang_not G hdeep s x s' w h hx hb h1 h3 h4
      · exact un_bang_neg G hdeep s x s' w h hx hb h1 h3 h4
  | false =>
  cases h2 : s.isM [45] with
  | true =>
    cases h3 : s.down.1 with
    | false => exact un_deep_minus G hdeep s x s' w h hx hb h1 h2 h3
    | true =>
      by_cases h4 : s.now.text.data.toList = [33]
      · exact un_minus_not G hdeep s x s' w h hx hb h1 h2 h3 h4
      · exact un_minus_neg G hdeep s x s' w h hx hb h1 h2 h3 h4
  | false => exact un_prim G hdeep s x s' w h hx hb h1 h2
end Go.Proofs.YtgenlgfbjlclbaaDoor
