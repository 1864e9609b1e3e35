/- stmt: a statement; choice: what follows an if. -/
import Derived.Test.YtgenlgfbjlclbaaDoorPsK
namespace Go.Proofs.YtgenlgfbjlclbaaDoor
open Go.RowKit Go.Proofs.YtgenlgfbjlclbaaDoorW.PrintWords Go.Proofs.YtgenlgfbjlclbaaDoorW.PrintLast Go.Proofs.YtgenlgfbjlclbaaDoorW.PrintMore
set_option linter.unusedVariables false
set_option linter.unusedSimpArgs false

section
variable {P : Program} {ops : Array Oper} {rest : List Oper} {o : Oper} {a : Act} {Q : Exit → Act → World → Prop}
theorem skip_event {W : World} (w1 : World) (hgd : o.guard = none) (hN : o.dst = none) (hrun : (execOp a.eval o).run P W = .ok .skip w1) (h : ∀ w', w' = w1 → wpList P ops Q rest a w') : wpList P ops Q (o :: rest) a W := by
  refine wpList_plain hgd fun K hK => ?_
  unfold Oper.wp
  rw [hrun]
  show K (a.put o.dst undef) w1
  rw [hN]
  exact hK _ _ (h _ rfl)
end
theorem PSt.deepc {a : GA} {g : Nat} {s : PS} {w : World} (h : PSt a g s w) : w.cell? ⟨g, 1, none⟩ = some (.int .i64 s.deep) ∧ w.frozen? ⟨g, 1, none⟩ = false := by
  obtain ⟨ad, c, h5, h6, h7⟩ := h.blk
  exact ⟨(blk_cell h5 1).trans rfl, blk_frozen h5 1⟩
theorem PSt.upped {a : GA} {g : Nat} {s : PS} {w w' : World} (h : PSt a g s w) (hd : 1 ≤ s.deep) (hw : w' = w.setCell ⟨g, 1, none⟩ (.int .i64 (s.deep - 1))) : Chg g w w' ∧ PSt a g s.up w' := by
  subst hw
  have ch : Chg g w (w.setCell ⟨g, 1, none⟩ (.int .i64 (s.deep - 1))) := (Chg.refl _ _).set _ _
  obtain ⟨h1, h2, h3, h4, ad, c, h5, h6, h7⟩ := h
  exact ⟨ch, h1.step ch (Nat.le_refl _), h2, (by show 0 ≤ s.deep - 1; omega), (by show s.deep - 1 ≤ 200; omega), ad, c, blk_put h5 1 _ rfl, Kd.F_step h6 (fun k hk hlt => ch.block k hlt (by have : k < g := hk; omega)), h7⟩

set_option maxRecDepth 100000 in
set_option maxHeartbeats 6400000 in
theorem stmt_let {a : GA} {g : Nat} {p : Ps} (G : Good a g p) (s : PS) (w : World) (h : PSt a g s w) (ht1 : (s.take [108, 101, 116]).1 = true) (x1 : Expr) (s1 : PS) (hx : p.whole (s.skip.name.2.want [61]) = some (x1, s1)) :
    Calls Tryd.prog 62 #[.pointer (some ⟨g, 0, none⟩)] w (SPost a g w ⟨1, s.now.pos, s.skip.name.1, [x1], [], []⟩ (s1.want [59])) := by
  have hf3 := fld3
  have FR := Aside0.mk (Fr.start h)
  have C := FR.out.c0
  obtain ⟨t, ht⟩ : ∃ t, t = s.now := ⟨_, rfl⟩
  have HN := Lib.hid ht
  try rw [← ht]
  have HT1 := Lib.hid ht1
  have HX := Lib.hid hx
  clear hx ht h ht1
  go_enter Tryd.func62, Tryd.ntmps62
  go_wp2_with (first | ((with_reducible refine gate_dst (N := 2) rfl ?_); refine FR.out.boxE (N := 2) #[.int .i64 0, .int .i64 0, .int .i64 0, .string ⟨#[]⟩, .slice none 0 0, .slice none 0 0, .slice none 0 0] 45 (by rfl) (by rfl) ?hr ?_; (case hr => first | (go_simp; done) | (go_simp; rfl)); intro b2 AW1 f_; replace FR := Aside0.mk f_; replace C := f_.c1; clear f_) | (go_at_call 22; (with_reducible refine (FR.out.bc (now_calls FR.out.ps)).mono ?_); rintro e AW2 ⟨rfl, f_⟩; rw [← HN.out]; replace FR := Aside0.mk f_; replace C := f_.c1; clear f_) | ((with_reducible refine gate_dst (N := 3) rfl ?_); refine FR.out.varE (W1 := ?_) (N := 3) #[.int .i64 0, .int .i64 t.pos.line, .int .i64 t.pos.col, .string ⟨#[]⟩, .slice none 0 0, .slice none 0 0, .slice none 0 0] 45 (by rfl) (by rfl) (by rfl) (by rfl) ?hr ?hs ?_; (case hr => first | (go_simp; done) | (go_simp; rfl)); (case hs => first | (go_simp; done) | (go_simp; rfl)); intro b3 AW3 f_; replace FR := Aside0.mk f_; replace C := f_.c2; clear f_) | (go_at_call 23; (with_reducible refine (FR.out.cc (take_yes ⟨#[108, 101, 116]⟩ [108, 101, 116] rfl FR.out.ps HT1.out)).mono ?_); rintro e AW4 ⟨rfl, f_⟩; replace FR := Aside0.mk f_; replace C := f_.c2; clear f_) | (go_at_call 45; (with_reducible refine (FR.out.cc (name_calls FR.out.ps)).mono ?_); rintro e AW5 ⟨rfl, f_⟩; replace FR := Aside0.mk f_; replace C := f_.c2; clear f_) | ((with_reducible refine gate_store (t := 42) (p := 16) (v := (.const (.int .i64 1))) rfl ?_); refine FR.out.p1 (W1 := ?_) #[.int .i64 1, .int .i64 t.pos.line, .int .i64 t.pos.col, .string ⟨#[]⟩, .slice none 0 0, .slice none 0 0, .slice none 0 0] (by rfl) (by rfl) ?hr ?hk ?hb ?_; (case hr => first | (go_simp; done) | (go_simp; rfl)); (case hk => exact (Chg.refl _ _).set _ _); (case hb => exact fun h => blk_put h 0 _ rfl); intro AW6 f_; replace FR := Aside0.mk f_; replace C := f_.c2; clear f_) | ((with_reducible refine gate_store (t := 9) (p := 17) (v := .tmp 15) rfl ?_); refine FR.out.p1 (W1 := ?_) #[.int .i64 1, .int .i64 t.pos.line, .int .i64 t.pos.col, .string s.skip.name.1, .slice none 0 0, .slice none 0 0, .slice none 0 0] (by rfl) (by rfl) ?hr ?hk ?hb ?_; (case hr => first | (go_simp; done) | (go_simp; rfl)); (case hk => exact (Chg.refl _ _).set _ _); (case hb => exact fun h => blk_put h 3 _ rfl); intro AW7 f_; replace FR := Aside0.mk f_; replace C := f_.c2; clear f_) | (go_at_call 46; (with_reducible refine (FR.out.cc (want_calls ⟨#[61]⟩ [61] rfl FR.out.ps)).mono ?_); rintro e AW8 ⟨rfl, f_⟩; replace FR := Aside0.mk f_; replace C := f_.c2; clear f_) | (go_at_call 73; (with_reducible refine (FR.out.ec (G.whole _ _ _ _ FR.out.ps HX.out)).mono ?_); rintro e AW9 ⟨A6, c6, okx, rfl, f_⟩; replace FR := Aside0.mk f_; replace C := f_.c2; clear f_) | ((with_reducible refine gate_dst (N := 22) rfl ?_); refine FR.out.litE kExpr 51 (N := 22) [x1] [.int .i64 x1.kind, .int .i64 x1.pos.line, .int .i64 x1.pos.col, .int .i64 x1.num, .string x1.name, .int .i64 x1.op, .slice A6 x1.kids.length c6] (by rfl) (by rfl) ?hr (fun h => reps1 h rfl) (show 1 ≤ 9223372036854775807 by decide) ?_; (case hr => first | (go_simp; done) | (go_simp; rfl)); intro A_y c_y AW10 oky f_; replace FR := Aside0.mk f_; replace C := f_.c2; clear f_) | ((with_reducible refine gate_store (t := 43) (p := 23) (v := .tmp 22) rfl ?_); refine FR.out.p1 (W1 := ?_) #[.int .i64 1, .int .i64 t.pos.line, .int .i64 t.pos.col, .string s.skip.name.1, .slice A_y 1 c_y, .slice none 0 0, .slice none 0 0] (by rfl) (by rfl) ?hr ?hk ?hb ?_; (case hr => first | (go_simp; done) | (go_simp; rfl)); (case hk => exact (Chg.refl _ _).set _ _); (case hb => exact fun h => blk_put h 4 _ rfl); intro AW11 f_; replace FR := Aside0.mk f_; replace C := f_.c2; clear f_) | (go_at_call 46; (with_reducible refine (FR.out.cc (want_calls ⟨#[59]⟩ [59] rfl FR.out.ps)).mono ?_); rintro e AW12 ⟨rfl, f_⟩; replace FR := Aside0.mk f_; replace C := f_.c2; clear f_) | ((with_reducible refine gate_store (t := 45) (p := 2) (v := .tmp 52) rfl ?_); refine FR.out.s2 [.int .i64 1, .int .i64 t.pos.line, .int .i64 t.pos.col, .string s.skip.name.1, .slice A_y 1 c_y, .slice none 0 0, .slice none 0 0] (by rfl) (by rfl) ?hr (by rfl) ?_; (case hr => first | (go_simp; done) | (go_simp; rfl)); intro AW13 f_; replace FR := Aside0.mk f_; replace C := f_.c2; clear f_))
  refine bodyPost_ret (results_cell_row rfl _ _ b2 _ _ (0, 0) _ rfl FR.out.b2 Tryd.underlying45 rfl (by kernel_rfl)) rfl ?_
  exact FR.out.spost (x := ⟨1, t.pos, s.skip.name.1, [x1], [], []⟩) rfl (Foot.imp FR.out.v1 fun W h => kStmt_mk W ⟨1, t.pos, s.skip.name.1, [x1], [], []⟩ h.1 h.2 (Nat.le_refl _) (Kd.C_nil kStmt W) (Nat.le_refl _) (Kd.C_nil kStmt W))

set_option maxRecDepth 100000 in
set_option maxHeartbeats 6400000 in
theorem stmt_if {a : GA} {g : Nat} {p : Ps} (G : Good a g p) (s : PS) (w : World) (h : PSt a g s w) (ht1 : (s.take [108, 101, 116]).1 = false) (ht2 : (s.take [105, 102]).1 = true) (x1 : Stmt) (s1 : PS) (hx : p.choice s.now.pos s.skip = some (x1, s1)) :
    Calls Tryd.prog 62 #[.pointer (some ⟨g, 0, none⟩)] w (SPost a g w x1 s1) := by
  have hf3 := fld3
  have FR := Aside0.mk (Fr.start h)
  have C := FR.out.c0
  obtain ⟨t, ht⟩ : ∃ t, t = s.now := ⟨_, rfl⟩
  have HN := Lib.hid ht
  try rw [← ht]
  rw [← ht] at hx
  have HT1 := Lib.hid ht1
  have HT2 := Lib.hid ht2
  have HX := Lib.hid hx
  clear hx ht h ht1 ht2
  go_enter Tryd.func62, Tryd.ntmps62
  go_wp2_with (first | ((with_reducible refine gate_dst (N := 2) rfl ?_); refine FR.out.boxE (N := 2) #[.int .i64 0, .int .i64 0, .int .i64 0, .string ⟨#[]⟩, .slice none 0 0, .slice none 0 0, .slice none 0 0] 45 (by rfl) (by rfl) ?hr ?_; (case hr => first | (go_simp; done) | (go_simp; rfl)); intro b2 BW1 f_; replace FR := Aside0.mk f_; replace C := f_.c1; clear f_) | (go_at_call 22; (with_reducible refine (FR.out.bc (now_calls FR.out.ps)).mono ?_); rintro e BW2 ⟨rfl, f_⟩; rw [← HN.out]; replace FR := Aside0.mk f_; replace C := f_.c1; clear f_) | ((with_reducible refine gate_dst (N := 3) rfl ?_); refine FR.out.varE (W1 := ?_) (N := 3) #[.int .i64 0, .int .i64 t.pos.line, .int .i64 t.pos.col, .string ⟨#[]⟩, .slice none 0 0, .slice none 0 0, .slice none 0 0] 45 (by rfl) (by rfl) (by rfl) (by rfl) ?hr ?hs ?_; (case hr => first | (go_simp; done) | (go_simp; rfl)); (case hs => first | (go_simp; done) | (go_simp; rfl)); intro b3 BW3 f_; replace FR := Aside0.mk f_; replace C := f_.c2; clear f_) | (go_at_call 23; (with_reducible refine (FR.out.cc (take_no ⟨#[108, 101, 116]⟩ [108, 101, 116] rfl FR.out.ps HT1.out)).mono ?_); rintro e BW4 ⟨rfl, f_⟩; replace FR := Aside0.mk f_; replace C := f_.c2; clear f_) | (go_at_call 23; (with_reducible refine (FR.out.cc (take_yes ⟨#[105, 102]⟩ [105, 102] rfl FR.out.ps HT2.out)).mono ?_); rintro e BW5 ⟨rfl, f_⟩; replace FR := Aside0.mk f_; replace C := f_.c2; clear f_) | (go_at_call 74; (with_reducible refine (FR.out.sc (G.choice _ _ _ _ _ FR.out.ps HX.out)).mono ?_); rintro e BW6 ⟨A4, c4, A5, c5, A6, c6, okx, rfl, f_⟩; replace FR := Aside0.mk f_; replace C := f_.c2; clear f_) | ((with_reducible refine gate_store (t := 45) (p := 2) (v := .tmp 29) rfl ?_); refine FR.out.s2 [.int .i64 x1.does, .int .i64 x1.pos.line, .int .i64 x1.pos.col, .string x1.name, .slice A4 x1.es.length c4, .slice A5 x1.thens.length c5, .slice A6 x1.elses.length c6] (by rfl) (by rfl) ?hr (by rfl) ?_; (case hr => first | (go_simp; done) | (go_simp; rfl)); intro BW7 f_; replace FR := Aside0.mk f_; replace C := f_.c2; clear f_))
  refine bodyPost_ret (results_cell_row rfl _ _ b2 _ _ (0, 0) _ rfl FR.out.b2 Tryd.underlying45 rfl (by kernel_rfl)) rfl ?_
  exact FR.out.spost rfl FR.out.v1

set_option maxRecDepth 100000 in
set_option maxHeartbeats 6400000 in
theorem stmt_while {a : GA} {g : Nat} {p : Ps} (G : Good a g p) (s : PS) (w : World) (h : PSt a g s w) (ht1 : (s.take [108, 101, 116]).1 = false) (ht2 : (s.take [105, 102]).1 = false) (ht3 : (s.take [119, 104, 105, 108, 101]).1 = true) (x1 : Expr) (s1 : PS) (hx : p.whole s.skip = some (x1, s1)) (xs1 : List Stmt) (s2 : PS) (hb : p.block s1 = some (xs1, s2)) :
    Calls Tryd.prog 62 #[.pointer (some ⟨g, 0, none⟩)] w (SPost a g w ⟨5, s.now.pos, ⟨#[]⟩, [x1], xs1, []⟩ s2) := by
  have hf3 := fld3
  have FR := Aside0.mk (Fr.start h)
  have C := FR.out.c0
  obtain ⟨t, ht⟩ : ∃ t, t = s.now := ⟨_, rfl⟩
  have HN := Lib.hid ht
  try rw [← ht]
  have HT1 := Lib.hid ht1
  have HT2 := Lib.hid ht2
  have HT3 := Lib.hid ht3
  have HX := Lib.hid hx
  have HB := Lib.hid hb
  clear hx hb ht h ht1 ht2 ht3
  go_enter Tryd.func62, Tryd.ntmps62
  go_wp2_with (first | ((with_reducible refine gate_dst (N := 2) rfl ?_); refine FR.out.boxE (N := 2) #[.int .i64 0, .int .i64 0, .int .i64 0, .string ⟨#[]⟩, .slice none 0 0, .slice none 0 0, .slice none 0 0] 45 (by rfl) (by rfl) ?hr ?_; (case hr => first | (go_simp; done) | (go_simp; rfl)); intro b2 CW1 f_; replace FR := Aside0.mk f_; replace C := f_.c1; clear f_) | (go_at_call 22; (with_reducible refine (FR.out.bc (now_calls FR.out.ps)).mono ?_); rintro e CW2 ⟨rfl, f_⟩; rw [← HN.out]; replace FR := Aside0.mk f_; replace C := f_.c1; clear f_) | ((with_reducible refine gate_dst (N := 3) rfl ?_); refine FR.out.varE (W1 := ?_) (N := 3) #[.int .i64 0, .int .i64 t.pos.line, .int .i64 t.pos.col, .string ⟨#[]⟩, .slice none 0 0, .slice none 0 0, .slice none 0 0] 45 (by rfl) (by rfl) (by rfl) (by rfl) ?hr ?hs ?_; (case hr => first | (go_simp; done) | (go_simp; rfl)); (case hs => first | (go_simp; done) | (go_simp; rfl)); intro b3 CW3 f_; replace FR := Aside0.mk f_; replace C := f_.c2; clear f_) | (go_at_call 23; (with_reducible refine (FR.out.cc (take_no ⟨#[108, 101, 116]⟩ [108, 101, 116] rfl FR.out.ps HT1.out)).mono ?_); rintro e CW4 ⟨rfl, f_⟩; replace FR := Aside0.mk f_; replace C := f_.c2; clear f_) | (go_at_call 23; (with_reducible refine (FR.out.cc (take_no ⟨#[105, 102]⟩ [105, 102] rfl FR.out.ps HT2.out)).mono ?_); rintro e CW5 ⟨rfl, f_⟩; replace FR := Aside0.mk f_; replace C := f_.c2; clear f_) | (go_at_call 23; (with_reducible refine (FR.out.cc (take_yes ⟨#[119, 104, 105, 108, 101]⟩ [119, 104, 105, 108, 101] rfl FR.out.ps HT3.out)).mono ?_); rintro e CW6 ⟨rfl, f_⟩; replace FR := Aside0.mk f_; replace C := f_.c2; clear f_) | (go_at_call 73; (with_reducible refine (FR.out.ec (G.whole _ _ _ _ FR.out.ps HX.out)).mono ?_); rintro e CW7 ⟨A6, c6, okx, rfl, f_⟩; replace FR := Aside0.mk f_; replace C := f_.c2; clear f_) | ((with_reducible refine gate_dst (N := 35) rfl ?_); refine FR.out.litE kExpr 51 (N := 35) [x1] [.int .i64 x1.kind, .int .i64 x1.pos.line, .int .i64 x1.pos.col, .int .i64 x1.num, .string x1.name, .int .i64 x1.op, .slice A6 x1.kids.length c6] (by rfl) (by rfl) ?hr (fun h => reps1 h rfl) (show 1 ≤ 9223372036854775807 by decide) ?_; (case hr => first | (go_simp; done) | (go_simp; rfl)); intro A_y c_y CW8 oky f_; replace FR := Aside0.mk f_; replace C := f_.c2; clear f_) | ((with_reducible refine gate_store (t := 42) (p := 36) (v := (.const (.int .i64 5))) rfl ?_); refine FR.out.p1 (W1 := ?_) #[.int .i64 5, .int .i64 t.pos.line, .int .i64 t.pos.col, .string ⟨#[]⟩, .slice none 0 0, .slice none 0 0, .slice none 0 0] (by rfl) (by rfl) ?hr ?hk ?hb ?_; (case hr => first | (go_simp; done) | (go_simp; rfl)); (case hk => exact (Chg.refl _ _).set _ _); (case hb => exact fun h => blk_put h 0 _ rfl); intro CW9 f_; replace FR := Aside0.mk f_; replace C := f_.c2; clear f_) | ((with_reducible refine gate_store (t := 43) (p := 37) (v := .tmp 35) rfl ?_); refine FR.out.p1 (W1 := ?_) #[.int .i64 5, .int .i64 t.pos.line, .int .i64 t.pos.col, .string ⟨#[]⟩, .slice A_y 1 c_y, .slice none 0 0, .slice none 0 0] (by rfl) (by rfl) ?hr ?hk ?hb ?_; (case hr => first | (go_simp; done) | (go_simp; rfl)); (case hk => exact (Chg.refl _ _).set _ _); (case hb => exact fun h => blk_put h 4 _ rfl); intro CW10 f_; replace FR := Aside0.mk f_; replace C := f_.c2; clear f_) | (go_at_call 47; (with_reducible refine (FR.out.blc (G.block _ _ _ _ FR.out.ps HB.out)).mono ?_); rintro e CW11 ⟨A5, c5, okk, rfl, f_⟩; replace FR := Aside0.mk f_; replace C := f_.c2; clear f_) | ((with_reducible refine gate_store (t := 39) (p := 40) (v := .tmp 39) rfl ?_); refine FR.out.p1 (W1 := ?_) #[.int .i64 5, .int .i64 t.pos.line, .int .i64 t.pos.col, .string ⟨#[]⟩, .slice A_y 1 c_y, .slice A5 xs1.length c5, .slice none 0 0] (by rfl) (by rfl) ?hr ?hk ?hb ?_; (case hr => first | (go_simp; done) | (go_simp; rfl)); (case hk => exact (Chg.refl _ _).set _ _); (case hb => exact fun h => blk_put h 5 _ rfl); intro CW12 f_; replace FR := Aside0.mk f_; replace C := f_.c2; clear f_) | ((with_reducible refine gate_store (t := 45) (p := 2) (v := .tmp 41) rfl ?_); refine FR.out.s2 [.int .i64 5, .int .i64 t.pos.line, .int .i64 t.pos.col, .string ⟨#[]⟩, .slice A_y 1 c_y, .slice A5 xs1.length c5, .slice none 0 0] (by rfl) (by rfl) ?hr (by rfl) ?_; (case hr => first | (go_simp; done) | (go_simp; rfl)); intro CW13 f_; replace FR := Aside0.mk f_; replace C := f_.c2; clear f_))
  refine bodyPost_ret (results_cell_row rfl _ _ b2 _ _ (0, 0) _ rfl FR.out.b2 Tryd.underlying45 rfl (by kernel_rfl)) rfl ?_
  exact FR.out.spost (x := ⟨5, t.pos, ⟨#[]⟩, [x1], xs1, []⟩) rfl (foot_two FR.out.v2 FR.out.v1 fun W h k => kStmt_mk W ⟨5, t.pos, ⟨#[]⟩, [x1], xs1, []⟩ h.1 h.2 k.1 k.2 (Nat.le_refl _) (Kd.C_nil kStmt W))

set_option maxRecDepth 100000 in
set_option maxHeartbeats 6400000 in
theorem stmt_return {a : GA} {g : Nat} {p : Ps} (G : Good a g p) (s : PS) (w : World) (h : PSt a g s w) (ht1 : (s.take [108, 101, 116]).1 = false) (ht2 : (s.take [105, 102]).1 = false) (ht3 : (s.take [119, 104, 105, 108, 101]).1 = false) (ht4 : (s.take [114, 101, 116, 117, 114, 110]).1 = true) (x1 : Expr) (s1 : PS) (hx : p.whole s.skip = some (x1, s1)) :
    Calls Tryd.prog 62 #[.pointer (some ⟨g, 0, none⟩)] w (SPost a g w ⟨6, s.now.pos, ⟨#[]⟩, [x1], [], []⟩ (s1.want [59])) := by
  have hf3 := fld3
  have FR := Aside0.mk (Fr.start h)
  have C := FR.out.c0
  obtain ⟨t, ht⟩ : ∃ t, t = s.now := ⟨_, rfl⟩
  have HN := Lib.hid ht
  try rw [← ht]
  have HT1 := Lib.hid ht1
  have HT2 := Lib.hid ht2
  have HT3 := Lib.hid ht3
  have HT4 := Lib.hid ht4
  have HX := Lib.hid hx
  clear hx ht h ht1 ht2 ht3 ht4
  go_enter Tryd.func62, Tryd.ntmps62
  go_wp2_with (first | ((with_reducible refine gate_dst (N := 2) rfl ?_); refine FR.out.boxE (N := 2) #[.int .i64 0, .int .i64 0, .int .i64 0, .string ⟨#[]⟩, .slice none 0 0, .slice none 0 0, .slice none 0 0] 45 (by rfl) (by rfl) ?hr ?_; (case hr => first | (go_simp; done) | (go_simp; rfl)); intro b2 DW1 f_; replace FR := Aside0.mk f_; replace C := f_.c1; clear f_) | (go_at_call 22; (with_reducible refine (FR.out.bc (now_calls FR.out.ps)).mono ?_); rintro e DW2 ⟨rfl, f_⟩; rw [← HN.out]; replace FR := Aside0.mk f_; replace C := f_.c1; clear f_) | ((with_reducible refine gate_dst (N := 3) rfl ?_); refine FR.out.varE (W1 := ?_) (N := 3) #[.int .i64 0, .int .i64 t.pos.line, .int .i64 t.pos.col, .string ⟨#[]⟩, .slice none 0 0, .slice none 0 0, .slice none 0 0] 45 (by rfl) (by rfl) (by rfl) (by rfl) ?hr ?hs ?_; (case hr => first | (go_simp; done) | (go_simp; rfl)); (case hs => first | (go_simp; done) | (go_simp; rfl)); intro b3 DW3 f_; replace FR := Aside0.mk f_; replace C := f_.c2; clear f_) | (go_at_call 23; (with_reducible refine (FR.out.cc (take_no ⟨#[108, 101, 116]⟩ [108, 101, 116] rfl FR.out.ps HT1.out)).mono ?_); rintro e DW4 ⟨rfl, f_⟩; replace FR := Aside0.mk f_; replace C := f_.c2; clear f_) | (go_at_call 23; (with_reducible refine (FR.out.cc (take_no ⟨#[105, 102]⟩ [105, 102] rfl FR.out.ps HT2.out)).mono ?_); rintro e DW5 ⟨rfl, f_⟩; replace FR := Aside0.mk f_; replace C := f_.c2; clear f_) | (go_at_call 23; (with_reducible refine (FR.out.cc (take_no ⟨#[119, 104, 105, 108, 101]⟩ [119, 104, 105, 108, 101] rfl FR.out.ps HT3.out)).mono ?_); rintro e DW6 ⟨rfl, f_⟩; replace FR := Aside0.mk f_; replace C := f_.c2; clear f_) | (go_at_call 23; (with_reducible refine (FR.out.cc (take_yes ⟨#[114, 101, 116, 117, 114, 110]⟩ [114, 101, 116, 117, 114, 110] rfl FR.out.ps HT4.out)).mono ?_); rintro e DW7 ⟨rfl, f_⟩; replace FR := Aside0.mk f_; replace C := f_.c2; clear f_) | (go_at_call 73; (with_reducible refine (FR.out.ec (G.whole _ _ _ _ FR.out.ps HX.out)).mono ?_); rintro e DW8 ⟨A6, c6, okx, rfl, f_⟩; replace FR := Aside0.mk f_; replace C := f_.c2; clear f_) | ((with_reducible refine gate_dst (N := 47) rfl ?_); refine FR.out.litE kExpr 51 (N := 47) [x1] [.int .i64 x1.kind, .int .i64 x1.pos.line, .int .i64 x1.pos.col, .int .i64 x1.num, .string x1.name, .int .i64 x1.op, .slice A6 x1.kids.length c6] (by rfl) (by rfl) ?hr (fun h => reps1 h rfl) (show 1 ≤ 9223372036854775807 by decide) ?_; (case hr => first | (go_simp; done) | (go_simp; rfl)); intro A_y c_y DW9 oky f_; replace FR := Aside0.mk f_; replace C := f_.c2; clear f_) | ((with_reducible refine gate_store (t := 42) (p := 48) (v := (.const (.int .i64 6))) rfl ?_); refine FR.out.p1 (W1 := ?_) #[.int .i64 6, .int .i64 t.pos.line, .int .i64 t.pos.col, .string ⟨#[]⟩, .slice none 0 0, .slice none 0 0, .slice none 0 0] (by rfl) (by rfl) ?hr ?hk ?hb ?_; (case hr => first | (go_simp; done) | (go_simp; rfl)); (case hk => exact (Chg.refl _ _).set _ _); (case hb => exact fun h => blk_put h 0 _ rfl); intro DW10 f_; replace FR := Aside0.mk f_; replace C := f_.c2; clear f_) | ((with_reducible refine gate_store (t := 43) (p := 49) (v := .tmp 47) rfl ?_); refine FR.out.p1 (W1 := ?_) #[.int .i64 6, .int .i64 t.pos.line, .int .i64 t.pos.col, .string ⟨#[]⟩, .slice A_y 1 c_y, .slice none 0 0, .slice none 0 0] (by rfl) (by rfl) ?hr ?hk ?hb ?_; (case hr => first | (go_simp; done) | (go_simp; rfl)); (case hk => exact (Chg.refl _ _).set _ _); (case hb => exact fun h => blk_put h 4 _ rfl); intro DW11 f_; replace FR := Aside0.mk f_; replace C := f_.c2; clear f_) | (go_at_call 46; (with_reducible refine (FR.out.cc (want_calls ⟨#[59]⟩ [59] rfl FR.out.ps)).mono ?_); rintro e DW12 ⟨rfl, f_⟩; replace FR := Aside0.mk f_; replace C := f_.c2; clear f_) | ((with_reducible refine gate_store (t := 45) (p := 2) (v := .tmp 52) rfl ?_); refine FR.out.s2 [.int .i64 6, .int .i64 t.pos.line, .int .i64 t.pos.col, .string ⟨#[]⟩, .slice A_y 1 c_y, .slice none 0 0, .slice none 0 0] (by rfl) (by rfl) ?hr (by rfl) ?_; (case hr => first | (go_simp; done) | (go_simp; rfl)); intro DW13 f_; replace FR := Aside0.mk f_; replace C := f_.c2; clear f_))
  refine bodyPost_ret (results_cell_row rfl _ _ b2 _ _ (0, 0) _ rfl FR.out.b2 Tryd.underlying45 rfl (by kernel_rfl)) rfl ?_
  exact FR.out.spost (x := ⟨6, t.pos, ⟨#[]⟩, [x1], [], []⟩) rfl (Foot.imp FR.out.v1 fun W h => kStmt_mk W ⟨6, t.pos, ⟨#[]⟩, [x1], [], []⟩ h.1 h.2 (Nat.le_refl _) (Kd.C_nil kStmt W) (Nat.le_refl _) (Kd.C_nil kStmt W))

set_option maxRecDepth 100000 in
set_option maxHeartbeats 6400000 in
theorem stmt_turn {a : GA} {g : Nat} {p : Ps} (G : Good a g p) (s : PS) (w : World) (h : PSt a g s w) (ht1 : (s.take [108, 101, 116]).1 = false) (ht2 : (s.take [105, 102]).1 = false) (ht3 : (s.take [119, 104, 105, 108, 101]).1 = false) (ht4 : (s.take [114, 101, 116, 117, 114, 110]).1 = false) (x1 : Stmt) (s1 : PS) (hx : p.turn s.now.pos s = some (x1, s1)) :
    Calls Tryd.prog 62 #[.pointer (some ⟨g, 0, none⟩)] w (SPost a g w x1 (s1.want [59])) := by
  have hf3 := fld3
  have FR := Aside0.mk (Fr.start h)
  have C := FR.out.c0
  obtain ⟨t, ht⟩ : ∃ t, t = s.now := ⟨_, rfl⟩
  have HN := Lib.hid ht
  try rw [← ht]
  rw [← ht] at hx
  have HT1 := Lib.hid ht1
  have HT2 := Lib.hid ht2
  have HT3 := Lib.hid ht3
  have HT4 := Lib.hid ht4
  have HX := Lib.hid hx
  clear hx ht h ht1 ht2 ht3 ht4
  go_enter Tryd.func62, Tryd.ntmps62
  go_wp2_with (first | ((with_reducible refine gate_dst (N := 2) rfl ?_); refine FR.out.boxE (N := 2) #[.int .i64 0, .int .i64 0, .int .i64 0, .string ⟨#[]⟩, .slice none 0 0, .slice none 0 0, .slice none 0 0] 45 (by rfl) (by rfl) ?hr ?_; (case hr => first | (go_simp; done) | (go_simp; rfl)); intro b2 EW1 f_; replace FR := Aside0.mk f_; replace C := f_.c1; clear f_) | (go_at_call 22; (with_reducible refine (FR.out.bc (now_calls FR.out.ps)).mono ?_); rintro e EW2 ⟨rfl, f_⟩; rw [← HN.out]; replace FR := Aside0.mk f_; replace C := f_.c1; clear f_) | ((with_reducible refine gate_dst (N := 3) rfl ?_); refine FR.out.varE (W1 := ?_) (N := 3) #[.int .i64 0, .int .i64 t.pos.line, .int .i64 t.pos.col, .string ⟨#[]⟩, .slice none 0 0, .slice none 0 0, .slice none 0 0] 45 (by rfl) (by rfl) (by rfl) (by rfl) ?hr ?hs ?_; (case hr => first | (go_simp; done) | (go_simp; rfl)); (case hs => first | (go_simp; done) | (go_simp; rfl)); intro b3 EW3 f_; replace FR := Aside0.mk f_; replace C := f_.c2; clear f_) | (go_at_call 23; (with_reducible refine (FR.out.cc (take_no ⟨#[108, 101, 116]⟩ [108, 101, 116] rfl FR.out.ps HT1.out)).mono ?_); rintro e EW4 ⟨rfl, f_⟩; replace FR := Aside0.mk f_; replace C := f_.c2; clear f_) | (go_at_call 23; (with_reducible refine (FR.out.cc (take_no ⟨#[105, 102]⟩ [105, 102] rfl FR.out.ps HT2.out)).mono ?_); rintro e EW5 ⟨rfl, f_⟩; replace FR := Aside0.mk f_; replace C := f_.c2; clear f_) | (go_at_call 23; (with_reducible refine (FR.out.cc (take_no ⟨#[119, 104, 105, 108, 101]⟩ [119, 104, 105, 108, 101] rfl FR.out.ps HT3.out)).mono ?_); rintro e EW6 ⟨rfl, f_⟩; replace FR := Aside0.mk f_; replace C := f_.c2; clear f_) | (go_at_call 23; (with_reducible refine (FR.out.cc (take_no ⟨#[114, 101, 116, 117, 114, 110]⟩ [114, 101, 116, 117, 114, 110] rfl FR.out.ps HT4.out)).mono ?_); rintro e EW7 ⟨rfl, f_⟩; replace FR := Aside0.mk f_; replace C := f_.c2; clear f_) | (go_at_call 75; (with_reducible refine (FR.out.sc (G.turn _ _ _ _ _ FR.out.ps HX.out)).mono ?_); rintro e EW8 ⟨A4, c4, A5, c5, A6, c6, okx, rfl, f_⟩; replace FR := Aside0.mk f_; replace C := f_.c2; clear f_) | ((with_reducible refine gate_store (t := 45) (p := 3) (v := .tmp 10) rfl ?_); refine FR.out.s1 [.int .i64 x1.does, .int .i64 x1.pos.line, .int .i64 x1.pos.col, .string x1.name, .slice A4 x1.es.length c4, .slice A5 x1.thens.length c5, .slice A6 x1.elses.length c6] (by rfl) (by rfl) ?hr (by rfl) ?_; (case hr => first | (go_simp; done) | (go_simp; rfl)); intro EW9 f_; replace FR := Aside0.mk f_; replace C := f_.c2; clear f_) | (go_at_call 46; (with_reducible refine (FR.out.cc (want_calls ⟨#[59]⟩ [59] rfl FR.out.ps)).mono ?_); rintro e EW10 ⟨rfl, f_⟩; replace FR := Aside0.mk f_; replace C := f_.c2; clear f_) | ((with_reducible refine gate_store (t := 45) (p := 2) (v := .tmp 52) rfl ?_); refine FR.out.s2 [.int .i64 x1.does, .int .i64 x1.pos.line, .int .i64 x1.pos.col, .string x1.name, .slice A4 x1.es.length c4, .slice A5 x1.thens.length c5, .slice A6 x1.elses.length c6] (by rfl) (by rfl) ?hr (by rfl) ?_; (case hr => first | (go_simp; done) | (go_simp; rfl)); intro EW11 f_; replace FR := Aside0.mk f_; replace C := f_.c2; clear f_))
  refine bodyPost_ret (results_cell_row rfl _ _ b2 _ _ (0, 0) _ rfl FR.out.b2 Tryd.underlying45 rfl (by kernel_rfl)) rfl ?_
  exact FR.out.spost rfl FR.out.v1

theorem stmt_step {a : GA} {g : Nat} {p : Ps} (G : Good a g p) (s : PS) (w : World) (h : PSt a g s w) (x : Stmt) (s' : PS) (hx : psStmt p s = some (x, s')) :
    Calls Tryd.prog 62 #[.pointer (some ⟨g, 0, none⟩)] w (SPost a g w x s') := by
  unfold psStmt at hx
  simp only [] at hx
  cases h1 : (s.take [108, 101, 116]).1 with
  | true =>
    rw [h1, if_pos rfl] at hx
    obtain ⟨⟨x1, s1⟩, hx1, h2⟩ := Option.bind_eq_some_iff.1 hx
    obtain ⟨rfl, rfl⟩ := Prod.mk.inj (Option.some.inj h2)
    exact stmt_let G s w h h1 x1 s1 hx1
  | false =>
  rw [h1, if_neg (by decide)] at hx
  cases h2 : (s.take [105, 102]).1 with
  | true =>
    rw [h2, if_pos rfl] at hx
    exact stmt_if G s w h h1 h2 x s' hx
  | false =>
  rw [h2, if_neg (by decide)] at hx
  cases h3 : (s.take [119, 104, 105, 108, 101]).1 with
  | true =>
    rw [h3, if_pos rfl] at hx
    obtain ⟨⟨x1, s1⟩, hx1, hy⟩ := Option.bind_eq_some_iff.1 hx
    obtain ⟨⟨xs1, s2⟩, hb, hy⟩ := Option.bind_eq_some_iff.1 hy
    obtain ⟨rfl, rfl⟩ := Prod.mk.inj (Option.some.inj hy)
    exact stmt_while G s w h h1 h2 h3 x1 s1 hx1 xs1 s2 hb
  | false =>
  rw [h3, if_neg (by decide)] at hx
  cases h4 : (s.take [114, 101, 116, 117, 114, 110]).1 with
  | true =>
    rw [h4, if_pos rfl] at hx
    obtain ⟨⟨x1, s1⟩, hx1, hy⟩ := Option.bind_eq_some_iff.1 hx
    obtain ⟨rfl, rfl⟩ := Prod.mk.inj (Option.some.inj hy)
    exact stmt_return G s w h h1 h2 h3 h4 x1 s1 hx1
  | false =>
    rw [h4, if_neg (by decide)] at hx
    obtain ⟨⟨x1, s1⟩, hx1, hy⟩ := Option.bind_eq_some_iff.1 hx
    obtain ⟨rfl, rfl⟩ := Prod.mk.inj (Option.some.inj hy)
    exact stmt_turn G s w h h1 h2 h3 h4 x1 s1 hx1

set_option maxRecDepth 100000 in
set_option maxHeartbeats 6400000 in
theorem choice_no {a : GA} {g : Nat} {p : Ps} (G : Good a g p) (q : Pos) (s : PS) (w : World) (h : PSt a g s w) (x1 : Expr) (s1 : PS) (h1 : p.whole s = some (x1, s1)) (xs1 : List Stmt) (s2 : PS) (h2 : p.block s1 = some (xs1, s2)) (ht1 : (s2.take [101, 108, 115, 101]).1 = false) :
    Calls Tryd.prog 74 #[.pointer (some ⟨g, 0, none⟩), .agg #[.int .i64 0, .int .i64 q.line, .int .i64 q.col, .string ⟨#[]⟩, .slice none 0 0, .slice none 0 0, .slice none 0 0]] w (SPost a g w ⟨4, q, ⟨#[]⟩, [x1], xs1, []⟩ s2) := by
  have hf3 := fld3
  have FR := Aside0.mk (Fr.start h)
  have C := FR.out.c0
  have HX := Lib.hid h1
  have HB := Lib.hid h2
  have HT1 := Lib.hid ht1
  clear h h1 h2 ht1
  go_enter Tryd.func74, Tryd.ntmps74
  go_wp2_with (first | ((with_reducible refine gate_dst (N := 3) rfl ?_); refine FR.out.boxE (N := 3) #[.int .i64 0, .int .i64 q.line, .int .i64 q.col, .string ⟨#[]⟩, .slice none 0 0, .slice none 0 0, .slice none 0 0] 45 (by rfl) (by rfl) ?hr ?_; (case hr => first | (go_simp; done) | (go_simp; rfl)); intro b3 HW1 f_; replace FR := Aside0.mk f_; replace C := f_.c1; clear f_) | ((with_reducible refine gate_dst (N := 4) rfl ?_); refine FR.out.boxE (N := 4) #[.int .i64 0, .int .i64 0, .int .i64 0, .string ⟨#[]⟩, .slice none 0 0, .slice none 0 0, .slice none 0 0] 45 (by rfl) (by rfl) ?hr ?_; (case hr => first | (go_simp; done) | (go_simp; rfl)); intro b4 HW2 f_; replace FR := Aside0.mk f_; replace C := f_.c2; clear f_) | (go_at_call 73; (with_reducible refine (FR.out.ec (G.whole _ _ _ _ FR.out.ps HX.out)).mono ?_); rintro e HW3 ⟨A6, c6, okx, rfl, f_⟩; replace FR := Aside0.mk f_; replace C := f_.c2; clear f_) | ((with_reducible refine gate_dst (N := 8) rfl ?_); refine FR.out.litE kExpr 51 (N := 8) [x1] [.int .i64 x1.kind, .int .i64 x1.pos.line, .int .i64 x1.pos.col, .int .i64 x1.num, .string x1.name, .int .i64 x1.op, .slice A6 x1.kids.length c6] (by rfl) (by rfl) ?hr (fun h => reps1 h rfl) (show 1 ≤ 9223372036854775807 by decide) ?_; (case hr => first | (go_simp; done) | (go_simp; rfl)); intro A_y c_y HW4 oky f_; replace FR := Aside0.mk f_; replace C := f_.c2; clear f_) | ((with_reducible refine gate_store (t := 42) (p := 9) (v := (.const (.int .i64 4))) rfl ?_); refine FR.out.p2 (W1 := ?_) #[.int .i64 4, .int .i64 q.line, .int .i64 q.col, .string ⟨#[]⟩, .slice none 0 0, .slice none 0 0, .slice none 0 0] (by rfl) (by rfl) ?hr ?hk ?hb ?_; (case hr => first | (go_simp; done) | (go_simp; rfl)); (case hk => exact (Chg.refl _ _).set _ _); (case hb => exact fun h => blk_put h 0 _ rfl); intro HW5 f_; replace FR := Aside0.mk f_; replace C := f_.c2; clear f_) | ((with_reducible refine gate_store (t := 43) (p := 10) (v := .tmp 8) rfl ?_); refine FR.out.p2 (W1 := ?_) #[.int .i64 4, .int .i64 q.line, .int .i64 q.col, .string ⟨#[]⟩, .slice A_y 1 c_y, .slice none 0 0, .slice none 0 0] (by rfl) (by rfl) ?hr ?hk ?hb ?_; (case hr => first | (go_simp; done) | (go_simp; rfl)); (case hk => exact (Chg.refl _ _).set _ _); (case hb => exact fun h => blk_put h 4 _ rfl); intro HW6 f_; replace FR := Aside0.mk f_; replace C := f_.c2; clear f_) | (go_at_call 47; (with_reducible refine (FR.out.blc (G.block _ _ _ _ FR.out.ps HB.out)).mono ?_); rintro e HW7 ⟨A5, c5, okk, rfl, f_⟩; replace FR := Aside0.mk f_; replace C := f_.c2; clear f_) | ((with_reducible refine gate_store (t := 39) (p := 13) (v := .tmp 12) rfl ?_); refine FR.out.p2 (W1 := ?_) #[.int .i64 4, .int .i64 q.line, .int .i64 q.col, .string ⟨#[]⟩, .slice A_y 1 c_y, .slice A5 xs1.length c5, .slice none 0 0] (by rfl) (by rfl) ?hr ?hk ?hb ?_; (case hr => first | (go_simp; done) | (go_simp; rfl)); (case hk => exact (Chg.refl _ _).set _ _); (case hb => exact fun h => blk_put h 5 _ rfl); intro HW8 f_; replace FR := Aside0.mk f_; replace C := f_.c2; clear f_) | (go_at_call 23; (with_reducible refine (FR.out.cc (take_no ⟨#[101, 108, 115, 101]⟩ [101, 108, 115, 101] rfl FR.out.ps HT1.out)).mono ?_); rintro e HW9 ⟨rfl, f_⟩; replace FR := Aside0.mk f_; replace C := f_.c2; clear f_) | ((with_reducible refine gate_store (t := 45) (p := 4) (v := .tmp 17) rfl ?_); refine FR.out.s1 [.int .i64 4, .int .i64 q.line, .int .i64 q.col, .string ⟨#[]⟩, .slice A_y 1 c_y, .slice A5 xs1.length c5, .slice none 0 0] (by rfl) (by rfl) ?hr (by rfl) ?_; (case hr => first | (go_simp; done) | (go_simp; rfl)); intro HW10 f_; replace FR := Aside0.mk f_; replace C := f_.c2; clear f_))
  refine bodyPost_ret (results_cell_row rfl _ _ b4 _ _ (0, 0) _ rfl FR.out.b1 Tryd.underlying45 rfl (by kernel_rfl)) rfl ?_
  exact FR.out.spost (x := ⟨4, q, ⟨#[]⟩, [x1], xs1, []⟩) rfl (foot_two FR.out.v2 FR.out.v1 fun W h k => kStmt_mk W ⟨4, q, ⟨#[]⟩, [x1], xs1, []⟩ h.1 h.2 k.1 k.2 (Nat.le_refl _) (Kd.C_nil kStmt W))

set_option maxRecDepth 100000 in
set_option maxHeartbeats 6400000 in
theorem choice_else {a : GA} {g : Nat} {p : Ps} (G : Good a g p) (q : Pos) (s : PS) (w : World) (h : PSt a g s w) (x1 : Expr) (s1 : PS) (h1 : p.whole s = some (x1, s1)) (xs1 : List Stmt) (s2 : PS) (h2 : p.block s1 = some (xs1, s2)) (ht1 : (s2.take [101, 108, 115, 101]).1 = true) (ht2 : (s2.skip.take [105, 102]).1 = false) (xs2 : List Stmt) (s3 : PS) (h3 : p.block s2.skip = some (xs2, s3)) :
    Calls Tryd.prog 74 #[.pointer (some ⟨g, 0, none⟩), .agg #[.int .i64 0, .int .i64 q.line, .int .i64 q.col, .string ⟨#[]⟩, .slice none 0 0, .slice none 0 0, .slice none 0 0]] w (SPost a g w ⟨4, q, ⟨#[]⟩, [x1], xs1, xs2⟩ s3) := by
  have hf3 := fld3
  have FR := Aside0.mk (Fr.start h)
  have C := FR.out.c0
  have HX := Lib.hid h1
  have HB := Lib.hid h2
  obtain ⟨t, ht⟩ : ∃ t, t = s2.skip.now := ⟨_, rfl⟩
  have HN := Lib.hid ht
  have HT1 := Lib.hid ht1
  have HT2 := Lib.hid ht2
  have HB2 := Lib.hid h3
  clear h h1 h2 ht1 ht2 h3 ht
  go_enter Tryd.func74, Tryd.ntmps74
  go_wp2_with (first | ((with_reducible refine gate_dst (N := 3) rfl ?_); refine FR.out.boxE (N := 3) #[.int .i64 0, .int .i64 q.line, .int .i64 q.col, .string ⟨#[]⟩, .slice none 0 0, .slice none 0 0, .slice none 0 0] 45 (by rfl) (by rfl) ?hr ?_; (case hr => first | (go_simp; done) | (go_simp; rfl)); intro b3 IW1 f_; replace FR := Aside0.mk f_; replace C := f_.c1; clear f_) | ((with_reducible refine gate_dst (N := 4) rfl ?_); refine FR.out.boxE (N := 4) #[.int .i64 0, .int .i64 0, .int .i64 0, .string ⟨#[]⟩, .slice none 0 0, .slice none 0 0, .slice none 0 0] 45 (by rfl) (by rfl) ?hr ?_; (case hr => first | (go_simp; done) | (go_simp; rfl)); intro b4 IW2 f_; replace FR := Aside0.mk f_; replace C := f_.c2; clear f_) | (go_at_call 73; (with_reducible refine (FR.out.ec (G.whole _ _ _ _ FR.out.ps HX.out)).mono ?_); rintro e IW3 ⟨A6, c6, okx, rfl, f_⟩; replace FR := Aside0.mk f_; replace C := f_.c2; clear f_) | ((with_reducible refine gate_dst (N := 8) rfl ?_); refine FR.out.litE kExpr 51 (N := 8) [x1] [.int .i64 x1.kind, .int .i64 x1.pos.line, .int .i64 x1.pos.col, .int .i64 x1.num, .string x1.name, .int .i64 x1.op, .slice A6 x1.kids.length c6] (by rfl) (by rfl) ?hr (fun h => reps1 h rfl) (show 1 ≤ 9223372036854775807 by decide) ?_; (case hr => first | (go_simp; done) | (go_simp; rfl)); intro A_y c_y IW4 oky f_; replace FR := Aside0.mk f_; replace C := f_.c2; clear f_) | ((with_reducible refine gate_store (t := 42) (p := 9) (v := (.const (.int .i64 4))) rfl ?_); refine FR.out.p2 (W1 := ?_) #[.int .i64 4, .int .i64 q.line, .int .i64 q.col, .string ⟨#[]⟩, .slice none 0 0, .slice none 0 0, .slice none 0 0] (by rfl) (by rfl) ?hr ?hk ?hb ?_; (case hr => first | (go_simp; done) | (go_simp; rfl)); (case hk => exact (Chg.refl _ _).set _ _); (case hb => exact fun h => blk_put h 0 _ rfl); intro IW5 f_; replace FR := Aside0.mk f_; replace C := f_.c2; clear f_) | ((with_reducible refine gate_store (t := 43) (p := 10) (v := .tmp 8) rfl ?_); refine FR.out.p2 (W1 := ?_) #[.int .i64 4, .int .i64 q.line, .int .i64 q.col, .string ⟨#[]⟩, .slice A_y 1 c_y, .slice none 0 0, .slice none 0 0] (by rfl) (by rfl) ?hr ?hk ?hb ?_; (case hr => first | (go_simp; done) | (go_simp; rfl)); (case hk => exact (Chg.refl _ _).set _ _); (case hb => exact fun h => blk_put h 4 _ rfl); intro IW6 f_; replace FR := Aside0.mk f_; replace C := f_.c2; clear f_) | (go_at_call 47; (with_reducible refine (FR.out.blc (G.block _ _ _ _ FR.out.ps HB.out)).mono ?_); rintro e IW7 ⟨A5, c5, okk, rfl, f_⟩; replace FR := Aside0.mk f_; replace C := f_.c2; clear f_) | ((with_reducible refine gate_store (t := 39) (p := 13) (v := .tmp 12) rfl ?_); refine FR.out.p2 (W1 := ?_) #[.int .i64 4, .int .i64 q.line, .int .i64 q.col, .string ⟨#[]⟩, .slice A_y 1 c_y, .slice A5 xs1.length c5, .slice none 0 0] (by rfl) (by rfl) ?hr ?hk ?hb ?_; (case hr => first | (go_simp; done) | (go_simp; rfl)); (case hk => exact (Chg.refl _ _).set _ _); (case hb => exact fun h => blk_put h 5 _ rfl); intro IW8 f_; replace FR := Aside0.mk f_; replace C := f_.c2; clear f_) | (go_at_call 23; (with_reducible refine (FR.out.cc (take_yes ⟨#[101, 108, 115, 101]⟩ [101, 108, 115, 101] rfl FR.out.ps HT1.out)).mono ?_); rintro e IW9 ⟨rfl, f_⟩; replace FR := Aside0.mk f_; replace C := f_.c2; clear f_) | (go_at_call 22; (with_reducible refine (FR.out.bc (now_calls FR.out.ps)).mono ?_); rintro e IW10 ⟨rfl, f_⟩; rw [← HN.out]; replace FR := Aside0.mk f_; replace C := f_.c2; clear f_) | ((with_reducible refine gate_dst (N := 5) rfl ?_); refine FR.out.varE (W1 := ?_) (N := 5) #[.int .i64 t.pos.line, .int .i64 t.pos.col] 32 (by rfl) (by rfl) (by rfl) (by rfl) ?hr ?hs ?_; (case hr => first | (go_simp; done) | (go_simp; rfl)); (case hs => first | (go_simp; done) | (go_simp; rfl)); intro b5 IW11 f_; replace FR := Aside0.mk f_; replace C := f_.c3; clear f_) | (go_at_call 23; (with_reducible refine (FR.out.cc (take_no ⟨#[105, 102]⟩ [105, 102] rfl FR.out.ps HT2.out)).mono ?_); rintro e IW12 ⟨rfl, f_⟩; replace FR := Aside0.mk f_; replace C := f_.c3; clear f_) | (go_at_call 47; (with_reducible refine (FR.out.blc (G.block _ _ _ _ FR.out.ps HB2.out)).mono ?_); rintro e IW13 ⟨A7, c7, okm, rfl, f_⟩; replace FR := Aside0.mk f_; replace C := f_.c3; clear f_) | ((with_reducible refine gate_store (t := 39) (p := 26) (v := .tmp 25) rfl ?_); refine FR.out.p3 (W1 := ?_) #[.int .i64 4, .int .i64 q.line, .int .i64 q.col, .string ⟨#[]⟩, .slice A_y 1 c_y, .slice A5 xs1.length c5, .slice A7 xs2.length c7] (by rfl) (by rfl) ?hr ?hk ?hb ?_; (case hr => first | (go_simp; done) | (go_simp; rfl)); (case hk => exact (Chg.refl _ _).set _ _); (case hb => exact fun h => blk_put h 6 _ rfl); intro IW14 f_; replace FR := Aside0.mk f_; replace C := f_.c3; clear f_) | ((with_reducible refine gate_store (t := 45) (p := 4) (v := .tmp 27) rfl ?_); refine FR.out.s2 [.int .i64 4, .int .i64 q.line, .int .i64 q.col, .string ⟨#[]⟩, .slice A_y 1 c_y, .slice A5 xs1.length c5, .slice A7 xs2.length c7] (by rfl) (by rfl) ?hr (by rfl) ?_; (case hr => first | (go_simp; done) | (go_simp; rfl)); intro IW15 f_; replace FR := Aside0.mk f_; replace C := f_.c3; clear f_))
  refine bodyPost_ret (results_cell_row rfl _ _ b4 _ _ (0, 0) _ rfl FR.out.b2 Tryd.underlying45 rfl (by kernel_rfl)) rfl ?_
  exact FR.out.spost (x := ⟨4, q, ⟨#[]⟩, [x1], xs1, xs2⟩) rfl (foot_three FR.out.v3 FR.out.v2 FR.out.v1 fun W h k m => kStmt_mk W ⟨4, q, ⟨#[]⟩, [x1], xs1, xs2⟩ h.1 h.2 k.1 k.2 m.1 m.2)

set_option maxRecDepth 100000 in
set_option maxHeartbeats 6400000 in
theorem choice_deep {a : GA} {g : Nat} {p : Ps} (G : Good a g p) (q : Pos) (s : PS) (w : World) (h : PSt a g s w) (x1 : Expr) (s1 : PS) (h1 : p.whole s = some (x1, s1)) (xs1 : List Stmt) (s2 : PS) (h2 : p.block s1 = some (xs1, s2)) (ht1 : (s2.take [101, 108, 115, 101]).1 = true) (ht2 : (s2.skip.take [105, 102]).1 = true) (hd : s2.skip.skip.down.1 = false) :
    Calls Tryd.prog 74 #[.pointer (some ⟨g, 0, none⟩), .agg #[.int .i64 0, .int .i64 q.line, .int .i64 q.col, .string ⟨#[]⟩, .slice none 0 0, .slice none 0 0, .slice none 0 0]] w (SPost a g w ⟨4, q, ⟨#[]⟩, [x1], xs1, []⟩ s2.skip.skip.down.2) := by
  have hf3 := fld3
  have FR := Aside0.mk (Fr.start h)
  have C := FR.out.c0
  have HX := Lib.hid h1
  have HB := Lib.hid h2
  obtain ⟨t, ht⟩ : ∃ t, t = s2.skip.now := ⟨_, rfl⟩
  have HN := Lib.hid ht
  have HT1 := Lib.hid ht1
  have HT2 := Lib.hid ht2
  have HD := Lib.hid hd
  clear h h1 h2 ht1 ht2 hd ht
  go_enter Tryd.func74, Tryd.ntmps74
  go_wp2_with (first | ((with_reducible refine gate_dst (N := 3) rfl ?_); refine FR.out.boxE (N := 3) #[.int .i64 0, .int .i64 q.line, .int .i64 q.col, .string ⟨#[]⟩, .slice none 0 0, .slice none 0 0, .slice none 0 0] 45 (by rfl) (by rfl) ?hr ?_; (case hr => first | (go_simp; done) | (go_simp; rfl)); intro b3 JW1 f_; replace FR := Aside0.mk f_; replace C := f_.c1; clear f_) | ((with_reducible refine gate_dst (N := 4) rfl ?_); refine FR.out.boxE (N := 4) #[.int .i64 0, .int .i64 0, .int .i64 0, .string ⟨#[]⟩, .slice none 0 0, .slice none 0 0, .slice none 0 0] 45 (by rfl) (by rfl) ?hr ?_; (case hr => first | (go_simp; done) | (go_simp; rfl)); intro b4 JW2 f_; replace FR := Aside0.mk f_; replace C := f_.c2; clear f_) | (go_at_call 73; (with_reducible refine (FR.out.ec (G.whole _ _ _ _ FR.out.ps HX.out)).mono ?_); rintro e JW3 ⟨A6, c6, okx, rfl, f_⟩; replace FR := Aside0.mk f_; replace C := f_.c2; clear f_) | ((with_reducible refine gate_dst (N := 8) rfl ?_); refine FR.out.litE kExpr 51 (N := 8) [x1] [.int .i64 x1.kind, .int .i64 x1.pos.line, .int .i64 x1.pos.col, .int .i64 x1.num, .string x1.name, .int .i64 x1.op, .slice A6 x1.kids.length c6] (by rfl) (by rfl) ?hr (fun h => reps1 h rfl) (show 1 ≤ 9223372036854775807 by decide) ?_; (case hr => first | (go_simp; done) | (go_simp; rfl)); intro A_y c_y JW4 oky f_; replace FR := Aside0.mk f_; replace C := f_.c2; clear f_) | ((with_reducible refine gate_store (t := 42) (p := 9) (v := (.const (.int .i64 4))) rfl ?_); refine FR.out.p2 (W1 := ?_) #[.int .i64 4, .int .i64 q.line, .int .i64 q.col, .string ⟨#[]⟩, .slice none 0 0, .slice none 0 0, .slice none 0 0] (by rfl) (by rfl) ?hr ?hk ?hb ?_; (case hr => first | (go_simp; done) | (go_simp; rfl)); (case hk => exact (Chg.refl _ _).set _ _); (case hb => exact fun h => blk_put h 0 _ rfl); intro JW5 f_; replace FR := Aside0.mk f_; replace C := f_.c2; clear f_) | ((with_reducible refine gate_store (t := 43) (p := 10) (v := .tmp 8) rfl ?_); refine FR.out.p2 (W1 := ?_) #[.int .i64 4, .int .i64 q.line, .int .i64 q.col, .string ⟨#[]⟩, .slice A_y 1 c_y, .slice none 0 0, .slice none 0 0] (by rfl) (by rfl) ?hr ?hk ?hb ?_; (case hr => first | (go_simp; done) | (go_simp; rfl)); (case hk => exact (Chg.refl _ _).set _ _); (case hb => exact fun h => blk_put h 4 _ rfl); intro JW6 f_; replace FR := Aside0.mk f_; replace C := f_.c2; clear f_) | (go_at_call 47; (with_reducible refine (FR.out.blc (G.block _ _ _ _ FR.out.ps HB.out)).mono ?_); rintro e JW7 ⟨A5, c5, okk, rfl, f_⟩; replace FR := Aside0.mk f_; replace C := f_.c2; clear f_) | ((with_reducible refine gate_store (t := 39) (p := 13) (v := .tmp 12) rfl ?_); refine FR.out.p2 (W1 := ?_) #[.int .i64 4, .int .i64 q.line, .int .i64 q.col, .string ⟨#[]⟩, .slice A_y 1 c_y, .slice A5 xs1.length c5, .slice none 0 0] (by rfl) (by rfl) ?hr ?hk ?hb ?_; (case hr => first | (go_simp; done) | (go_simp; rfl)); (case hk => exact (Chg.refl _ _).set _ _); (case hb => exact fun h => blk_put h 5 _ rfl); intro JW8 f_; replace FR := Aside0.mk f_; replace C := f_.c2; clear f_) | (go_at_call 23; (with_reducible refine (FR.out.cc (take_yes ⟨#[101, 108, 115, 101]⟩ [101, 108, 115, 101] rfl FR.out.ps HT1.out)).mono ?_); rintro e JW9 ⟨rfl, f_⟩; replace FR := Aside0.mk f_; replace C := f_.c2; clear f_) | (go_at_call 22; (with_reducible refine (FR.out.bc (now_calls FR.out.ps)).mono ?_); rintro e JW10 ⟨rfl, f_⟩; rw [← HN.out]; replace FR := Aside0.mk f_; replace C := f_.c2; clear f_) | ((with_reducible refine gate_dst (N := 5) rfl ?_); refine FR.out.varE (W1 := ?_) (N := 5) #[.int .i64 t.pos.line, .int .i64 t.pos.col] 32 (by rfl) (by rfl) (by rfl) (by rfl) ?hr ?hs ?_; (case hr => first | (go_simp; done) | (go_simp; rfl)); (case hs => first | (go_simp; done) | (go_simp; rfl)); intro b5 JW11 f_; replace FR := Aside0.mk f_; replace C := f_.c3; clear f_) | (go_at_call 23; (with_reducible refine (FR.out.cc (take_yes ⟨#[105, 102]⟩ [105, 102] rfl FR.out.ps HT2.out)).mono ?_); rintro e JW12 ⟨rfl, f_⟩; replace FR := Aside0.mk f_; replace C := f_.c3; clear f_) | (go_at_call 60; (with_reducible refine (FR.out.cc (down_no FR.out.ps HD.out)).mono ?_); rintro e JW13 ⟨rfl, f_⟩; replace FR := Aside0.mk f_; replace C := f_.c3; clear f_) | ((with_reducible refine gate_store (t := 45) (p := 4) (v := .tmp 43) rfl ?_); refine FR.out.s2 [.int .i64 4, .int .i64 q.line, .int .i64 q.col, .string ⟨#[]⟩, .slice A_y 1 c_y, .slice A5 xs1.length c5, .slice none 0 0] (by rfl) (by rfl) ?hr (by rfl) ?_; (case hr => first | (go_simp; done) | (go_simp; rfl)); intro JW14 f_; replace FR := Aside0.mk f_; replace C := f_.c3; clear f_))
  refine bodyPost_ret (results_cell_row rfl _ _ b4 _ _ (0, 0) _ rfl FR.out.b2 Tryd.underlying45 rfl (by kernel_rfl)) rfl ?_
  exact FR.out.spost (x := ⟨4, q, ⟨#[]⟩, [x1], xs1, []⟩) rfl (foot_two FR.out.v2 FR.out.v1 fun W h k => kStmt_mk W ⟨4, q, ⟨#[]⟩, [x1], xs1, []⟩ h.1 h.2 k.1 k.2 (Nat.le_refl _) (Kd.C_nil kStmt W))

set_option maxRecDepth 100000 in
set_option maxHeartbeats 6400000 in
theorem choice_elif {a : GA} {g : Nat} {p : Ps} (G : Good a g p) (q : Pos) (s : PS) (w : World) (h : PSt a g s w) (x1 : Expr) (s1 : PS) (h1 : p.whole s = some (x1, s1)) (xs1 : List Stmt) (s2 : PS) (h2 : p.block s1 = some (xs1, s2)) (D : Deep p) (ht1 : (s2.take [101, 108, 115, 101]).1 = true) (ht2 : (s2.skip.take [105, 102]).1 = true) (hd : s2.skip.skip.down.1 = true) (x2 : Stmt) (s3 : PS) (h3 : p.choice s2.skip.now.pos s2.skip.skip.down.2 = some (x2, s3)) :
    Calls Tryd.prog 74 #[.pointer (some ⟨g, 0, none⟩), .agg #[.int .i64 0, .int .i64 q.line, .int .i64 q.col, .string ⟨#[]⟩, .slice none 0 0, .slice none 0 0, .slice none 0 0]] w (SPost a g w ⟨4, q, ⟨#[]⟩, [x1], xs1, [x2]⟩ s3.up) := by
  have hf3 := fld3
  have FR := Aside0.mk (Fr.start h)
  have C := FR.out.c0
  have HX := Lib.hid h1
  have HB := Lib.hid h2
  obtain ⟨t, ht⟩ : ∃ t, t = s2.skip.now := ⟨_, rfl⟩
  have HN := Lib.hid ht
  have hd_ : s3.deep = s.deep + 1 := by rw [D.choice _ _ _ _ h3, deep_down hd, skip_deep, skip_deep, D.block _ _ _ h2, D.whole _ _ _ h1]
  have hd0 : 0 ≤ s3.deep := by have := h.d0; omega
  have hd1 : s3.deep ≤ 201 := by have := h.d1; omega
  have HDX := Lib.hid (show 1 ≤ s3.deep by have := h.d0; omega)
  rw [← ht] at h3
  have HT1 := Lib.hid ht1
  have HT2 := Lib.hid ht2
  have HD := Lib.hid hd
  have HC := Lib.hid h3
  clear h h1 h2 ht1 ht2 hd h3 ht hd_
  go_enter Tryd.func74, Tryd.ntmps74
  go_wp2_with (first | ((with_reducible refine gate_dst (N := 3) rfl ?_); refine FR.out.boxE (N := 3) #[.int .i64 0, .int .i64 q.line, .int .i64 q.col, .string ⟨#[]⟩, .slice none 0 0, .slice none 0 0, .slice none 0 0] 45 (by rfl) (by rfl) ?hr ?_; (case hr => first | (go_simp; done) | (go_simp; rfl)); intro b3 KW1 f_; replace FR := Aside0.mk f_; replace C := f_.c1; clear f_) | ((with_reducible refine gate_dst (N := 4) rfl ?_); refine FR.out.boxE (N := 4) #[.int .i64 0, .int .i64 0, .int .i64 0, .string ⟨#[]⟩, .slice none 0 0, .slice none 0 0, .slice none 0 0] 45 (by rfl) (by rfl) ?hr ?_; (case hr => first | (go_simp; done) | (go_simp; rfl)); intro b4 KW2 f_; replace FR := Aside0.mk f_; replace C := f_.c2; clear f_) | (go_at_call 73; (with_reducible refine (FR.out.ec (G.whole _ _ _ _ FR.out.ps HX.out)).mono ?_); rintro e KW3 ⟨A6, c6, okx, rfl, f_⟩; replace FR := Aside0.mk f_; replace C := f_.c2; clear f_) | ((with_reducible refine gate_dst (N := 8) rfl ?_); refine FR.out.litE kExpr 51 (N := 8) [x1] [.int .i64 x1.kind, .int .i64 x1.pos.line, .int .i64 x1.pos.col, .int .i64 x1.num, .string x1.name, .int .i64 x1.op, .slice A6 x1.kids.length c6] (by rfl) (by rfl) ?hr (fun h => reps1 h rfl) (show 1 ≤ 9223372036854775807 by decide) ?_; (case hr => first | (go_simp; done) | (go_simp; rfl)); intro A_y c_y KW4 oky f_; replace FR := Aside0.mk f_; replace C := f_.c2; clear f_) | ((with_reducible refine gate_store (t := 42) (p := 9) (v := (.const (.int .i64 4))) rfl ?_); refine FR.out.p2 (W1 := ?_) #[.int .i64 4, .int .i64 q.line, .int .i64 q.col, .string ⟨#[]⟩, .slice none 0 0, .slice none 0 0, .slice none 0 0] (by rfl) (by rfl) ?hr ?hk ?hb ?_; (case hr => first | (go_simp; done) | (go_simp; rfl)); (case hk => exact (Chg.refl _ _).set _ _); (case hb => exact fun h => blk_put h 0 _ rfl); intro KW5 f_; replace FR := Aside0.mk f_; replace C := f_.c2; clear f_) | ((with_reducible refine gate_store (t := 43) (p := 10) (v := .tmp 8) rfl ?_); refine FR.out.p2 (W1 := ?_) #[.int .i64 4, .int .i64 q.line, .int .i64 q.col, .string ⟨#[]⟩, .slice A_y 1 c_y, .slice none 0 0, .slice none 0 0] (by rfl) (by rfl) ?hr ?hk ?hb ?_; (case hr => first | (go_simp; done) | (go_simp; rfl)); (case hk => exact (Chg.refl _ _).set _ _); (case hb => exact fun h => blk_put h 4 _ rfl); intro KW6 f_; replace FR := Aside0.mk f_; replace C := f_.c2; clear f_) | (go_at_call 47; (with_reducible refine (FR.out.blc (G.block _ _ _ _ FR.out.ps HB.out)).mono ?_); rintro e KW7 ⟨A5, c5, okk, rfl, f_⟩; replace FR := Aside0.mk f_; replace C := f_.c2; clear f_) | ((with_reducible refine gate_store (t := 39) (p := 13) (v := .tmp 12) rfl ?_); refine FR.out.p2 (W1 := ?_) #[.int .i64 4, .int .i64 q.line, .int .i64 q.col, .string ⟨#[]⟩, .slice A_y 1 c_y, .slice A5 xs1.length c5, .slice none 0 0] (by rfl) (by rfl) ?hr ?hk ?hb ?_; (case hr => first | (go_simp; done) | (go_simp; rfl)); (case hk => exact (Chg.refl _ _).set _ _); (case hb => exact fun h => blk_put h 5 _ rfl); intro KW8 f_; replace FR := Aside0.mk f_; replace C := f_.c2; clear f_) | (go_at_call 23; (with_reducible refine (FR.out.cc (take_yes ⟨#[101, 108, 115, 101]⟩ [101, 108, 115, 101] rfl FR.out.ps HT1.out)).mono ?_); rintro e KW9 ⟨rfl, f_⟩; replace FR := Aside0.mk f_; replace C := f_.c2; clear f_) | (go_at_call 22; (with_reducible refine (FR.out.bc (now_calls FR.out.ps)).mono ?_); rintro e KW10 ⟨rfl, f_⟩; rw [← HN.out]; replace FR := Aside0.mk f_; replace C := f_.c2; clear f_) | ((with_reducible refine gate_dst (N := 5) rfl ?_); refine FR.out.varE (W1 := ?_) (N := 5) #[.int .i64 t.pos.line, .int .i64 t.pos.col] 32 (by rfl) (by rfl) (by rfl) (by rfl) ?hr ?hs ?_; (case hr => first | (go_simp; done) | (go_simp; rfl)); (case hs => first | (go_simp; done) | (go_simp; rfl)); intro b5 KW11 f_; replace FR := Aside0.mk f_; replace C := f_.c3; clear f_) | (go_at_call 23; (with_reducible refine (FR.out.cc (take_yes ⟨#[105, 102]⟩ [105, 102] rfl FR.out.ps HT2.out)).mono ?_); rintro e KW12 ⟨rfl, f_⟩; replace FR := Aside0.mk f_; replace C := f_.c3; clear f_) | (go_at_call 60; (with_reducible refine (FR.out.cc (down_yes FR.out.ps HD.out)).mono ?_); rintro e KW13 ⟨rfl, f_⟩; replace FR := Aside0.mk f_; replace C := f_.c3; clear f_) | (go_at_call 74; (with_reducible refine (FR.out.sc (G.choice _ _ _ _ _ FR.out.ps HC.out)).mono ?_); rintro e KW14 ⟨A14, c14, A15, c15, A16, c16, okz, rfl, f_⟩; replace FR := Aside0.mk f_; replace C := f_.c3; clear f_) | ((with_reducible refine gate_dst (N := 34) rfl ?_); refine FR.out.litE kStmt 45 (N := 34) [x2] [.int .i64 x2.does, .int .i64 x2.pos.line, .int .i64 x2.pos.col, .string x2.name, .slice A14 x2.es.length c14, .slice A15 x2.thens.length c15, .slice A16 x2.elses.length c16] (by rfl) (by rfl) ?hr (fun h => reps1 h rfl) (show 1 ≤ 9223372036854775807 by decide) ?_; (case hr => first | (go_simp; done) | (go_simp; rfl)); intro A_v c_v KW15 okv f_; replace FR := Aside0.mk f_; replace C := f_.c3; clear f_) | ((with_reducible refine gate_store (t := 39) (p := 35) (v := .tmp 34) rfl ?_); refine FR.out.p3 (W1 := ?_) #[.int .i64 4, .int .i64 q.line, .int .i64 q.col, .string ⟨#[]⟩, .slice A_y 1 c_y, .slice A5 xs1.length c5, .slice A_v 1 c_v] (by rfl) (by rfl) ?hr ?hk ?hb ?_; (case hr => first | (go_simp; done) | (go_simp; rfl)); (case hk => exact (Chg.refl _ _).set _ _); (case hb => exact fun h => blk_put h 6 _ rfl); intro KW16 f_; replace FR := Aside0.mk f_; replace C := f_.c3; clear f_; have cg1 := (PSt.deepc FR.out.ps).1; have zg1 := (PSt.deepc FR.out.ps).2) | ((with_reducible refine gate_store (t := 3) (p := 42) (v := .tmp 40) rfl ?_); refine skip_event (KW16.setCell ⟨g, 1, none⟩ (.int .i64 (s3.deep - 1))) (by rfl) (by rfl) ?hr ?_; (case hr => first | (go_simp; done) | (go_simp; rfl)); intro KW17 hw_; obtain ⟨ch_, ps_⟩ := PSt.upped FR.out.ps HDX.out hw_; have f_ := FR.out.chg ch_ ps_; clear ch_ ps_ hw_ cg1 zg1; replace FR := Aside0.mk f_; replace C := f_.c3; clear f_) | ((with_reducible refine gate_store (t := 45) (p := 4) (v := .tmp 43) rfl ?_); refine FR.out.s2 [.int .i64 4, .int .i64 q.line, .int .i64 q.col, .string ⟨#[]⟩, .slice A_y 1 c_y, .slice A5 xs1.length c5, .slice A_v 1 c_v] (by rfl) (by rfl) ?hr (by rfl) ?_; (case hr => first | (go_simp; done) | (go_simp; rfl)); intro KW18 f_; replace FR := Aside0.mk f_; replace C := f_.c3; clear f_))
  refine bodyPost_ret (results_cell_row rfl _ _ b4 _ _ (0, 0) _ rfl FR.out.b2 Tryd.underlying45 rfl (by kernel_rfl)) rfl ?_
  exact FR.out.spost (x := ⟨4, q, ⟨#[]⟩, [x1], xs1, [x2]⟩) rfl (foot_three FR.out.v3 FR.out.v2 FR.out.v1 fun W h k m => kStmt_mk W ⟨4, q, ⟨#[]⟩, [x1], xs1, [x2]⟩ h.1 h.2 k.1 k.2 m.1 m.2)

theorem choice_step {a : GA} {g : Nat} {p : Ps} (G : Good a g p) (D : Deep p) (q : Pos) (s : PS) (w : World) (h : PSt a g s w) (x : Stmt) (s' : PS) (hx : psChoice p q s = some (x, s')) :
    Calls Tryd.prog 74 #[.pointer (some ⟨g, 0, none⟩), .agg #[.int .i64 0, .int .i64 q.line, .int .i64 q.col, .string ⟨#[]⟩, .slice none 0 0, .slice none 0 0, .slice none 0 0]] w (SPost a g w x s') := by
  unfold psChoice at hx
  obtain ⟨⟨x1, s1⟩, h1, hy⟩ := Option.bind_eq_some_iff.1 hx
  obtain ⟨⟨xs1, s2⟩, h2, hz⟩ := Option.bind_eq_some_iff.1 hy
  clear hx hy
  simp only [] at hz
  cases ht1 : (s2.take [101, 108, 115, 101]).1 with
  | false =>
    rw [ht1, if_pos (by rfl)] at hz
    obtain ⟨rfl, rfl⟩ := Prod.mk.inj (Option.some.inj hz)
    exact choice_no G q s w h x1 s1 h1 xs1 s2 h2 ht1
  | true =>
  rw [ht1, if_neg (by decide)] at hz
  cases ht2 : (s2.skip.take [105, 102]).1 with
  | false =>
    rw [ht2, if_pos (by rfl)] at hz
    obtain ⟨⟨xs2, s3⟩, h3, hz⟩ := Option.bind_eq_some_iff.1 hz
    obtain ⟨rfl, rfl⟩ := Prod.mk.inj (Option.some.inj hz)
    exact choice_else G q s w h x1 s1 h1 xs1 s2 h2 ht1 ht2 xs2 s3 h3
  | true =>
  rw [ht2, if_neg (by decide)] at hz
  cases hd : s2.skip.skip.down.1 with
  | false =>
    rw [hd, if_neg (by decide)] at hz
    obtain ⟨rfl, rfl⟩ := Prod.mk.inj (Option.some.inj hz)
    exact choice_deep G q s w h x1 s1 h1 xs1 s2 h2 ht1 ht2 hd
  | true =>
    rw [hd, if_pos rfl] at hz
    obtain ⟨⟨x2, s3⟩, h3, hz⟩ := Option.bind_eq_some_iff.1 hz
    obtain ⟨rfl, rfl⟩ := Prod.mk.inj (Option.some.inj hz)
    exact choice_elif G q s w h x1 s1 h1 xs1 s2 h2 D ht1 ht2 hd x2 s3 h3
end Go.Proofs.YtgenlgfbjlclbaaDoor
