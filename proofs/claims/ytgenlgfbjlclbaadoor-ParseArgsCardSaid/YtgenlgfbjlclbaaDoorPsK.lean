/- turn: an assignment, or a call. -/
import Derived.Test.YtgenlgfbjlclbaaDoorPsJ
import Derived.Test.YtgenlgfbjlclbaaDoorWFootNe
namespace Go.Proofs.YtgenlgfbjlclbaaDoor
open Go.RowKit Go.Proofs.YtgenlgfbjlclbaaDoorW.PrintWords Go.Proofs.YtgenlgfbjlclbaaDoorW.PrintLast Go.Proofs.YtgenlgfbjlclbaaDoorW.PrintMore
set_option linter.unusedVariables false
set_option linter.unusedSimpArgs false

/-- The first of a row: its cells, what they lead to. -/
theorem F_first {W : World} {ok : Nat → Prop} {A : Option Addr} {n : Nat} {k : Expr} {l : List Expr} (h : Kd.F kExpr W ok A n (k :: l)) :
    ∃ ad B d, A = some ad ∧ n = l.length + 1 ∧ n ≤ 9223372036854775807 ∧ Foot (fun W => (W.cell? ad = some (.int .i64 k.kind) ∧ W.cell? ⟨ad.block, ad.off + 1, none⟩ = some (.int .i64 k.pos.line) ∧ W.cell? ⟨ad.block, ad.off + 2, none⟩ = some (.int .i64 k.pos.col) ∧ W.cell? ⟨ad.block, ad.off + 3, none⟩ = some (.int .i64 k.num) ∧ W.cell? ⟨ad.block, ad.off + 4, none⟩ = some (.string k.name) ∧ W.cell? ⟨ad.block, ad.off + 5, none⟩ = some (.int .i64 k.op) ∧ W.cell? ⟨ad.block, ad.off + 6, none⟩ = some (.slice B k.kids.length d)) ∧ kExpr.K W k [.int .i64 k.kind, .int .i64 k.pos.line, .int .i64 k.pos.col, .int .i64 k.num, .string k.name, .int .i64 k.op, .slice B k.kids.length d]) W ok := by
  have hl := Kd.F_len h
  have hl' : n = l.length + 1 := hl.symm
  have hn : ((0 : Nat) : Int) < (n : Int) := by omega
  obtain ⟨ad, B, d, hA, e0, e1, e2, e3, e4, e5, e6, n3, hd, hC⟩ := atExpr (Kd.F_now h) 0 (by decide) hn
  have hz : ad.add (Int.toNat 0 * 7) = ad := Addr.add_zero' ad
  rw [hz] at e0 e1 e2 e3 e4 e5 e6
  have hin := Kd.F_in h hA (by omega) (by decide)
  refine ⟨ad, B, d, hA, hl', Kd.F_max h, ?_⟩
  intro W' hW
  obtain ⟨ad', B', d', hA', f0, f1, f2, f3, f4, f5, f6, m3, hd', hC'⟩ := atExpr (h W' hW) 0 (by decide) hn
  obtain rfl : ad = ad' := Option.some.inj (hA.symm.trans hA')
  rw [hz] at f0 f1 f2 f3 f4 f5 f6
  have he : W'.cell? ⟨ad.block, ad.off + 6, none⟩ = W.cell? ⟨ad.block, ad.off + 6, none⟩ := World.cell?_of_block (w := W) (hW ad.block hin (World.block_lt_of_cell? W ⟨ad.block, ad.off + 6, none⟩ e6))
  rw [e6, f6] at he
  obtain ⟨rfl, _, rfl⟩ := Value.slice.inj (Option.some.inj he)
  exact ⟨⟨f0, f1, f2, f3, f4, f5, f6⟩, kExpr_mk W' k m3 hd' hC'⟩

set_option maxRecDepth 100000 in
set_option maxHeartbeats 6400000 in
theorem turn_bad {a : GA} {g : Nat} {p : Ps} (G : Good a g p) (q : Pos) (s : PS) (x1 : Expr) (s1 : PS) (w : World) (h : PSt a g s w) (h1 : p.whole s = some (x1, s1)) (hb : s1.bad = true) :
    Calls Tryd.prog 75 #[.pointer (some ⟨g, 0, none⟩), .agg #[.int .i64 0, .int .i64 q.line, .int .i64 q.col, .string ⟨#[]⟩, .slice none 0 0, .slice none 0 0, .slice none 0 0]] w (SPost a g w (sAt q) s1) := by
  have FR := Aside0.mk (Fr.start h)
  have C := FR.out.c0
  have HX := Lib.hid h1
  have HB_ := Lib.hid hb
  clear h h1 hb
  go_enter Tryd.func75, Tryd.ntmps75
  go_wp2_with (first | ((with_reducible refine gate_dst (N := 3) rfl ?_); refine FR.out.boxE (N := 3) #[.int .i64 0, .int .i64 q.line, .int .i64 q.col, .string ⟨#[]⟩, .slice none 0 0, .slice none 0 0, .slice none 0 0] 45 (by rfl) (by rfl) ?hr ?_; (case hr => first | (go_simp; done) | (go_simp; rfl)); intro b3 AW1 f_; replace FR := Aside0.mk f_; replace C := f_.c1; clear f_) | ((with_reducible refine gate_dst (N := 4) rfl ?_); refine FR.out.boxE (N := 4) #[.int .i64 0, .int .i64 0, .int .i64 0, .string ⟨#[]⟩, .slice none 0 0, .slice none 0 0, .slice none 0 0] 45 (by rfl) (by rfl) ?hr ?_; (case hr => first | (go_simp; done) | (go_simp; rfl)); intro b4 AW2 f_; replace FR := Aside0.mk f_; replace C := f_.c2; clear f_) | (go_at_call 73; (with_reducible refine (FR.out.ec (G.whole _ _ _ _ FR.out.ps HX.out)).mono ?_); rintro e AW3 ⟨A6, c6, okx, rfl, f_⟩; replace FR := Aside0.mk f_; replace C := f_.c2; clear f_) | ((with_reducible refine gate_dst (N := 5) rfl ?_); refine FR.out.varE (W1 := ?_) (N := 5) #[.int .i64 x1.kind, .int .i64 x1.pos.line, .int .i64 x1.pos.col, .int .i64 x1.num, .string x1.name, .int .i64 x1.op, .slice A6 x1.kids.length c6] 51 (by rfl) (by rfl) (by rfl) (by rfl) ?hr ?hs ?_; (case hr => first | (go_simp; done) | (go_simp; rfl)); (case hs => first | (go_simp; done) | (go_simp; rfl)); intro b5 AW4 f_; replace FR := Aside0.mk f_; replace C := f_.c3; clear f_) | (go_at_call 21; (with_reducible refine (FR.out.bc (bad_calls FR.out.ps)).mono ?_); rintro e AW5 ⟨rfl, f_⟩; rw [HB_.out]; replace FR := Aside0.mk f_; replace C := f_.c3; clear f_) | ((with_reducible refine gate_store (t := 45) (p := 4) (v := .tmp 57) rfl ?_); refine FR.out.s2 [.int .i64 0, .int .i64 q.line, .int .i64 q.col, .string ⟨#[]⟩, .slice none 0 0, .slice none 0 0, .slice none 0 0] (by rfl) (by rfl) ?hr (by rfl) ?_; (case hr => first | (go_simp; done) | (go_simp; rfl)); intro AW6 f_; replace FR := Aside0.mk f_; replace C := f_.c3; clear f_))
  refine bodyPost_ret (results_cell_row rfl _ _ b4 _ _ (0, 0) _ rfl FR.out.b2 Tryd.underlying45 rfl (by kernel_rfl)) rfl ?_
  exact FR.out.spost (x := sAt q) rfl (foot_all fun W => kStmt_mk W (sAt q) (Nat.le_refl _) (Kd.C_nil kExpr W) (Nat.le_refl _) (Kd.C_nil kStmt W) (Nat.le_refl _) (Kd.C_nil kStmt W))

set_option maxRecDepth 100000 in
set_option maxHeartbeats 6400000 in
theorem turn_fail3 {a : GA} {g : Nat} {p : Ps} (G : Good a g p) (q : Pos) (s : PS) (x1 : Expr) (s1 : PS) (w : World) (h : PSt a g s w) (h1 : p.whole s = some (x1, s1)) (hb : s1.bad = false) (hk : x1.kind = 3) (ht : (s1.take [61]).1 = false) :
    Calls Tryd.prog 75 #[.pointer (some ⟨g, 0, none⟩), .agg #[.int .i64 0, .int .i64 q.line, .int .i64 q.col, .string ⟨#[]⟩, .slice none 0 0, .slice none 0 0, .slice none 0 0]] w (SPost a g w (sAt q) (s1.fail 12)) := by
  have FR := Aside0.mk (Fr.start h)
  have C := FR.out.c0
  have HX := Lib.hid h1
  have HB_ := Lib.hid hb
  have HT := Lib.hid ht
  have k3 : (x1.kind == 3) = true := beq_iff_eq.2 hk
  have k4 : (x1.kind == 4) = false := beq_eq_false_iff_ne.2 (by omega)
  have k5 : (x1.kind == 5) = false := beq_eq_false_iff_ne.2 (by omega)
  clear h h1 hb hk ht
  go_enter Tryd.func75, Tryd.ntmps75
  go_wp2_with (first | ((with_reducible refine gate_dst (N := 3) rfl ?_); refine FR.out.boxE (N := 3) #[.int .i64 0, .int .i64 q.line, .int .i64 q.col, .string ⟨#[]⟩, .slice none 0 0, .slice none 0 0, .slice none 0 0] 45 (by rfl) (by rfl) ?hr ?_; (case hr => first | (go_simp; done) | (go_simp; rfl)); intro b3 BW1 f_; replace FR := Aside0.mk f_; replace C := f_.c1; clear f_) | ((with_reducible refine gate_dst (N := 4) rfl ?_); refine FR.out.boxE (N := 4) #[.int .i64 0, .int .i64 0, .int .i64 0, .string ⟨#[]⟩, .slice none 0 0, .slice none 0 0, .slice none 0 0] 45 (by rfl) (by rfl) ?hr ?_; (case hr => first | (go_simp; done) | (go_simp; rfl)); intro b4 BW2 f_; replace FR := Aside0.mk f_; replace C := f_.c2; clear f_) | (go_at_call 73; (with_reducible refine (FR.out.ec (G.whole _ _ _ _ FR.out.ps HX.out)).mono ?_); rintro e BW3 ⟨A6, c6, okx, rfl, f_⟩; replace FR := Aside0.mk f_; replace C := f_.c2; clear f_) | ((with_reducible refine gate_dst (N := 5) rfl ?_); refine FR.out.varE (W1 := ?_) (N := 5) #[.int .i64 x1.kind, .int .i64 x1.pos.line, .int .i64 x1.pos.col, .int .i64 x1.num, .string x1.name, .int .i64 x1.op, .slice A6 x1.kids.length c6] 51 (by rfl) (by rfl) (by rfl) (by rfl) ?hr ?hs ?_; (case hr => first | (go_simp; done) | (go_simp; rfl)); (case hs => first | (go_simp; done) | (go_simp; rfl)); intro b5 BW4 f_; replace FR := Aside0.mk f_; replace C := f_.c3; clear f_) | (go_at_call 21; (with_reducible refine (FR.out.bc (bad_calls FR.out.ps)).mono ?_); rintro e BW5 ⟨rfl, f_⟩; rw [HB_.out]; replace FR := Aside0.mk f_; replace C := f_.c3; clear f_) | (go_at_call 23; (with_reducible refine (FR.out.cc (take_no ⟨#[61]⟩ [61] rfl FR.out.ps HT.out)).mono ?_); rintro e BW6 ⟨rfl, f_⟩; replace FR := Aside0.mk f_; replace C := f_.c3; clear f_) | (go_at_call 26; (with_reducible refine (FR.out.cc (fail_calls 12 FR.out.ps)).mono ?_); rintro e BW7 ⟨rfl, f_⟩; replace FR := Aside0.mk f_; replace C := f_.c3; clear f_) | ((with_reducible refine gate_store (t := 45) (p := 4) (v := .tmp 57) rfl ?_); refine FR.out.s2 [.int .i64 0, .int .i64 q.line, .int .i64 q.col, .string ⟨#[]⟩, .slice none 0 0, .slice none 0 0, .slice none 0 0] (by rfl) (by rfl) ?hr (by rfl) ?_; (case hr => first | (go_simp; done) | (go_simp; rfl)); intro BW8 f_; replace FR := Aside0.mk f_; replace C := f_.c3; clear f_))
  refine bodyPost_ret (results_cell_row rfl _ _ b4 _ _ (0, 0) _ rfl FR.out.b2 Tryd.underlying45 rfl (by kernel_rfl)) rfl ?_
  exact FR.out.spost (x := sAt q) rfl (foot_all fun W => kStmt_mk W (sAt q) (Nat.le_refl _) (Kd.C_nil kExpr W) (Nat.le_refl _) (Kd.C_nil kStmt W) (Nat.le_refl _) (Kd.C_nil kStmt W))

set_option maxRecDepth 100000 in
set_option maxHeartbeats 6400000 in
theorem turn_fail4 {a : GA} {g : Nat} {p : Ps} (G : Good a g p) (q : Pos) (s : PS) (x1 : Expr) (s1 : PS) (w : World) (h : PSt a g s w) (h1 : p.whole s = some (x1, s1)) (hb : s1.bad = false) (hk : x1.kind = 4) (ht : (s1.take [61]).1 = false) :
    Calls Tryd.prog 75 #[.pointer (some ⟨g, 0, none⟩), .agg #[.int .i64 0, .int .i64 q.line, .int .i64 q.col, .string ⟨#[]⟩, .slice none 0 0, .slice none 0 0, .slice none 0 0]] w (SPost a g w (sAt q) (s1.fail 12)) := by
  have FR := Aside0.mk (Fr.start h)
  have C := FR.out.c0
  have HX := Lib.hid h1
  have HB_ := Lib.hid hb
  have HT := Lib.hid ht
  have k3 : (x1.kind == 3) = false := beq_eq_false_iff_ne.2 (by omega)
  have k4 : (x1.kind == 4) = true := beq_iff_eq.2 hk
  have k5 : (x1.kind == 5) = false := beq_eq_false_iff_ne.2 (by omega)
  clear h h1 hb hk ht
  go_enter Tryd.func75, Tryd.ntmps75
  go_wp2_with (first | ((with_reducible refine gate_dst (N := 3) rfl ?_); refine FR.out.boxE (N := 3) #[.int .i64 0, .int .i64 q.line, .int .i64 q.col, .string ⟨#[]⟩, .slice none 0 0, .slice none 0 0, .slice none 0 0] 45 (by rfl) (by rfl) ?hr ?_; (case hr => first | (go_simp; done) | (go_simp; rfl)); intro b3 CW1 f_; replace FR := Aside0.mk f_; replace C := f_.c1; clear f_) | ((with_reducible refine gate_dst (N := 4) rfl ?_); refine FR.out.boxE (N := 4) #[.int .i64 0, .int .i64 0, .int .i64 0, .string ⟨#[]⟩, .slice none 0 0, .slice none 0 0, .slice none 0 0] 45 (by rfl) (by rfl) ?hr ?_; (case hr => first | (go_simp; done) | (go_simp; rfl)); intro b4 CW2 f_; replace FR := Aside0.mk f_; replace C := f_.c2; clear f_) | (go_at_call 73; (with_reducible refine (FR.out.ec (G.whole _ _ _ _ FR.out.ps HX.out)).mono ?_); rintro e CW3 ⟨A6, c6, okx, rfl, f_⟩; replace FR := Aside0.mk f_; replace C := f_.c2; clear f_) | ((with_reducible refine gate_dst (N := 5) rfl ?_); refine FR.out.varE (W1 := ?_) (N := 5) #[.int .i64 x1.kind, .int .i64 x1.pos.line, .int .i64 x1.pos.col, .int .i64 x1.num, .string x1.name, .int .i64 x1.op, .slice A6 x1.kids.length c6] 51 (by rfl) (by rfl) (by rfl) (by rfl) ?hr ?hs ?_; (case hr => first | (go_simp; done) | (go_simp; rfl)); (case hs => first | (go_simp; done) | (go_simp; rfl)); intro b5 CW4 f_; replace FR := Aside0.mk f_; replace C := f_.c3; clear f_) | (go_at_call 21; (with_reducible refine (FR.out.bc (bad_calls FR.out.ps)).mono ?_); rintro e CW5 ⟨rfl, f_⟩; rw [HB_.out]; replace FR := Aside0.mk f_; replace C := f_.c3; clear f_) | (go_at_call 23; (with_reducible refine (FR.out.cc (take_no ⟨#[61]⟩ [61] rfl FR.out.ps HT.out)).mono ?_); rintro e CW6 ⟨rfl, f_⟩; replace FR := Aside0.mk f_; replace C := f_.c3; clear f_) | (go_at_call 26; (with_reducible refine (FR.out.cc (fail_calls 12 FR.out.ps)).mono ?_); rintro e CW7 ⟨rfl, f_⟩; replace FR := Aside0.mk f_; replace C := f_.c3; clear f_) | ((with_reducible refine gate_store (t := 45) (p := 4) (v := .tmp 57) rfl ?_); refine FR.out.s2 [.int .i64 0, .int .i64 q.line, .int .i64 q.col, .string ⟨#[]⟩, .slice none 0 0, .slice none 0 0, .slice none 0 0] (by rfl) (by rfl) ?hr (by rfl) ?_; (case hr => first | (go_simp; done) | (go_simp; rfl)); intro CW8 f_; replace FR := Aside0.mk f_; replace C := f_.c3; clear f_))
  refine bodyPost_ret (results_cell_row rfl _ _ b4 _ _ (0, 0) _ rfl FR.out.b2 Tryd.underlying45 rfl (by kernel_rfl)) rfl ?_
  exact FR.out.spost (x := sAt q) rfl (foot_all fun W => kStmt_mk W (sAt q) (Nat.le_refl _) (Kd.C_nil kExpr W) (Nat.le_refl _) (Kd.C_nil kStmt W) (Nat.le_refl _) (Kd.C_nil kStmt W))

set_option maxRecDepth 100000 in
set_option maxHeartbeats 6400000 in
theorem turn_fail {a : GA} {g : Nat} {p : Ps} (G : Good a g p) (q : Pos) (s : PS) (x1 : Expr) (s1 : PS) (w : World) (h : PSt a g s w) (h1 : p.whole s = some (x1, s1)) (hb : s1.bad = false) (hk3 : x1.kind ≠ 3) (hk4 : x1.kind ≠ 4) (hk5 : x1.kind ≠ 5) :
    Calls Tryd.prog 75 #[.pointer (some ⟨g, 0, none⟩), .agg #[.int .i64 0, .int .i64 q.line, .int .i64 q.col, .string ⟨#[]⟩, .slice none 0 0, .slice none 0 0, .slice none 0 0]] w (SPost a g w (sAt q) (s1.fail 12)) := by
  have FR := Aside0.mk (Fr.start h)
  have C := FR.out.c0
  have HX := Lib.hid h1
  have HB_ := Lib.hid hb
  have k3 : (x1.kind == 3) = false := beq_eq_false_iff_ne.2 hk3
  have k4 : (x1.kind == 4) = false := beq_eq_false_iff_ne.2 hk4
  have k5 : (x1.kind == 5) = false := beq_eq_false_iff_ne.2 hk5
  clear h h1 hb hk3 hk4 hk5
  go_enter Tryd.func75, Tryd.ntmps75
  go_wp2_with (first | ((with_reducible refine gate_dst (N := 3) rfl ?_); refine FR.out.boxE (N := 3) #[.int .i64 0, .int .i64 q.line, .int .i64 q.col, .string ⟨#[]⟩, .slice none 0 0, .slice none 0 0, .slice none 0 0] 45 (by rfl) (by rfl) ?hr ?_; (case hr => first | (go_simp; done) | (go_simp; rfl)); intro b3 DW1 f_; replace FR := Aside0.mk f_; replace C := f_.c1; clear f_) | ((with_reducible refine gate_dst (N := 4) rfl ?_); refine FR.out.boxE (N := 4) #[.int .i64 0, .int .i64 0, .int .i64 0, .string ⟨#[]⟩, .slice none 0 0, .slice none 0 0, .slice none 0 0] 45 (by rfl) (by rfl) ?hr ?_; (case hr => first | (go_simp; done) | (go_simp; rfl)); intro b4 DW2 f_; replace FR := Aside0.mk f_; replace C := f_.c2; clear f_) | (go_at_call 73; (with_reducible refine (FR.out.ec (G.whole _ _ _ _ FR.out.ps HX.out)).mono ?_); rintro e DW3 ⟨A6, c6, okx, rfl, f_⟩; replace FR := Aside0.mk f_; replace C := f_.c2; clear f_) | ((with_reducible refine gate_dst (N := 5) rfl ?_); refine FR.out.varE (W1 := ?_) (N := 5) #[.int .i64 x1.kind, .int .i64 x1.pos.line, .int .i64 x1.pos.col, .int .i64 x1.num, .string x1.name, .int .i64 x1.op, .slice A6 x1.kids.length c6] 51 (by rfl) (by rfl) (by rfl) (by rfl) ?hr ?hs ?_; (case hr => first | (go_simp; done) | (go_simp; rfl)); (case hs => first | (go_simp; done) | (go_simp; rfl)); intro b5 DW4 f_; replace FR := Aside0.mk f_; replace C := f_.c3; clear f_) | (go_at_call 21; (with_reducible refine (FR.out.bc (bad_calls FR.out.ps)).mono ?_); rintro e DW5 ⟨rfl, f_⟩; rw [HB_.out]; replace FR := Aside0.mk f_; replace C := f_.c3; clear f_) | (go_at_call 26; (with_reducible refine (FR.out.cc (fail_calls 12 FR.out.ps)).mono ?_); rintro e DW6 ⟨rfl, f_⟩; replace FR := Aside0.mk f_; replace C := f_.c3; clear f_) | ((with_reducible refine gate_store (t := 45) (p := 4) (v := .tmp 57) rfl ?_); refine FR.out.s2 [.int .i64 0, .int .i64 q.line, .int .i64 q.col, .string ⟨#[]⟩, .slice none 0 0, .slice none 0 0, .slice none 0 0] (by rfl) (by rfl) ?hr (by rfl) ?_; (case hr => first | (go_simp; done) | (go_simp; rfl)); intro DW7 f_; replace FR := Aside0.mk f_; replace C := f_.c3; clear f_))
  refine bodyPost_ret (results_cell_row rfl _ _ b4 _ _ (0, 0) _ rfl FR.out.b2 Tryd.underlying45 rfl (by kernel_rfl)) rfl ?_
  exact FR.out.spost (x := sAt q) rfl (foot_all fun W => kStmt_mk W (sAt q) (Nat.le_refl _) (Kd.C_nil kExpr W) (Nat.le_refl _) (Kd.C_nil kStmt W) (Nat.le_refl _) (Kd.C_nil kStmt W))

set_option maxRecDepth 100000 in
set_option maxHeartbeats 6400000 in
theorem turn_var {a : GA} {g : Nat} {p : Ps} (G : Good a g p) (q : Pos) (s : PS) (x1 : Expr) (s1 : PS) (w : World) (h : PSt a g s w) (h1 : p.whole s = some (x1, s1)) (hb : s1.bad = false) (hk : x1.kind = 3) (ht : (s1.take [61]).1 = true) (x2 : Expr) (s2 : PS) (h2 : p.whole s1.skip = some (x2, s2)) :
    Calls Tryd.prog 75 #[.pointer (some ⟨g, 0, none⟩), .agg #[.int .i64 0, .int .i64 q.line, .int .i64 q.col, .string ⟨#[]⟩, .slice none 0 0, .slice none 0 0, .slice none 0 0]] w (SPost a g w ⟨2, q, x1.name, [x2], [], []⟩ s2) := by
  have FR := Aside0.mk (Fr.start h)
  have C := FR.out.c0
  have HX := Lib.hid h1
  have HB_ := Lib.hid hb
  have HT := Lib.hid ht
  have HX2 := Lib.hid h2
  have k3 : (x1.kind == 3) = true := beq_iff_eq.2 hk
  clear h h1 hb hk ht h2
  go_enter Tryd.func75, Tryd.ntmps75
  go_wp2_with (first | ((with_reducible refine gate_dst (N := 3) rfl ?_); refine FR.out.boxE (N := 3) #[.int .i64 0, .int .i64 q.line, .int .i64 q.col, .string ⟨#[]⟩, .slice none 0 0, .slice none 0 0, .slice none 0 0] 45 (by rfl) (by rfl) ?hr ?_; (case hr => first | (go_simp; done) | (go_simp; rfl)); intro b3 EW1 f_; replace FR := Aside0.mk f_; replace C := f_.c1; clear f_) | ((with_reducible refine gate_dst (N := 4) rfl ?_); refine FR.out.boxE (N := 4) #[.int .i64 0, .int .i64 0, .int .i64 0, .string ⟨#[]⟩, .slice none 0 0, .slice none 0 0, .slice none 0 0] 45 (by rfl) (by rfl) ?hr ?_; (case hr => first | (go_simp; done) | (go_simp; rfl)); intro b4 EW2 f_; replace FR := Aside0.mk f_; replace C := f_.c2; clear f_) | (go_at_call 73; (with_reducible refine (FR.out.ec (G.whole _ _ _ _ FR.out.ps HX.out)).mono ?_); rintro e EW3 ⟨A6, c6, okx, rfl, f_⟩; replace FR := Aside0.mk f_; replace C := f_.c2; clear f_) | ((with_reducible refine gate_dst (N := 5) rfl ?_); refine FR.out.varE (W1 := ?_) (N := 5) #[.int .i64 x1.kind, .int .i64 x1.pos.line, .int .i64 x1.pos.col, .int .i64 x1.num, .string x1.name, .int .i64 x1.op, .slice A6 x1.kids.length c6] 51 (by rfl) (by rfl) (by rfl) (by rfl) ?hr ?hs ?_; (case hr => first | (go_simp; done) | (go_simp; rfl)); (case hs => first | (go_simp; done) | (go_simp; rfl)); intro b5 EW4 f_; replace FR := Aside0.mk f_; replace C := f_.c3; clear f_) | (go_at_call 21; (with_reducible refine (FR.out.bc (bad_calls FR.out.ps)).mono ?_); rintro e EW5 ⟨rfl, f_⟩; rw [HB_.out]; replace FR := Aside0.mk f_; replace C := f_.c3; clear f_) | (go_at_call 23; (with_reducible refine (FR.out.cc (take_yes ⟨#[61]⟩ [61] rfl FR.out.ps HT.out)).mono ?_); rintro e EW6 ⟨rfl, f_⟩; replace FR := Aside0.mk f_; replace C := f_.c3; clear f_))
  have FRd := FR.out.below (below_drew (Below.refl EW6.heap.size EW6))
  refine start_ (n := 11) (S := fun w' => (∀ i, w'.cell? ⟨b5, i, none⟩ = (#[.int .i64 x1.kind, .int .i64 x1.pos.line, .int .i64 x1.pos.col, .int .i64 x1.num, .string x1.name, .int .i64 x1.op, .slice A6 x1.kids.length c6] : Array Value)[i]?)) (ds := [10]) #[false, false, false, false, false, false, false, false, false, false, false] (by kernel_rfl) rfl rfl (blk_cell FRd.b1) (fun hHeld => ?_)
  refine pure_ (i := 0) (N := some 21) (v := ?_) (a' := ?_) #[true, false, false, false, false, false, false, false, false, false, false] rfl rfl (by kernel_rfl) (fun _ _ _ h => h) (Or.inl ⟨by rfl, ?_⟩) ?_ ?_
  rotate_left
  · intro w'
    go_simp
    with_reducible rfl
  rotate_left
  · simp only [Act.put, List.setIfInBounds_toArray, List.set_cons_zero, List.set_cons_succ, i64_w, i32_w]
    rfl
  refine pure_ (i := 2) (N := some 23) (v := ?_) (a' := ?_) #[true, false, true, false, false, false, false, false, false, false, false] rfl rfl (by kernel_rfl) (fun _ _ _ h => h) (Or.inl ⟨by rfl, ?_⟩) ?_ ?_
  rotate_left
  · intro w'
    go_simp
    with_reducible rfl
  rotate_left
  · simp only [Act.put, List.setIfInBounds_toArray, List.set_cons_zero, List.set_cons_succ, i64_w, i32_w]
    rfl
  refine pure_ (i := 5) (N := some 26) (v := ?_) (a' := ?_) #[true, false, true, false, false, true, false, false, false, false, false] rfl rfl (by kernel_rfl) (fun _ _ _ h => h) (Or.inl ⟨by rfl, ?_⟩) ?_ ?_
  rotate_left
  · intro w'
    go_simp
    with_reducible rfl
  rotate_left
  · simp only [Act.put, List.setIfInBounds_toArray, List.set_cons_zero, List.set_cons_succ, i64_w, i32_w]
    rfl
  refine take_ (i := 1) (N := some 22) (v := ?_) (a' := ?_) #[true, true, true, false, false, true, false, false, false, false, false] rfl rfl (by kernel_rfl) (fun _ _ _ h => h) (Or.inl ⟨by rfl, ?_⟩) hHeld ?_ ?_
  rotate_left
  · intro w' s0
    go_simp
    with_reducible rfl
  rotate_left
  · simp only [Act.put, List.setIfInBounds_toArray, List.set_cons_zero, List.set_cons_succ, i64_w, i32_w]
    rfl
  refine one_ (i := 3) (N := some 24) #[true, true, true, true, false, true, false, false, false, false, false] rfl rfl (by kernel_rfl) (by decide) (fun K hK => ?_)
  refine goes_ Tryd.func73 (by kernel_rfl) rfl #[.pointer (some ⟨g, 0, none⟩)] (by rfl) rfl rfl (by simp only [List.map_toArray, List.map_cons, List.map_nil]; rfl) ?_
  with_reducible refine (FRd.ec (G.whole _ _ _ _ FRd.ps HX2.out)).mono ?_
  rintro e w3 ⟨A7, c7, okx2, rfl, f_u⟩
  refine ⟨_, rfl, ?_⟩
  refine hK.out _ _ (blk_cell f_u.b1) (fun hHeld => ?_)
  clear hK K
  refine norm_ (a' := ?_) ?_ ?_
  rotate_left
  · show Act.put _ (some 24) _ = _
    simp only [Act.put, List.setIfInBounds_toArray, List.set_cons_zero, List.set_cons_succ, i64_w, i32_w]
    rfl
  refine join_ (σ := Option Addr × Nat) 2 #[true, true, true, true, true, true, true, true, true, false, false] (fun s => [(25, .slice s.1 1 s.2), (27, .pointer (some ⟨b3, 3, none⟩))]) (fun s w' => (∃ ok, Fr a g w s2 [⟨b5, #[.int .i64 x1.kind, .int .i64 x1.pos.line, .int .i64 x1.pos.col, .int .i64 x1.num, .string x1.name, .int .i64 x1.op, .slice A6 x1.kids.length c6], 51⟩, ⟨b4, #[.int .i64 0, .int .i64 0, .int .i64 0, .string ⟨#[]⟩, .slice none 0 0, .slice none 0 0, .slice none 0 0], 45⟩, ⟨b3, #[.int .i64 2, .int .i64 q.line, .int .i64 q.col, .string x1.name, .slice none 0 0, .slice none 0 0, .slice none 0 0], 45⟩] [⟨ok, fun W => 1 ≤ s.2 ∧ kExpr.C W s.1 1 [x2]⟩] w') ∧ (∀ i, w'.cell? ⟨b5, i, none⟩ = (#[.int .i64 x1.kind, .int .i64 x1.pos.line, .int .i64 x1.pos.col, .int .i64 x1.num, .string x1.name, .int .i64 x1.op, .slice A6 x1.kids.length c6] : Array Value)[i]?)) ?_ ?_
  rotate_left
  · intro hCont
    refine two_ (i := 4) (j := 6) (Ni := some 25) (Nj := none) #[true, true, true, true, true, true, false, false, false, false, false] #[true, true, true, true, false, true, true, false, false, false, false] rfl rfl rfl rfl (by kernel_rfl) (by decide) (by decide) (fun K hK => ?_) (fun K hK => ?_)
    · skip
      refine Fr.litS kExpr 51 f_u [x2] 1 (by rfl) [.int .i64 x2.kind, .int .i64 x2.pos.line, .int .i64 x2.pos.col, .int .i64 x2.num, .string x2.name, .int .i64 x2.op, .slice A7 x2.kids.length c7] (by rfl) (N := 25) (by rfl) ?hr (fun h => reps1 h rfl) (show 1 ≤ 9223372036854775807 by decide) ?_
      case hr => first | (go_simp; done) | (go_simp; rfl)
      intro Ay cy v4 oky f4
      refine hK.out _ _ (blk_cell f4.b1) (fun hHeld => ?_)
      clear hK K
      refine norm_ (a' := ?_) ?_ ?_
      rotate_left
      · show Act.put _ (some 25) _ = _
        simp only [Act.put, List.setIfInBounds_toArray, List.set_cons_zero, List.set_cons_succ, i64_w, i32_w]
        rfl
      refine one_ (i := 6) (N := none) #[true, true, true, true, true, true, true, false, false, false, false] rfl rfl (by kernel_rfl) (by decide) (fun K hK => ?_)
      have C_ := f4.c3
      refine skip_ (w1 := ?_) (by rfl) rfl ?_ ?_
      rotate_left
      · go_simp
        rfl
      obtain ⟨v4_6, hw_⟩ : ∃ W, W = v4.setCell ⟨b3, 0, none⟩ (.int .i64 2) := ⟨_, rfl⟩
      rw [← hw_]
      have f4_6 := Fr.putAt [_, _] (cs' := #[.int .i64 2, .int .i64 q.line, .int .i64 q.col, .string ⟨#[]⟩, .slice none 0 0, .slice none 0 0, .slice none 0 0]) f4 (w' := v4_6) (by rw [hw_]; exact (Chg.refl b3 v4).set 0 _) (by rw [hw_]; exact (show (v4.setCell ⟨b3, 0, none⟩ (.int .i64 2)).heap[b3]? = _ from blk_put f4.b3 0 _ rfl))
      clear hw_ C_
      refine hK.out _ _ (blk_cell f4_6.b1) (fun hHeld => ?_)
      clear hK K
      refine pure_ (i := 7) (N := some 27) (v := ?_) (a' := ?_) #[true, true, true, true, true, true, true, true, false, false, false] rfl rfl (by kernel_rfl) (fun _ _ _ h => h) (Or.inl ⟨by rfl, ?_⟩) ?_ ?_
      rotate_left
      · intro w'
        go_simp
        with_reducible rfl
      rotate_left
      · simp only [Act.put, List.setIfInBounds_toArray, List.set_cons_zero, List.set_cons_succ, i64_w, i32_w]
        rfl
      refine one_ (i := 8) (N := none) #[true, true, true, true, true, true, true, true, true, false, false] rfl rfl (by kernel_rfl) (by decide) (fun K hK => ?_)
      have C_ := f4_6.c3
      refine skip_ (w1 := ?_) (by rfl) rfl ?_ ?_
      rotate_left
      · go_simp
        rfl
      obtain ⟨v4_6_8, hw_⟩ : ∃ W, W = v4_6.setCell ⟨b3, 3, none⟩ (.string x1.name) := ⟨_, rfl⟩
      rw [← hw_]
      have f4_6_8 := Fr.putAt [_, _] (cs' := #[.int .i64 2, .int .i64 q.line, .int .i64 q.col, .string x1.name, .slice none 0 0, .slice none 0 0, .slice none 0 0]) f4_6 (w' := v4_6_8) (by rw [hw_]; exact (Chg.refl b3 v4_6).set 3 _) (by rw [hw_]; exact (show (v4_6.setCell ⟨b3, 3, none⟩ (.string x1.name)).heap[b3]? = _ from blk_put f4_6.b3 3 _ rfl))
      clear hw_ C_
      refine hK.out _ _ (blk_cell f4_6_8.b1) (fun hHeld => ?_)
      clear hK K
      exact norm_ (by simp only [putAll, Act.put, List.setIfInBounds_toArray, List.set_cons_zero, List.set_cons_succ]) (hCont (Ay, cy) _ ⟨⟨oky, Fr.only1 f4_6_8⟩, hHeld⟩)
    · skip
      have C_ := f_u.c3
      refine skip_ (w1 := ?_) (by rfl) rfl ?_ ?_
      rotate_left
      · go_simp
        rfl
      obtain ⟨v6, hw_⟩ : ∃ W, W = w3.setCell ⟨b3, 0, none⟩ (.int .i64 2) := ⟨_, rfl⟩
      rw [← hw_]
      have f6 := Fr.putAt [_, _] (cs' := #[.int .i64 2, .int .i64 q.line, .int .i64 q.col, .string ⟨#[]⟩, .slice none 0 0, .slice none 0 0, .slice none 0 0]) f_u (w' := v6) (by rw [hw_]; exact (Chg.refl b3 w3).set 0 _) (by rw [hw_]; exact (show (w3.setCell ⟨b3, 0, none⟩ (.int .i64 2)).heap[b3]? = _ from blk_put f_u.b3 0 _ rfl))
      clear hw_ C_
      refine hK.out _ _ (blk_cell f6.b1) (fun hHeld => ?_)
      clear hK K
      refine pure_ (i := 7) (N := some 27) (v := ?_) (a' := ?_) #[true, true, true, true, false, true, true, true, false, false, false] rfl rfl (by kernel_rfl) (fun _ _ _ h => h) (Or.inl ⟨by rfl, ?_⟩) ?_ ?_
      rotate_left
      · intro w'
        go_simp
        with_reducible rfl
      rotate_left
      · simp only [Act.put, List.setIfInBounds_toArray, List.set_cons_zero, List.set_cons_succ, i64_w, i32_w]
        rfl
      refine two_ (i := 4) (j := 8) (Ni := some 25) (Nj := none) #[true, true, true, true, true, true, true, true, false, false, false] #[true, true, true, true, false, true, true, true, true, false, false] rfl rfl rfl rfl (by kernel_rfl) (by decide) (by decide) (fun K hK => ?_) (fun K hK => ?_)
      · skip
        refine Fr.litS kExpr 51 f6 [x2] 1 (by rfl) [.int .i64 x2.kind, .int .i64 x2.pos.line, .int .i64 x2.pos.col, .int .i64 x2.num, .string x2.name, .int .i64 x2.op, .slice A7 x2.kids.length c7] (by rfl) (N := 25) (by rfl) ?hr (fun h => reps1 h rfl) (show 1 ≤ 9223372036854775807 by decide) ?_
        case hr => first | (go_simp; done) | (go_simp; rfl)
        intro Ay cy v6_4 oky f6_4
        refine hK.out _ _ (blk_cell f6_4.b1) (fun hHeld => ?_)
        clear hK K
        refine norm_ (a' := ?_) ?_ ?_
        rotate_left
        · show Act.put _ (some 25) _ = _
          simp only [Act.put, List.setIfInBounds_toArray, List.set_cons_zero, List.set_cons_succ, i64_w, i32_w]
          rfl
        refine one_ (i := 8) (N := none) #[true, true, true, true, true, true, true, true, true, false, false] rfl rfl (by kernel_rfl) (by decide) (fun K hK => ?_)
        have C_ := f6_4.c3
        refine skip_ (w1 := ?_) (by rfl) rfl ?_ ?_
        rotate_left
        · go_simp
          rfl
        obtain ⟨v6_4_8, hw_⟩ : ∃ W, W = v6_4.setCell ⟨b3, 3, none⟩ (.string x1.name) := ⟨_, rfl⟩
        rw [← hw_]
        have f6_4_8 := Fr.putAt [_, _] (cs' := #[.int .i64 2, .int .i64 q.line, .int .i64 q.col, .string x1.name, .slice none 0 0, .slice none 0 0, .slice none 0 0]) f6_4 (w' := v6_4_8) (by rw [hw_]; exact (Chg.refl b3 v6_4).set 3 _) (by rw [hw_]; exact (show (v6_4.setCell ⟨b3, 3, none⟩ (.string x1.name)).heap[b3]? = _ from blk_put f6_4.b3 3 _ rfl))
        clear hw_ C_
        refine hK.out _ _ (blk_cell f6_4_8.b1) (fun hHeld => ?_)
        clear hK K
        exact norm_ (by simp only [putAll, Act.put, List.setIfInBounds_toArray, List.set_cons_zero, List.set_cons_succ]) (hCont (Ay, cy) _ ⟨⟨oky, Fr.only1 f6_4_8⟩, hHeld⟩)
      · skip
        have C_ := f6.c3
        refine skip_ (w1 := ?_) (by rfl) rfl ?_ ?_
        rotate_left
        · go_simp
          rfl
        obtain ⟨v6_8, hw_⟩ : ∃ W, W = v6.setCell ⟨b3, 3, none⟩ (.string x1.name) := ⟨_, rfl⟩
        rw [← hw_]
        have f6_8 := Fr.putAt [_, _] (cs' := #[.int .i64 2, .int .i64 q.line, .int .i64 q.col, .string x1.name, .slice none 0 0, .slice none 0 0, .slice none 0 0]) f6 (w' := v6_8) (by rw [hw_]; exact (Chg.refl b3 v6).set 3 _) (by rw [hw_]; exact (show (v6.setCell ⟨b3, 3, none⟩ (.string x1.name)).heap[b3]? = _ from blk_put f6.b3 3 _ rfl))
        clear hw_ C_
        refine hK.out _ _ (blk_cell f6_8.b1) (fun hHeld => ?_)
        clear hK K
        refine one_ (i := 4) (N := some 25) #[true, true, true, true, true, true, true, true, true, false, false] rfl rfl (by kernel_rfl) (by decide) (fun K hK => ?_)
        refine Fr.litS kExpr 51 f6_8 [x2] 1 (by rfl) [.int .i64 x2.kind, .int .i64 x2.pos.line, .int .i64 x2.pos.col, .int .i64 x2.num, .string x2.name, .int .i64 x2.op, .slice A7 x2.kids.length c7] (by rfl) (N := 25) (by rfl) ?hr (fun h => reps1 h rfl) (show 1 ≤ 9223372036854775807 by decide) ?_
        case hr => first | (go_simp; done) | (go_simp; rfl)
        intro Ay cy v6_8_4 oky f6_8_4
        refine hK.out _ _ (blk_cell f6_8_4.b1) (fun hHeld => ?_)
        clear hK K
        refine norm_ (a' := ?_) ?_ ?_
        rotate_left
        · show Act.put _ (some 25) _ = _
          simp only [Act.put, List.setIfInBounds_toArray, List.set_cons_zero, List.set_cons_succ, i64_w, i32_w]
          rfl
        exact norm_ (by simp only [putAll, Act.put, List.setIfInBounds_toArray, List.set_cons_zero, List.set_cons_succ]) (hCont (Ay, cy) _ ⟨⟨oky, Fr.only1 f6_8_4⟩, hHeld⟩)
  rintro ⟨Ay, cy⟩ w5 ⟨⟨oky, f9⟩, hHeld⟩
  have C9 := f9.c3
  refine norm_ (a' := ?_) ?_ ?_
  rotate_left
  · simp only [putAll, Act.put, List.setIfInBounds_toArray, List.set_cons_zero, List.set_cons_succ]
    rfl
  refine pure_ (i := 9) (N := some 28) (v := ?_) (a' := ?_) #[true, true, true, true, true, true, true, true, true, true, false] rfl rfl (by kernel_rfl) (fun _ _ _ h => h) (Or.inl ⟨by rfl, ?_⟩) ?_ ?_
  rotate_left
  · intro w'
    go_simp
    with_reducible rfl
  rotate_left
  · simp only [Act.put, List.setIfInBounds_toArray, List.set_cons_zero, List.set_cons_succ, i64_w, i32_w]
    rfl
  refine last_ (i := 10) (N := none) #[true, true, true, true, true, true, true, true, true, true, true] rfl rfl (by kernel_rfl) (by decide) (fun K hK => ?_)
  refine skip_ (w1 := ?_) (by rfl) rfl ?_ ?_
  rotate_left
  · go_simp
    rfl
  refine hK.out _ _ ?_
  clear hK K
  refine done_ (by kernel_rfl) ?_
  obtain ⟨W9, hW9⟩ : ∃ W, W = w5.setCell ⟨b3, 4, none⟩ (.slice Ay 1 cy) := ⟨_, rfl⟩
  rw [← hW9]
  replace FR := Aside0.mk (Fr.putAt [_, _] (cs' := #[.int .i64 2, .int .i64 q.line, .int .i64 q.col, .string x1.name, .slice Ay 1 cy, .slice none 0 0, .slice none 0 0]) f9 (w' := W9) (by rw [hW9]; exact (Chg.refl b3 w5).set 4 _) (by rw [hW9]; exact blk_put f9.b3 4 _ rfl))
  replace C := FR.out.c3
  clear hW9 hHeld f9 C9
  go_wp2_with (first | ((with_reducible refine gate_store (t := 45) (p := 4) (v := .tmp 57) rfl ?_); refine FR.out.s2 [.int .i64 2, .int .i64 q.line, .int .i64 q.col, .string x1.name, .slice Ay 1 cy, .slice none 0 0, .slice none 0 0] (by rfl) (by rfl) ?hr (by rfl) ?_; (case hr => first | (go_simp; done) | (go_simp; rfl)); intro EZW1 f_; replace FR := Aside0.mk f_; replace C := f_.c3; clear f_))
  refine bodyPost_ret (results_cell_row rfl _ _ b4 _ _ (0, 0) _ rfl FR.out.b2 Tryd.underlying45 rfl (by kernel_rfl)) rfl ?_
  exact FR.out.spost (x := ⟨2, q, x1.name, [x2], [], []⟩) rfl (Foot.imp FR.out.v1 fun W h => kStmt_mk W ⟨2, q, x1.name, [x2], [], []⟩ h.1 h.2 (Nat.le_refl _) (Kd.C_nil kStmt W) (Nat.le_refl _) (Kd.C_nil kStmt W))

set_option maxRecDepth 100000 in
set_option maxHeartbeats 6400000 in
theorem turn_at {a : GA} {g : Nat} {p : Ps} (G : Good a g p) (q : Pos) (s : PS) (x1 : Expr) (s1 : PS) (w : World) (h : PSt a g s w) (h1 : p.whole s = some (x1, s1)) (hb : s1.bad = false) (hk : x1.kind = 4) (ht : (s1.take [61]).1 = true) (k0 : Expr) (kr : List Expr) (hkd : x1.kids = k0 :: kr) (x2 : Expr) (s2 : PS) (h2 : p.whole s1.skip = some (x2, s2)) :
    Calls Tryd.prog 75 #[.pointer (some ⟨g, 0, none⟩), .agg #[.int .i64 0, .int .i64 q.line, .int .i64 q.col, .string ⟨#[]⟩, .slice none 0 0, .slice none 0 0, .slice none 0 0]] w (SPost a g w ⟨3, q, x1.name, [k0, x2], [], []⟩ s2) := by
  have FR := Aside0.mk (Fr.start h)
  have C := FR.out.c0
  have HX := Lib.hid h1
  have HB_ := Lib.hid hb
  have HT := Lib.hid ht
  have HX2 := Lib.hid h2
  have HKD := Lib.hid hkd
  have k3 : (x1.kind == 3) = false := beq_eq_false_iff_ne.2 (by omega)
  have k4 : (x1.kind == 4) = true := beq_iff_eq.2 hk
  clear h h1 hb hk ht h2 hkd
  go_enter Tryd.func75, Tryd.ntmps75
  go_wp2_with (first | ((with_reducible refine gate_dst (N := 3) rfl ?_); refine FR.out.boxE (N := 3) #[.int .i64 0, .int .i64 q.line, .int .i64 q.col, .string ⟨#[]⟩, .slice none 0 0, .slice none 0 0, .slice none 0 0] 45 (by rfl) (by rfl) ?hr ?_; (case hr => first | (go_simp; done) | (go_simp; rfl)); intro b3 FW1 f_; replace FR := Aside0.mk f_; replace C := f_.c1; clear f_) | ((with_reducible refine gate_dst (N := 4) rfl ?_); refine FR.out.boxE (N := 4) #[.int .i64 0, .int .i64 0, .int .i64 0, .string ⟨#[]⟩, .slice none 0 0, .slice none 0 0, .slice none 0 0] 45 (by rfl) (by rfl) ?hr ?_; (case hr => first | (go_simp; done) | (go_simp; rfl)); intro b4 FW2 f_; replace FR := Aside0.mk f_; replace C := f_.c2; clear f_) | (go_at_call 73; (with_reducible refine (FR.out.ec (G.whole _ _ _ _ FR.out.ps HX.out)).mono ?_); rintro e FW3 ⟨A6, c6, okx, rfl, f_⟩; replace FR := Aside0.mk f_; replace C := f_.c2; clear f_) | ((with_reducible refine gate_dst (N := 5) rfl ?_); refine FR.out.varE (W1 := ?_) (N := 5) #[.int .i64 x1.kind, .int .i64 x1.pos.line, .int .i64 x1.pos.col, .int .i64 x1.num, .string x1.name, .int .i64 x1.op, .slice A6 x1.kids.length c6] 51 (by rfl) (by rfl) (by rfl) (by rfl) ?hr ?hs ?_; (case hr => first | (go_simp; done) | (go_simp; rfl)); (case hs => first | (go_simp; done) | (go_simp; rfl)); intro b5 FW4 f_; replace FR := Aside0.mk f_; replace C := f_.c3; clear f_) | (go_at_call 21; (with_reducible refine (FR.out.bc (bad_calls FR.out.ps)).mono ?_); rintro e FW5 ⟨rfl, f_⟩; rw [HB_.out]; replace FR := Aside0.mk f_; replace C := f_.c3; clear f_) | (go_at_call 23; (with_reducible refine (FR.out.cc (take_yes ⟨#[61]⟩ [61] rfl FR.out.ps HT.out)).mono ?_); rintro e FW6 ⟨rfl, f_⟩; replace FR := Aside0.mk f_; replace C := f_.c3; clear f_))
  have hrow := Foot.imp (FR.out.val _ (.head _)).1 (fun W' hK => show kExpr.C W' A6 x1.kids.length x1.kids from by
    obtain ⟨A', c', he, _, _, hC⟩ := kExpr_open hK
    simp only [List.cons.injEq, Value.slice.injEq, true_and, and_true] at he
    obtain ⟨rfl, rfl⟩ := he
    exact hC)
  rw [HKD.out] at hrow
  obtain ⟨ad, B, d, rfl, hlen, hmax, FKk_⟩ := F_first hrow
  replace FR := Aside0.mk (FR.out.mapv FKk_)
  have kl : x1.kids.length = kr.length + 1 := by rw [HKD.out]; rfl
  have kg : 0 < kr.length + 1 := by omega
  have km : kr.length + 1 ≤ 9223372036854775807 := hmax
  rw [kl] at FR
  replace C := FR.out.c3
  clear hrow FKk_ hmax hlen
  have FRd := FR.out.below (below_drew (Below.refl FW6.heap.size FW6))
  refine start_ (n := 15) (S := fun w' => (∀ i, w'.cell? ⟨b5, i, none⟩ = (#[.int .i64 x1.kind, .int .i64 x1.pos.line, .int .i64 x1.pos.col, .int .i64 x1.num, .string x1.name, .int .i64 x1.op, .slice (some ad) (kr.length + 1) c6] : Array Value)[i]?) ∧ (w'.cell? ad = some (.int .i64 k0.kind) ∧ w'.cell? ⟨ad.block, ad.off + 1, none⟩ = some (.int .i64 k0.pos.line) ∧ w'.cell? ⟨ad.block, ad.off + 2, none⟩ = some (.int .i64 k0.pos.col) ∧ w'.cell? ⟨ad.block, ad.off + 3, none⟩ = some (.int .i64 k0.num) ∧ w'.cell? ⟨ad.block, ad.off + 4, none⟩ = some (.string k0.name) ∧ w'.cell? ⟨ad.block, ad.off + 5, none⟩ = some (.int .i64 k0.op) ∧ w'.cell? ⟨ad.block, ad.off + 6, none⟩ = some (.slice B k0.kids.length d))) (ds := [14]) #[false, false, false, false, false, false, false, false, false, false, false, false, false, false, false] (by kernel_rfl) rfl rfl ⟨blk_cell FRd.b1, FRd.n1.1⟩ (fun hHeld => ?_)
  refine pure_ (i := 0) (N := some 37) (v := ?_) (a' := ?_) #[true, false, false, false, false, false, false, false, false, false, false, false, false, false, false] rfl rfl (by kernel_rfl) (fun _ _ _ h => h) (Or.inl ⟨by rfl, ?_⟩) ?_ ?_
  rotate_left
  · intro w'
    go_simp
    with_reducible rfl
  rotate_left
  · simp only [Act.put, List.setIfInBounds_toArray, List.set_cons_zero, List.set_cons_succ, i64_w, i32_w]
    rfl
  refine pure_ (i := 2) (N := some 39) (v := ?_) (a' := ?_) #[true, false, true, false, false, false, false, false, false, false, false, false, false, false, false] rfl rfl (by kernel_rfl) (fun _ _ _ h => h) (Or.inl ⟨by rfl, ?_⟩) ?_ ?_
  rotate_left
  · intro w'
    go_simp
    with_reducible rfl
  rotate_left
  · simp only [Act.put, List.setIfInBounds_toArray, List.set_cons_zero, List.set_cons_succ, i64_w, i32_w]
    rfl
  refine pure_ (i := 6) (N := some 43) (v := ?_) (a' := ?_) #[true, false, true, false, false, false, true, false, false, false, false, false, false, false, false] rfl rfl (by kernel_rfl) (fun _ _ _ h => h) (Or.inl ⟨by rfl, ?_⟩) ?_ ?_
  rotate_left
  · intro w'
    go_simp
    with_reducible rfl
  rotate_left
  · simp only [Act.put, List.setIfInBounds_toArray, List.set_cons_zero, List.set_cons_succ, i64_w, i32_w]
    rfl
  refine pure_ (i := 9) (N := some 46) (v := ?_) (a' := ?_) #[true, false, true, false, false, false, true, false, false, true, false, false, false, false, false] rfl rfl (by kernel_rfl) (fun _ _ _ h => h) (Or.inl ⟨by rfl, ?_⟩) ?_ ?_
  rotate_left
  · intro w'
    go_simp
    with_reducible rfl
  rotate_left
  · simp only [Act.put, List.setIfInBounds_toArray, List.set_cons_zero, List.set_cons_succ, i64_w, i32_w]
    rfl
  refine take_ (i := 1) (N := some 38) (v := ?_) (a' := ?_) #[true, true, true, false, false, false, true, false, false, true, false, false, false, false, false] rfl rfl (by kernel_rfl) (fun _ _ _ h => h) (Or.inl ⟨by rfl, ?_⟩) hHeld ?_ ?_
  rotate_left
  · rintro w' ⟨s0, s1⟩
    go_simp
    with_reducible rfl
  rotate_left
  · simp only [Act.put, List.setIfInBounds_toArray, List.set_cons_zero, List.set_cons_succ, i64_w, i32_w]
    rfl
  refine take_ (i := 3) (N := some 40) (v := ?_) (a' := ?_) #[true, true, true, true, false, false, true, false, false, true, false, false, false, false, false] rfl rfl (by kernel_rfl) (fun _ _ _ h => h) (Or.inl ⟨by rfl, ?_⟩) hHeld ?_ ?_
  rotate_left
  · rintro w' ⟨s0, s1⟩
    go_simp
    with_reducible rfl
  rotate_left
  · simp only [Act.put, List.setIfInBounds_toArray, List.set_cons_zero, List.set_cons_succ, i64_w, i32_w]
    rfl
  refine pure_ (i := 4) (N := some 41) (v := ?_) (a' := ?_) #[true, true, true, true, true, false, true, false, false, true, false, false, false, false, false] rfl rfl (by kernel_rfl) (fun _ _ _ h => h) (Or.inl ⟨by rfl, ?_⟩) ?_ ?_
  rotate_left
  · intro w'
    go_simp
    with_reducible rfl
  rotate_left
  · simp only [Act.put, List.setIfInBounds_toArray, List.set_cons_zero, List.set_cons_succ, i64_w, i32_w]
    rfl
  refine take_ (i := 5) (N := some 42) (v := ?_) (a' := ?_) #[true, true, true, true, true, true, true, false, false, true, false, false, false, false, false] rfl rfl (by kernel_rfl) (fun _ _ _ h => h) (Or.inl ⟨by rfl, ?_⟩) hHeld ?_ ?_
  rotate_left
  · rintro w' ⟨s0, s1⟩
    go_simp
    with_reducible rfl
  rotate_left
  · simp only [Act.put, List.setIfInBounds_toArray, List.set_cons_zero, List.set_cons_succ, i64_w, i32_w]
    rfl
  refine one_ (i := 7) (N := some 44) #[true, true, true, true, true, true, true, true, false, true, false, false, false, false, false] rfl rfl (by kernel_rfl) (by decide) (fun K hK => ?_)
  refine goes_ Tryd.func73 (by kernel_rfl) rfl #[.pointer (some ⟨g, 0, none⟩)] (by rfl) rfl rfl (by simp only [List.map_toArray, List.map_cons, List.map_nil]; rfl) ?_
  with_reducible refine (FRd.ec (G.whole _ _ _ _ FRd.ps HX2.out)).mono ?_
  rintro e w3 ⟨A7, c7, okx2, rfl, f_u⟩
  refine ⟨_, rfl, ?_⟩
  refine hK.out _ _ ⟨blk_cell f_u.b1, f_u.n2.1⟩ (fun hHeld => ?_)
  clear hK K
  refine norm_ (a' := ?_) ?_ ?_
  rotate_left
  · show Act.put _ (some 44) _ = _
    simp only [Act.put, List.setIfInBounds_toArray, List.set_cons_zero, List.set_cons_succ, i64_w, i32_w]
    rfl
  refine join_ (σ := Option Addr × Nat) 2 #[true, true, true, true, true, true, true, true, true, true, true, true, true, false, false] (fun s => [(45, .slice s.1 2 s.2), (47, .pointer (some ⟨b3, 3, none⟩))]) (fun s w' => (∃ ok, Fr a g w s2 [⟨b5, #[.int .i64 x1.kind, .int .i64 x1.pos.line, .int .i64 x1.pos.col, .int .i64 x1.num, .string x1.name, .int .i64 x1.op, .slice (some ad) (kr.length + 1) c6], 51⟩, ⟨b4, #[.int .i64 0, .int .i64 0, .int .i64 0, .string ⟨#[]⟩, .slice none 0 0, .slice none 0 0, .slice none 0 0], 45⟩, ⟨b3, #[.int .i64 3, .int .i64 q.line, .int .i64 q.col, .string x1.name, .slice none 0 0, .slice none 0 0, .slice none 0 0], 45⟩] [⟨ok, fun W => 2 ≤ s.2 ∧ kExpr.C W s.1 2 [k0, x2]⟩] w') ∧ (∀ i, w'.cell? ⟨b5, i, none⟩ = (#[.int .i64 x1.kind, .int .i64 x1.pos.line, .int .i64 x1.pos.col, .int .i64 x1.num, .string x1.name, .int .i64 x1.op, .slice (some ad) (kr.length + 1) c6] : Array Value)[i]?) ∧ (w'.cell? ad = some (.int .i64 k0.kind) ∧ w'.cell? ⟨ad.block, ad.off + 1, none⟩ = some (.int .i64 k0.pos.line) ∧ w'.cell? ⟨ad.block, ad.off + 2, none⟩ = some (.int .i64 k0.pos.col) ∧ w'.cell? ⟨ad.block, ad.off + 3, none⟩ = some (.int .i64 k0.num) ∧ w'.cell? ⟨ad.block, ad.off + 4, none⟩ = some (.string k0.name) ∧ w'.cell? ⟨ad.block, ad.off + 5, none⟩ = some (.int .i64 k0.op) ∧ w'.cell? ⟨ad.block, ad.off + 6, none⟩ = some (.slice B k0.kids.length d))) ?_ ?_
  rotate_left
  · intro hCont
    refine two_ (i := 8) (j := 10) (Ni := some 45) (Nj := none) #[true, true, true, true, true, true, true, true, true, true, false, false, false, false, false] #[true, true, true, true, true, true, true, true, false, true, true, false, false, false, false] rfl rfl rfl rfl (by kernel_rfl) (by decide) (by decide) (fun K hK => ?_) (fun K hK => ?_)
    · skip
      refine Fr.lit2S kExpr 51 f_u [k0, x2] 2 (by rfl) [.int .i64 k0.kind, .int .i64 k0.pos.line, .int .i64 k0.pos.col, .int .i64 k0.num, .string k0.name, .int .i64 k0.op, .slice B k0.kids.length d, .int .i64 x2.kind, .int .i64 x2.pos.line, .int .i64 x2.pos.col, .int .i64 x2.num, .string x2.name, .int .i64 x2.op, .slice A7 x2.kids.length c7] (by rfl) (N := 45) (by rfl) ?hr (fun h k => reps2 (c1 := [.int .i64 k0.kind, .int .i64 k0.pos.line, .int .i64 k0.pos.col, .int .i64 k0.num, .string k0.name, .int .i64 k0.op, .slice B k0.kids.length d]) (c2 := [.int .i64 x2.kind, .int .i64 x2.pos.line, .int .i64 x2.pos.col, .int .i64 x2.num, .string x2.name, .int .i64 x2.op, .slice A7 x2.kids.length c7]) (Foot.imp k (fun _ h => h.2)) h rfl rfl) (show 2 ≤ 9223372036854775807 by decide) ?_
      case hr => first | (go_simp; done) | (go_simp; rfl)
      intro Ay cy v8 oky f8
      refine hK.out _ _ ⟨blk_cell f8.b1, f8.n3.1⟩ (fun hHeld => ?_)
      clear hK K
      refine norm_ (a' := ?_) ?_ ?_
      rotate_left
      · show Act.put _ (some 45) _ = _
        simp only [Act.put, List.setIfInBounds_toArray, List.set_cons_zero, List.set_cons_succ, i64_w, i32_w]
        rfl
      refine one_ (i := 10) (N := none) #[true, true, true, true, true, true, true, true, true, true, true, false, false, false, false] rfl rfl (by kernel_rfl) (by decide) (fun K hK => ?_)
      have C_ := f8.c3
      refine skip_ (w1 := ?_) (by rfl) rfl ?_ ?_
      rotate_left
      · go_simp
        rfl
      obtain ⟨v8_10, hw_⟩ : ∃ W, W = v8.setCell ⟨b3, 0, none⟩ (.int .i64 3) := ⟨_, rfl⟩
      rw [← hw_]
      have f8_10 := Fr.putAt [_, _] (cs' := #[.int .i64 3, .int .i64 q.line, .int .i64 q.col, .string ⟨#[]⟩, .slice none 0 0, .slice none 0 0, .slice none 0 0]) f8 (w' := v8_10) (by rw [hw_]; exact (Chg.refl b3 v8).set 0 _) (by rw [hw_]; exact (show (v8.setCell ⟨b3, 0, none⟩ (.int .i64 3)).heap[b3]? = _ from blk_put f8.b3 0 _ rfl))
      clear hw_ C_
      refine hK.out _ _ ⟨blk_cell f8_10.b1, f8_10.n3.1⟩ (fun hHeld => ?_)
      clear hK K
      refine pure_ (i := 11) (N := some 47) (v := ?_) (a' := ?_) #[true, true, true, true, true, true, true, true, true, true, true, true, false, false, false] rfl rfl (by kernel_rfl) (fun _ _ _ h => h) (Or.inl ⟨by rfl, ?_⟩) ?_ ?_
      rotate_left
      · intro w'
        go_simp
        with_reducible rfl
      rotate_left
      · simp only [Act.put, List.setIfInBounds_toArray, List.set_cons_zero, List.set_cons_succ, i64_w, i32_w]
        rfl
      refine one_ (i := 12) (N := none) #[true, true, true, true, true, true, true, true, true, true, true, true, true, false, false] rfl rfl (by kernel_rfl) (by decide) (fun K hK => ?_)
      have C_ := f8_10.c3
      refine skip_ (w1 := ?_) (by rfl) rfl ?_ ?_
      rotate_left
      · go_simp
        rfl
      obtain ⟨v8_10_12, hw_⟩ : ∃ W, W = v8_10.setCell ⟨b3, 3, none⟩ (.string x1.name) := ⟨_, rfl⟩
      rw [← hw_]
      have f8_10_12 := Fr.putAt [_, _] (cs' := #[.int .i64 3, .int .i64 q.line, .int .i64 q.col, .string x1.name, .slice none 0 0, .slice none 0 0, .slice none 0 0]) f8_10 (w' := v8_10_12) (by rw [hw_]; exact (Chg.refl b3 v8_10).set 3 _) (by rw [hw_]; exact (show (v8_10.setCell ⟨b3, 3, none⟩ (.string x1.name)).heap[b3]? = _ from blk_put f8_10.b3 3 _ rfl))
      clear hw_ C_
      refine hK.out _ _ ⟨blk_cell f8_10_12.b1, f8_10_12.n3.1⟩ (fun hHeld => ?_)
      clear hK K
      exact norm_ (by simp only [putAll, Act.put, List.setIfInBounds_toArray, List.set_cons_zero, List.set_cons_succ]) (hCont (Ay, cy) _ ⟨⟨oky, Fr.only1 f8_10_12⟩, hHeld⟩)
    · skip
      have C_ := f_u.c3
      refine skip_ (w1 := ?_) (by rfl) rfl ?_ ?_
      rotate_left
      · go_simp
        rfl
      obtain ⟨v10, hw_⟩ : ∃ W, W = w3.setCell ⟨b3, 0, none⟩ (.int .i64 3) := ⟨_, rfl⟩
      rw [← hw_]
      have f10 := Fr.putAt [_, _] (cs' := #[.int .i64 3, .int .i64 q.line, .int .i64 q.col, .string ⟨#[]⟩, .slice none 0 0, .slice none 0 0, .slice none 0 0]) f_u (w' := v10) (by rw [hw_]; exact (Chg.refl b3 w3).set 0 _) (by rw [hw_]; exact (show (w3.setCell ⟨b3, 0, none⟩ (.int .i64 3)).heap[b3]? = _ from blk_put f_u.b3 0 _ rfl))
      clear hw_ C_
      refine hK.out _ _ ⟨blk_cell f10.b1, f10.n2.1⟩ (fun hHeld => ?_)
      clear hK K
      refine pure_ (i := 11) (N := some 47) (v := ?_) (a' := ?_) #[true, true, true, true, true, true, true, true, false, true, true, true, false, false, false] rfl rfl (by kernel_rfl) (fun _ _ _ h => h) (Or.inl ⟨by rfl, ?_⟩) ?_ ?_
      rotate_left
      · intro w'
        go_simp
        with_reducible rfl
      rotate_left
      · simp only [Act.put, List.setIfInBounds_toArray, List.set_cons_zero, List.set_cons_succ, i64_w, i32_w]
        rfl
      refine two_ (i := 8) (j := 12) (Ni := some 45) (Nj := none) #[true, true, true, true, true, true, true, true, true, true, true, true, false, false, false] #[true, true, true, true, true, true, true, true, false, true, true, true, true, false, false] rfl rfl rfl rfl (by kernel_rfl) (by decide) (by decide) (fun K hK => ?_) (fun K hK => ?_)
      · skip
        refine Fr.lit2S kExpr 51 f10 [k0, x2] 2 (by rfl) [.int .i64 k0.kind, .int .i64 k0.pos.line, .int .i64 k0.pos.col, .int .i64 k0.num, .string k0.name, .int .i64 k0.op, .slice B k0.kids.length d, .int .i64 x2.kind, .int .i64 x2.pos.line, .int .i64 x2.pos.col, .int .i64 x2.num, .string x2.name, .int .i64 x2.op, .slice A7 x2.kids.length c7] (by rfl) (N := 45) (by rfl) ?hr (fun h k => reps2 (c1 := [.int .i64 k0.kind, .int .i64 k0.pos.line, .int .i64 k0.pos.col, .int .i64 k0.num, .string k0.name, .int .i64 k0.op, .slice B k0.kids.length d]) (c2 := [.int .i64 x2.kind, .int .i64 x2.pos.line, .int .i64 x2.pos.col, .int .i64 x2.num, .string x2.name, .int .i64 x2.op, .slice A7 x2.kids.length c7]) (Foot.imp k (fun _ h => h.2)) h rfl rfl) (show 2 ≤ 9223372036854775807 by decide) ?_
        case hr => first | (go_simp; done) | (go_simp; rfl)
        intro Ay cy v10_8 oky f10_8
        refine hK.out _ _ ⟨blk_cell f10_8.b1, f10_8.n3.1⟩ (fun hHeld => ?_)
        clear hK K
        refine norm_ (a' := ?_) ?_ ?_
        rotate_left
        · show Act.put _ (some 45) _ = _
          simp only [Act.put, List.setIfInBounds_toArray, List.set_cons_zero, List.set_cons_succ, i64_w, i32_w]
          rfl
        refine one_ (i := 12) (N := none) #[true, true, true, true, true, true, true, true, true, true, true, true, true, false, false] rfl rfl (by kernel_rfl) (by decide) (fun K hK => ?_)
        have C_ := f10_8.c3
        refine skip_ (w1 := ?_) (by rfl) rfl ?_ ?_
        rotate_left
        · go_simp
          rfl
        obtain ⟨v10_8_12, hw_⟩ : ∃ W, W = v10_8.setCell ⟨b3, 3, none⟩ (.string x1.name) := ⟨_, rfl⟩
        rw [← hw_]
        have f10_8_12 := Fr.putAt [_, _] (cs' := #[.int .i64 3, .int .i64 q.line, .int .i64 q.col, .string x1.name, .slice none 0 0, .slice none 0 0, .slice none 0 0]) f10_8 (w' := v10_8_12) (by rw [hw_]; exact (Chg.refl b3 v10_8).set 3 _) (by rw [hw_]; exact (show (v10_8.setCell ⟨b3, 3, none⟩ (.string x1.name)).heap[b3]? = _ from blk_put f10_8.b3 3 _ rfl))
        clear hw_ C_
        refine hK.out _ _ ⟨blk_cell f10_8_12.b1, f10_8_12.n3.1⟩ (fun hHeld => ?_)
        clear hK K
        exact norm_ (by simp only [putAll, Act.put, List.setIfInBounds_toArray, List.set_cons_zero, List.set_cons_succ]) (hCont (Ay, cy) _ ⟨⟨oky, Fr.only1 f10_8_12⟩, hHeld⟩)
      · skip
        have C_ := f10.c3
        refine skip_ (w1 := ?_) (by rfl) rfl ?_ ?_
        rotate_left
        · go_simp
          rfl
        obtain ⟨v10_12, hw_⟩ : ∃ W, W = v10.setCell ⟨b3, 3, none⟩ (.string x1.name) := ⟨_, rfl⟩
        rw [← hw_]
        have f10_12 := Fr.putAt [_, _] (cs' := #[.int .i64 3, .int .i64 q.line, .int .i64 q.col, .string x1.name, .slice none 0 0, .slice none 0 0, .slice none 0 0]) f10 (w' := v10_12) (by rw [hw_]; exact (Chg.refl b3 v10).set 3 _) (by rw [hw_]; exact (show (v10.setCell ⟨b3, 3, none⟩ (.string x1.name)).heap[b3]? = _ from blk_put f10.b3 3 _ rfl))
        clear hw_ C_
        refine hK.out _ _ ⟨blk_cell f10_12.b1, f10_12.n2.1⟩ (fun hHeld => ?_)
        clear hK K
        refine one_ (i := 8) (N := some 45) #[true, true, true, true, true, true, true, true, true, true, true, true, true, false, false] rfl rfl (by kernel_rfl) (by decide) (fun K hK => ?_)
        refine Fr.lit2S kExpr 51 f10_12 [k0, x2] 2 (by rfl) [.int .i64 k0.kind, .int .i64 k0.pos.line, .int .i64 k0.pos.col, .int .i64 k0.num, .string k0.name, .int .i64 k0.op, .slice B k0.kids.length d, .int .i64 x2.kind, .int .i64 x2.pos.line, .int .i64 x2.pos.col, .int .i64 x2.num, .string x2.name, .int .i64 x2.op, .slice A7 x2.kids.length c7] (by rfl) (N := 45) (by rfl) ?hr (fun h k => reps2 (c1 := [.int .i64 k0.kind, .int .i64 k0.pos.line, .int .i64 k0.pos.col, .int .i64 k0.num, .string k0.name, .int .i64 k0.op, .slice B k0.kids.length d]) (c2 := [.int .i64 x2.kind, .int .i64 x2.pos.line, .int .i64 x2.pos.col, .int .i64 x2.num, .string x2.name, .int .i64 x2.op, .slice A7 x2.kids.length c7]) (Foot.imp k (fun _ h => h.2)) h rfl rfl) (show 2 ≤ 9223372036854775807 by decide) ?_
        case hr => first | (go_simp; done) | (go_simp; rfl)
        intro Ay cy v10_12_8 oky f10_12_8
        refine hK.out _ _ ⟨blk_cell f10_12_8.b1, f10_12_8.n3.1⟩ (fun hHeld => ?_)
        clear hK K
        refine norm_ (a' := ?_) ?_ ?_
        rotate_left
        · show Act.put _ (some 45) _ = _
          simp only [Act.put, List.setIfInBounds_toArray, List.set_cons_zero, List.set_cons_succ, i64_w, i32_w]
          rfl
        exact norm_ (by simp only [putAll, Act.put, List.setIfInBounds_toArray, List.set_cons_zero, List.set_cons_succ]) (hCont (Ay, cy) _ ⟨⟨oky, Fr.only1 f10_12_8⟩, hHeld⟩)
  rintro ⟨Ay, cy⟩ w5 ⟨⟨oky, f9⟩, hHeld⟩
  have C9 := f9.c3
  refine norm_ (a' := ?_) ?_ ?_
  rotate_left
  · simp only [putAll, Act.put, List.setIfInBounds_toArray, List.set_cons_zero, List.set_cons_succ]
    rfl
  refine pure_ (i := 13) (N := some 48) (v := ?_) (a' := ?_) #[true, true, true, true, true, true, true, true, true, true, true, true, true, true, false] rfl rfl (by kernel_rfl) (fun _ _ _ h => h) (Or.inl ⟨by rfl, ?_⟩) ?_ ?_
  rotate_left
  · intro w'
    go_simp
    with_reducible rfl
  rotate_left
  · simp only [Act.put, List.setIfInBounds_toArray, List.set_cons_zero, List.set_cons_succ, i64_w, i32_w]
    rfl
  refine last_ (i := 14) (N := none) #[true, true, true, true, true, true, true, true, true, true, true, true, true, true, true] rfl rfl (by kernel_rfl) (by decide) (fun K hK => ?_)
  refine skip_ (w1 := ?_) (by rfl) rfl ?_ ?_
  rotate_left
  · go_simp
    rfl
  refine hK.out _ _ ?_
  clear hK K
  refine done_ (by kernel_rfl) ?_
  obtain ⟨W9, hW9⟩ : ∃ W, W = w5.setCell ⟨b3, 4, none⟩ (.slice Ay 2 cy) := ⟨_, rfl⟩
  rw [← hW9]
  replace FR := Aside0.mk (Fr.putAt [_, _] (cs' := #[.int .i64 3, .int .i64 q.line, .int .i64 q.col, .string x1.name, .slice Ay 2 cy, .slice none 0 0, .slice none 0 0]) f9 (w' := W9) (by rw [hW9]; exact (Chg.refl b3 w5).set 4 _) (by rw [hW9]; exact blk_put f9.b3 4 _ rfl))
  replace C := FR.out.c3
  clear hW9 hHeld f9 C9
  go_wp2_with (first | ((with_reducible refine gate_store (t := 45) (p := 4) (v := .tmp 57) rfl ?_); refine FR.out.s2 [.int .i64 3, .int .i64 q.line, .int .i64 q.col, .string x1.name, .slice Ay 2 cy, .slice none 0 0, .slice none 0 0] (by rfl) (by rfl) ?hr (by rfl) ?_; (case hr => first | (go_simp; done) | (go_simp; rfl)); intro FZW1 f_; replace FR := Aside0.mk f_; replace C := f_.c3; clear f_))
  refine bodyPost_ret (results_cell_row rfl _ _ b4 _ _ (0, 0) _ rfl FR.out.b2 Tryd.underlying45 rfl (by kernel_rfl)) rfl ?_
  exact FR.out.spost (x := ⟨3, q, x1.name, [k0, x2], [], []⟩) rfl (Foot.imp FR.out.v1 fun W h => kStmt_mk W ⟨3, q, x1.name, [k0, x2], [], []⟩ h.1 h.2 (Nat.le_refl _) (Kd.C_nil kStmt W) (Nat.le_refl _) (Kd.C_nil kStmt W))

set_option maxRecDepth 100000 in
set_option maxHeartbeats 6400000 in
theorem turn_call {a : GA} {g : Nat} {p : Ps} (G : Good a g p) (q : Pos) (s : PS) (x1 : Expr) (s1 : PS) (w : World) (h : PSt a g s w) (h1 : p.whole s = some (x1, s1)) (hb : s1.bad = false) (hk : x1.kind = 5) :
    Calls Tryd.prog 75 #[.pointer (some ⟨g, 0, none⟩), .agg #[.int .i64 0, .int .i64 q.line, .int .i64 q.col, .string ⟨#[]⟩, .slice none 0 0, .slice none 0 0, .slice none 0 0]] w (SPost a g w ⟨7, q, ⟨#[]⟩, [x1], [], []⟩ s1) := by
  have FR := Aside0.mk (Fr.start h)
  have C := FR.out.c0
  have HX := Lib.hid h1
  have HB_ := Lib.hid hb
  have k3 : (x1.kind == 3) = false := beq_eq_false_iff_ne.2 (by omega)
  have k4 : (x1.kind == 4) = false := beq_eq_false_iff_ne.2 (by omega)
  have k5 : (x1.kind == 5) = true := beq_iff_eq.2 hk
  clear h h1 hb hk
  go_enter Tryd.func75, Tryd.ntmps75
  go_wp2_with (first | ((with_reducible refine gate_dst (N := 3) rfl ?_); refine FR.out.boxE (N := 3) #[.int .i64 0, .int .i64 q.line, .int .i64 q.col, .string ⟨#[]⟩, .slice none 0 0, .slice none 0 0, .slice none 0 0] 45 (by rfl) (by rfl) ?hr ?_; (case hr => first | (go_simp; done) | (go_simp; rfl)); intro b3 HW1 f_; replace FR := Aside0.mk f_; replace C := f_.c1; clear f_) | ((with_reducible refine gate_dst (N := 4) rfl ?_); refine FR.out.boxE (N := 4) #[.int .i64 0, .int .i64 0, .int .i64 0, .string ⟨#[]⟩, .slice none 0 0, .slice none 0 0, .slice none 0 0] 45 (by rfl) (by rfl) ?hr ?_; (case hr => first | (go_simp; done) | (go_simp; rfl)); intro b4 HW2 f_; replace FR := Aside0.mk f_; replace C := f_.c2; clear f_) | (go_at_call 73; (with_reducible refine (FR.out.ec (G.whole _ _ _ _ FR.out.ps HX.out)).mono ?_); rintro e HW3 ⟨A6, c6, okx, rfl, f_⟩; replace FR := Aside0.mk f_; replace C := f_.c2; clear f_) | ((with_reducible refine gate_dst (N := 5) rfl ?_); refine FR.out.varE (W1 := ?_) (N := 5) #[.int .i64 x1.kind, .int .i64 x1.pos.line, .int .i64 x1.pos.col, .int .i64 x1.num, .string x1.name, .int .i64 x1.op, .slice A6 x1.kids.length c6] 51 (by rfl) (by rfl) (by rfl) (by rfl) ?hr ?hs ?_; (case hr => first | (go_simp; done) | (go_simp; rfl)); (case hs => first | (go_simp; done) | (go_simp; rfl)); intro b5 HW4 f_; replace FR := Aside0.mk f_; replace C := f_.c3; clear f_) | (go_at_call 21; (with_reducible refine (FR.out.bc (bad_calls FR.out.ps)).mono ?_); rintro e HW5 ⟨rfl, f_⟩; rw [HB_.out]; replace FR := Aside0.mk f_; replace C := f_.c3; clear f_))
  have FRd := FR.out.below (below_drew (Below.refl HW5.heap.size HW5))
  refine start_ (n := 6) (S := fun w' => (∀ i, w'.cell? ⟨b5, i, none⟩ = (#[.int .i64 x1.kind, .int .i64 x1.pos.line, .int .i64 x1.pos.col, .int .i64 x1.num, .string x1.name, .int .i64 x1.op, .slice A6 x1.kids.length c6] : Array Value)[i]?)) (ds := [5]) #[false, false, false, false, false, false] (by kernel_rfl) rfl rfl (blk_cell FRd.b1) (fun hHeld => ?_)
  refine pure_ (i := 2) (N := some 55) (v := ?_) (a' := ?_) #[false, false, true, false, false, false] rfl rfl (by kernel_rfl) (fun _ _ _ h => h) (Or.inl ⟨by rfl, ?_⟩) ?_ ?_
  rotate_left
  · intro w'
    go_simp
    with_reducible rfl
  rotate_left
  · simp only [Act.put, List.setIfInBounds_toArray, List.set_cons_zero, List.set_cons_succ, i64_w, i32_w]
    rfl
  refine take_ (i := 0) (N := some 53) (v := ?_) (a' := ?_) #[true, false, true, false, false, false] rfl rfl (by kernel_rfl) (fun _ _ _ h => h) (Or.inl ⟨by rfl, ?_⟩) hHeld ?_ ?_
  rotate_left
  · intro w' s0
    go_simp
    with_reducible rfl
  rotate_left
  · simp only [Act.put, List.setIfInBounds_toArray, List.set_cons_zero, List.set_cons_succ, i64_w, i32_w]
    rfl
  refine join_ (σ := Option Addr × Nat) 2 #[true, true, true, true, false, false] (fun s => [(54, .slice s.1 1 s.2)]) (fun s w' => (∃ ok, Fr a g w s1 [⟨b5, #[.int .i64 x1.kind, .int .i64 x1.pos.line, .int .i64 x1.pos.col, .int .i64 x1.num, .string x1.name, .int .i64 x1.op, .slice A6 x1.kids.length c6], 51⟩, ⟨b4, #[.int .i64 0, .int .i64 0, .int .i64 0, .string ⟨#[]⟩, .slice none 0 0, .slice none 0 0, .slice none 0 0], 45⟩, ⟨b3, #[.int .i64 7, .int .i64 q.line, .int .i64 q.col, .string ⟨#[]⟩, .slice none 0 0, .slice none 0 0, .slice none 0 0], 45⟩] [⟨ok, fun W => 1 ≤ s.2 ∧ kExpr.C W s.1 1 [x1]⟩] w') ∧ (∀ i, w'.cell? ⟨b5, i, none⟩ = (#[.int .i64 x1.kind, .int .i64 x1.pos.line, .int .i64 x1.pos.col, .int .i64 x1.num, .string x1.name, .int .i64 x1.op, .slice A6 x1.kids.length c6] : Array Value)[i]?)) ?_ ?_
  rotate_left
  · intro hCont
    refine two_ (i := 1) (j := 3) (Ni := some 54) (Nj := none) #[true, true, true, false, false, false] #[true, false, true, true, false, false] rfl rfl rfl rfl (by kernel_rfl) (by decide) (by decide) (fun K hK => ?_) (fun K hK => ?_)
    · skip
      refine Fr.litS kExpr 51 FRd [x1] 1 (by rfl) [.int .i64 x1.kind, .int .i64 x1.pos.line, .int .i64 x1.pos.col, .int .i64 x1.num, .string x1.name, .int .i64 x1.op, .slice A6 x1.kids.length c6] (by rfl) (N := 54) (by rfl) ?hr (fun h => reps1 h rfl) (show 1 ≤ 9223372036854775807 by decide) ?_
      case hr => first | (go_simp; done) | (go_simp; rfl)
      intro Ay cy v1 oky f1
      refine hK.out _ _ (blk_cell f1.b1) (fun hHeld => ?_)
      clear hK K
      refine norm_ (a' := ?_) ?_ ?_
      rotate_left
      · show Act.put _ (some 54) _ = _
        simp only [Act.put, List.setIfInBounds_toArray, List.set_cons_zero, List.set_cons_succ, i64_w, i32_w]
        rfl
      refine one_ (i := 3) (N := none) #[true, true, true, true, false, false] rfl rfl (by kernel_rfl) (by decide) (fun K hK => ?_)
      have C_ := f1.c3
      refine skip_ (w1 := ?_) (by rfl) rfl ?_ ?_
      rotate_left
      · go_simp
        rfl
      obtain ⟨v1_3, hw_⟩ : ∃ W, W = v1.setCell ⟨b3, 0, none⟩ (.int .i64 7) := ⟨_, rfl⟩
      rw [← hw_]
      have f1_3 := Fr.putAt [_, _] (cs' := #[.int .i64 7, .int .i64 q.line, .int .i64 q.col, .string ⟨#[]⟩, .slice none 0 0, .slice none 0 0, .slice none 0 0]) f1 (w' := v1_3) (by rw [hw_]; exact (Chg.refl b3 v1).set 0 _) (by rw [hw_]; exact (show (v1.setCell ⟨b3, 0, none⟩ (.int .i64 7)).heap[b3]? = _ from blk_put f1.b3 0 _ rfl))
      clear hw_ C_
      refine hK.out _ _ (blk_cell f1_3.b1) (fun hHeld => ?_)
      clear hK K
      exact norm_ (by simp only [putAll, Act.put, List.setIfInBounds_toArray, List.set_cons_zero, List.set_cons_succ]) (hCont (Ay, cy) _ ⟨⟨oky, Fr.only1 f1_3⟩, hHeld⟩)
    · skip
      have C_ := FRd.c3
      refine skip_ (w1 := ?_) (by rfl) rfl ?_ ?_
      rotate_left
      · go_simp
        rfl
      obtain ⟨v3, hw_⟩ : ∃ W, W = (HW5.setCell ⟨b3, 0, none⟩ (.int .i64 7)).drew := ⟨_, rfl⟩
      rw [← hw_]
      have f3 := Fr.putAt [_, _] (cs' := #[.int .i64 7, .int .i64 q.line, .int .i64 q.col, .string ⟨#[]⟩, .slice none 0 0, .slice none 0 0, .slice none 0 0]) FRd (w' := v3) (by rw [hw_]; exact (Chg.refl b3 HW5.drew).set 0 _) (by rw [hw_]; exact (show (HW5.drew.setCell ⟨b3, 0, none⟩ (.int .i64 7)).heap[b3]? = _ from blk_put FRd.b3 0 _ rfl))
      clear hw_ C_
      refine hK.out _ _ (blk_cell f3.b1) (fun hHeld => ?_)
      clear hK K
      refine one_ (i := 1) (N := some 54) #[true, true, true, true, false, false] rfl rfl (by kernel_rfl) (by decide) (fun K hK => ?_)
      refine Fr.litS kExpr 51 f3 [x1] 1 (by rfl) [.int .i64 x1.kind, .int .i64 x1.pos.line, .int .i64 x1.pos.col, .int .i64 x1.num, .string x1.name, .int .i64 x1.op, .slice A6 x1.kids.length c6] (by rfl) (N := 54) (by rfl) ?hr (fun h => reps1 h rfl) (show 1 ≤ 9223372036854775807 by decide) ?_
      case hr => first | (go_simp; done) | (go_simp; rfl)
      intro Ay cy v3_1 oky f3_1
      refine hK.out _ _ (blk_cell f3_1.b1) (fun hHeld => ?_)
      clear hK K
      refine norm_ (a' := ?_) ?_ ?_
      rotate_left
      · show Act.put _ (some 54) _ = _
        simp only [Act.put, List.setIfInBounds_toArray, List.set_cons_zero, List.set_cons_succ, i64_w, i32_w]
        rfl
      exact norm_ (by simp only [putAll, Act.put, List.setIfInBounds_toArray, List.set_cons_zero, List.set_cons_succ]) (hCont (Ay, cy) _ ⟨⟨oky, Fr.only1 f3_1⟩, hHeld⟩)
  rintro ⟨Ay, cy⟩ w5 ⟨⟨oky, f9⟩, hHeld⟩
  have C9 := f9.c3
  refine norm_ (a' := ?_) ?_ ?_
  rotate_left
  · simp only [putAll, Act.put, List.setIfInBounds_toArray, List.set_cons_zero, List.set_cons_succ]
    rfl
  refine pure_ (i := 4) (N := some 56) (v := ?_) (a' := ?_) #[true, true, true, true, true, false] rfl rfl (by kernel_rfl) (fun _ _ _ h => h) (Or.inl ⟨by rfl, ?_⟩) ?_ ?_
  rotate_left
  · intro w'
    go_simp
    with_reducible rfl
  rotate_left
  · simp only [Act.put, List.setIfInBounds_toArray, List.set_cons_zero, List.set_cons_succ, i64_w, i32_w]
    rfl
  refine last_ (i := 5) (N := none) #[true, true, true, true, true, true] rfl rfl (by kernel_rfl) (by decide) (fun K hK => ?_)
  refine skip_ (w1 := ?_) (by rfl) rfl ?_ ?_
  rotate_left
  · go_simp
    rfl
  refine hK.out _ _ ?_
  clear hK K
  refine done_ (by kernel_rfl) ?_
  obtain ⟨W9, hW9⟩ : ∃ W, W = w5.setCell ⟨b3, 4, none⟩ (.slice Ay 1 cy) := ⟨_, rfl⟩
  rw [← hW9]
  replace FR := Aside0.mk (Fr.putAt [_, _] (cs' := #[.int .i64 7, .int .i64 q.line, .int .i64 q.col, .string ⟨#[]⟩, .slice Ay 1 cy, .slice none 0 0, .slice none 0 0]) f9 (w' := W9) (by rw [hW9]; exact (Chg.refl b3 w5).set 4 _) (by rw [hW9]; exact blk_put f9.b3 4 _ rfl))
  replace C := FR.out.c3
  clear hW9 hHeld f9 C9
  go_wp2_with (first | ((with_reducible refine gate_store (t := 45) (p := 4) (v := .tmp 57) rfl ?_); refine FR.out.s2 [.int .i64 7, .int .i64 q.line, .int .i64 q.col, .string ⟨#[]⟩, .slice Ay 1 cy, .slice none 0 0, .slice none 0 0] (by rfl) (by rfl) ?hr (by rfl) ?_; (case hr => first | (go_simp; done) | (go_simp; rfl)); intro HZW1 f_; replace FR := Aside0.mk f_; replace C := f_.c3; clear f_))
  refine bodyPost_ret (results_cell_row rfl _ _ b4 _ _ (0, 0) _ rfl FR.out.b2 Tryd.underlying45 rfl (by kernel_rfl)) rfl ?_
  exact FR.out.spost (x := ⟨7, q, ⟨#[]⟩, [x1], [], []⟩) rfl (Foot.imp FR.out.v1 fun W h => kStmt_mk W ⟨7, q, ⟨#[]⟩, [x1], [], []⟩ h.1 h.2 (Nat.le_refl _) (Kd.C_nil kStmt W) (Nat.le_refl _) (Kd.C_nil kStmt W))

theorem turn_step {a : GA} {g : Nat} {p : Ps} (G : Good a g p) (q : Pos) (s : PS) (x : Stmt) (s' : PS) (w : World) (h : PSt a g s w) (hx : psTurn p q s = some (x, s')) :
    Calls Tryd.prog 75 #[.pointer (some ⟨g, 0, none⟩), .agg #[.int .i64 0, .int .i64 q.line, .int .i64 q.col, .string ⟨#[]⟩, .slice none 0 0, .slice none 0 0, .slice none 0 0]] w (SPost a g w x s') := by
  unfold psTurn at hx
  obtain ⟨⟨x1, s1⟩, h1, hx⟩ := Option.bind_eq_some_iff.1 hx
  simp only [] at hx
  cases hb : s1.bad with
  | true =>
    rw [hb, if_pos rfl] at hx
    obtain ⟨rfl, rfl⟩ := Prod.mk.inj (Option.some.inj hx)
    exact turn_bad G q s x1 s1 w h h1 hb
  | false =>
    rw [hb, if_neg (by decide)] at hx
    by_cases h3 : x1.kind = 3
    · cases ht : (s1.take [61]).1 with
      | true =>
        rw [if_pos ⟨h3, ht⟩] at hx
        obtain ⟨⟨x2, s2⟩, h2, hx⟩ := Option.bind_eq_some_iff.1 hx
        obtain ⟨rfl, rfl⟩ := Prod.mk.inj (Option.some.inj hx)
        exact turn_var G q s x1 s1 w h h1 hb h3 ht x2 s2 h2
      | false =>
        rw [if_neg (fun h => by rw [ht] at h; cases h.2), if_neg (fun h => by have := h.1; omega), if_neg (by omega)] at hx
        obtain ⟨rfl, rfl⟩ := Prod.mk.inj (Option.some.inj hx)
        exact turn_fail3 G q s x1 s1 w h h1 hb h3 ht
    · rw [if_neg (fun h => h3 h.1)] at hx
      by_cases h4 : x1.kind = 4
      · cases ht : (s1.take [61]).1 with
        | true =>
          rw [if_pos ⟨h4, ht⟩] at hx
          cases hkd : x1.kids with
          | nil => rw [hkd] at hx; cases hx
          | cons k0 kr =>
            rw [hkd] at hx
            obtain ⟨⟨x2, s2⟩, h2, hx⟩ := Option.bind_eq_some_iff.1 hx
            obtain ⟨rfl, rfl⟩ := Prod.mk.inj (Option.some.inj hx)
            exact turn_at G q s x1 s1 w h h1 hb h4 ht k0 kr hkd x2 s2 h2
        | false =>
          rw [if_neg (fun h => by rw [ht] at h; cases h.2), if_neg (by omega)] at hx
          obtain ⟨rfl, rfl⟩ := Prod.mk.inj (Option.some.inj hx)
          exact turn_fail4 G q s x1 s1 w h h1 hb h4 ht
      · rw [if_neg (fun h => h4 h.1)] at hx
        by_cases h5 : x1.kind = 5
        · rw [if_pos h5] at hx
          obtain ⟨rfl, rfl⟩ := Prod.mk.inj (Option.some.inj hx)
          exact turn_call G q s x1 s1 w h h1 hb h5
        · rw [if_neg h5] at hx
          obtain ⟨rfl, rfl⟩ := Prod.mk.inj (Option.some.inj hx)
          exact turn_fail G q s x1 s1 w h h1 hb h3 h4 h5
end Go.Proofs.YtgenlgfbjlclbaaDoor
