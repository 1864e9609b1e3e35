/- The document's example, which each law asks first. -/
import Derived.Test.YtgenlgfbjlclbaaDoorPsP
import Derived.Test.YtgenlgfbjlclbaaDoorText
namespace Go.Proofs.YtgenlgfbjlclbaaDoor
open Go.RowKit Go.Proofs.YtgenlgfbjlclbaaDoorW.PrintWords Go.Proofs.YtgenlgfbjlclbaaDoorW.PrintLast Go.Proofs.YtgenlgfbjlclbaaDoorW.PrintMore
set_option linter.unusedVariables false
set_option linter.unusedSimpArgs false

/-- The first expression of the first statement of the first function. -/
theorem prog_first {W : World} {pr : Prog} {A0 A1 : Option Addr} {n0 c0 n1 c1 : Nat} {F : Fun} {fr : List Fun} {S : Stmt} {sr : List Stmt} {E : Expr} {er : List Expr} (h : kProg.K W pr [.slice A0 n0 c0, .slice A1 n1 c1]) (hf : pr.funcs = F :: fr) (hb : F.body = S :: sr) (he : S.es = E :: er) :
    ∃ ad1 ad2 ad3 d2 d3 A6 c6, A1 = some ad1 ∧ W.cell? ⟨ad1.block, ad1.off + 2, none⟩ = some (.slice (some ad2) F.body.length d2) ∧ W.cell? ⟨ad2.block, ad2.off + 4, none⟩ = some (.slice (some ad3) S.es.length d3) ∧
      (W.cell? ad3 = some (.int .i64 E.kind) ∧ W.cell? ⟨ad3.block, ad3.off + 1, none⟩ = some (.int .i64 E.pos.line) ∧ W.cell? ⟨ad3.block, ad3.off + 2, none⟩ = some (.int .i64 E.pos.col) ∧ W.cell? ⟨ad3.block, ad3.off + 3, none⟩ = some (.int .i64 E.num) ∧ W.cell? ⟨ad3.block, ad3.off + 4, none⟩ = some (.string E.name) ∧ W.cell? ⟨ad3.block, ad3.off + 5, none⟩ = some (.int .i64 E.op) ∧ W.cell? ⟨ad3.block, ad3.off + 6, none⟩ = some (.slice A6 E.kids.length c6)) ∧ kExpr.K W E [.int .i64 E.kind, .int .i64 E.pos.line, .int .i64 E.pos.col, .int .i64 E.num, .string E.name, .int .i64 E.op, .slice A6 E.kids.length c6] := by
  obtain ⟨B0, e0, B1, e1, hcs, _, _, hl, hC⟩ := kProg_open h
  simp only [List.cons.injEq, Value.slice.injEq, and_true] at hcs
  obtain ⟨_, rfl, hn1, rfl⟩ := hcs
  have h1 : ((0 : Nat) : Int) < (pr.funcs.length : Int) := by rw [hf]; simp
  obtain ⟨ad1, P1, q1, P2, q2, hA, f0, f1, f2, f3, f4, _, _, _, hB⟩ := atFun hC 0 (by decide) h1
  have r1 : rdFun pr.funcs 0 = F := by rw [hf]; rfl
  have z1 : ad1.add (Int.toNat 0 * 5) = ad1 := Addr.add_zero' ad1
  rw [z1, r1] at f2
  rw [r1] at hB
  have h2 : ((0 : Nat) : Int) < (F.body.length : Int) := by rw [hb]; simp
  obtain ⟨ad2, Q1, k1, Q2, k2, Q3, k3, hA2, s0, s1, s2, s3, s4, s5, s6, _, hE, _⟩ := atStmt hB 0 (by decide) h2
  have r2 : rdStmt F.body 0 = S := by rw [hb]; rfl
  have z2 : ad2.add (Int.toNat 0 * 7) = ad2 := Addr.add_zero' ad2
  rw [z2, r2] at s4
  rw [r2] at hE
  have h3 : ((0 : Nat) : Int) < (S.es.length : Int) := by rw [he]; simp
  obtain ⟨ad3, A6, c6, hA3, e0, e1, e2, e3, e4, e5, e6, n3, hk, hK⟩ := atExpr hE 0 (by decide) h3
  have r3 : rdExpr S.es 0 = E := by rw [he]; rfl
  have z3 : ad3.add (Int.toNat 0 * 7) = ad3 := Addr.add_zero' ad3
  rw [z3, r3] at e0 e1 e2 e3 e4 e5 e6
  rw [r3] at n3 hk hK
  subst hA2 hA3
  exact ⟨ad1, ad2, ad3, q2, k1, A6, c6, hA, f2, s4, ⟨e0, e1, e2, e3, e4, e5, e6⟩, kExpr_mk W E n3 hk hK⟩
theorem Fq.n1 {B : Nat → Prop} {w0 w : World} {os : List Ow} {vs : List Vl} {u1 : Vl} (F : Fq B w0 os (u1 :: vs) w) : u1.P w := Foot.now (F.val _ (.head _)).1
theorem Fq.n2 {B : Nat → Prop} {w0 w : World} {os : List Ow} {vs : List Vl} {u1 u2 : Vl} (F : Fq B w0 os (u1 :: u2 :: vs) w) : u2.P w := Foot.now (F.val _ (.tail _ (.head _))).1
theorem Fq.n3 {B : Nat → Prop} {w0 w : World} {os : List Ow} {vs : List Vl} {u1 u2 u3 : Vl} (F : Fq B w0 os (u1 :: u2 :: u3 :: vs) w) : u3.P w := Foot.now (F.val _ (.tail _ (.tail _ (.head _)))).1
theorem Fq.pc {B : Nat → Prop} {w0 w : World} {os : List Ow} {vs : List Vl} (F : Fq B w0 os vs w) {f : FuncId} {args : Array Value} {pr : Prog} {fl : Fault}
    (h : Calls Tryd.prog f args w (fun e w' => ∃ A0 c0 A1 c1, e = .returned (.tuple #[.agg #[.slice A0 pr.globals.length c0, .slice A1 pr.funcs.length c1], .agg #[.int .i64 fl.e, .int .i64 fl.pos.line, .int .i64 fl.pos.col]]) ∧ Kd.FK kProg w' (fun k => w.heap.size ≤ k) pr [.slice A0 pr.globals.length c0, .slice A1 pr.funcs.length c1] ∧ Below w.heap.size w w')) :
    Calls Tryd.prog f args w (fun e w' => ∃ A0 c0 A1 c1 ok, e = .returned (.tuple #[.agg #[.slice A0 pr.globals.length c0, .slice A1 pr.funcs.length c1], .agg #[.int .i64 fl.e, .int .i64 fl.pos.line, .int .i64 fl.pos.col]]) ∧ Fq B w0 os (⟨ok, fun W => kProg.K W pr [.slice A0 pr.globals.length c0, .slice A1 pr.funcs.length c1]⟩ :: vs) w') :=
  h.mono (fun e w' h => by
    obtain ⟨A0, c0, A1, c1, he, hf, hb⟩ := h
    obtain ⟨ok, F'⟩ := F.more hb hf
    exact ⟨A0, c0, A1, c1, ok, he, F'⟩)
def headB : Bytes := [102, 117, 110, 99, 32, 109, 97, 105, 110, 40, 41, 32, 123, 32, 114, 101, 116, 117, 114, 110, 32, 49, 32, 43, 32, 50, 32, 42, 32, 51, 59, 32, 125]
def hN (q : Int) (n : Int) : Expr := ⟨1, ⟨1, q⟩, n, ⟨#[]⟩, 0, []⟩
def hE0 : Expr := ⟨6, ⟨1, 24⟩, 0, ⟨#[]⟩, 1, [hN 22 1, ⟨6, ⟨1, 28⟩, 0, ⟨#[]⟩, 3, [hN 26 2, hN 30 3]⟩]⟩
def hS0 : Stmt := ⟨6, ⟨1, 15⟩, ⟨#[]⟩, [hE0], [], []⟩
def hF0 : Fun := ⟨⟨#[109, 97, 105, 110]⟩, [], [hS0], ⟨1, 6⟩⟩
set_option maxRecDepth 100000 in
theorem head_parse : parseF 100 headB = some (⟨[], [hF0]⟩, zFault) := by kernel_rfl
theorem head_etext : bs (etext hE0) = ⟨#[40, 49, 32, 43, 32, 40, 50, 32, 42, 32, 51, 41, 41]⟩ := by kernel_rfl
theorem head_fit : Fit 140737488355328 hE0 := by
  refine ⟨by decide +kernel, ?_, ⟨by decide +kernel, ?_, ?_, trivial⟩, trivial⟩
  all_goals exact ⟨by decide +kernel, trivial⟩
theorem head_slim : Slim 8000000000000 hE0 := by
  refine ⟨by decide, ?_, ⟨by decide, ?_, ?_, trivial⟩, trivial⟩
  all_goals exact ⟨by decide, trivial⟩

set_option maxRecDepth 100000 in
set_option maxHeartbeats 6400000 in
theorem head_calls {ga : GA} {N : Nat} (w : World) (hG : GP ga N w) : Calls Tryd.prog 9 #[] w fun e w' => e = .returned (.bool true) ∧ Below w.heap.size w w' := by
  have FR := Aside0.mk (Fq.start (w := w) (fun k => w.heap.size ≤ k) (fun _ h => h))
  have C := FR.out.c0
  have HP := Lib.hid head_parse
  have hz : zFault.e = 0 ∧ zFault.pos.line = 0 ∧ zFault.pos.col = 0 := ⟨rfl, rfl, rfl⟩
  go_enter Tryd.func9, Tryd.ntmps9
  go_wp2_with (first | (go_at_call 10; (with_reducible refine (FR.out.pc (program_calls 100 (by decide) _ _ (hG.below FR.out.bl) _ _ HP.out)).mono ?_); rintro e AW1 ⟨A0, c0, A1, c1, ok1, rfl, f_⟩; replace FR := Aside0.mk f_; replace C := f_.c0; clear f_) | ((with_reducible refine gate_dst (N := 1) rfl ?_); refine FR.out.boxE (N := 1) #[.slice none 0 0, .slice none 0 0] 30 (by rfl) (by rfl) ?hr ?_; (case hr => first | (go_simp; done) | (go_simp; rfl)); intro b1 AW2 f_; replace FR := Aside0.mk f_; replace C := f_.c1; clear f_) | ((with_reducible refine gate_dst (N := 2) rfl ?_); refine FR.out.boxE (N := 2) #[.int .i64 0, .int .i64 0, .int .i64 0] 34 (by rfl) (by rfl) ?hr ?_; (case hr => first | (go_simp; done) | (go_simp; rfl)); intro b2 AW3 f_; replace FR := Aside0.mk f_; replace C := f_.c2; clear f_) | ((with_reducible refine gate_store (t := 30) (p := 1) (v := .tmp 5) rfl ?_); refine FR.out.s2 [.slice A0 0 c0, .slice A1 1 c1] (by rfl) (by rfl) ?hr (by rfl) ?_; (case hr => first | (go_simp; done) | (go_simp; rfl)); intro AW4 f_; replace FR := Aside0.mk f_; replace C := f_.c2; clear f_) | ((with_reducible refine gate_store (t := 34) (p := 2) (v := .tmp 6) rfl ?_); refine FR.out.s1 [.int .i64 0, .int .i64 0, .int .i64 0] (by rfl) (by rfl) ?hr (by rfl) ?_; (case hr => first | (go_simp; done) | (go_simp; rfl)); intro AW5 f_; replace FR := Aside0.mk f_; replace C := f_.c2; clear f_; obtain ⟨ad1, ad2, ad3, d2, d3, A6, c6, rfl, g1, g2, g3, g4⟩ := prog_first (F := hF0) (S := hS0) (E := hE0) FR.out.n1 rfl rfl rfl; have HK := Lib.hid g4; clear g4) | (go_at_call 15; (refine (FR.out.bc ((text_calls _ hE0 (Nat.le_refl _) head_fit head_slim _ _ HK.out (hG.below FR.out.bl).now.glob))).mono ?_); rintro e AW6 ⟨rfl, f_⟩; rw [head_etext]; replace FR := Aside0.mk f_; clear f_))
  go_ret
  exact ⟨rfl, FR.out.bl⟩
end Go.Proofs.YtgenlgfbjlclbaaDoor
