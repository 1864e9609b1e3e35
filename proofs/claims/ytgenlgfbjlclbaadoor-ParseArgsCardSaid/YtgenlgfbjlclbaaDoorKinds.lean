/- The kinds of the syntax trees: what the cells of their structs say. -/
import Derived.Test.YtgenlgfbjlclbaaDoorGlob
import Derived.Test.YtgenlgfbjlclbaaDoorWWords
import Derived.Test.YtgenlgfbjlclbaaDoorWLast
import Derived.Test.YtgenlgfbjlclbaaDoorWMore
namespace Go.Proofs.YtgenlgfbjlclbaaDoor
open Go.RowKit Go.Proofs.YtgenlgfbjlclbaaDoorW.PrintWords Go.Proofs.YtgenlgfbjlclbaaDoorW.PrintLast Go.Proofs.YtgenlgfbjlclbaaDoorW.PrintMore
set_option linter.unusedVariables false

/-- A number of 64 bits that fits. -/
def Wf64 (x : Int) : Prop := -9223372036854775808 ≤ x ∧ x ≤ 9223372036854775807
/-- A cell that holds such a number. -/
def kNum : Kd Int where
  sz := 1
  E := []
  K := fun _ x cs => cs = [.int .i64 x] ∧ Wf64 x
  M := fun _ _ _ x cs => cs = [.int .i64 x] ∧ Wf64 x
  K_len := fun h => by rw [h.1]; rfl
  K_one := fun h u hu => by
    rw [h.1] at hu
    rw [List.mem_singleton.1 hu]
    rfl
  K_below := fun _ h => h
  K_of_M := fun h => h
  M_mono := fun _ h => h
  M_bound := fun h => h
  M_move := fun _ h => h
  M_lower := fun _ h => h

/-! ### api.Pos -/
structure Pos where
  line : Int
  col : Int
def zPos : Pos := ⟨(0 : Int), (0 : Int)⟩
def kPos : Kd Pos := Kd.iso (Kd.pair (Kd.int .i64) (Kd.int .i64)) (fun x : Pos => (x.line, x.col))
theorem kPos_open {w : World} {x : Pos} {cs : List Value} (h : kPos.K w x cs) : cs = [.int .i64 x.line, .int .i64 x.col] := by
  obtain ⟨_, _, rfl, rfl, rfl⟩ := h
  exact rfl
theorem kPos_openM {w : World} {base : Nat} {ok : Nat → Prop} {x : Pos} {cs : List Value} (h : kPos.M w base ok x cs) : cs = [.int .i64 x.line, .int .i64 x.col] := by
  obtain ⟨_, _, rfl, rfl, rfl⟩ := h
  exact rfl
theorem kPos_mk (w : World) (x : Pos) : kPos.K w x [.int .i64 x.line, .int .i64 x.col] := by
  exact ⟨[.int .i64 x.line], [.int .i64 x.col], rfl, rfl, rfl⟩
theorem kPos_mkM (w : World) (base : Nat) (ok : Nat → Prop) (x : Pos) : kPos.M w base ok x [.int .i64 x.line, .int .i64 x.col] := by
  exact ⟨[.int .i64 x.line], [.int .i64 x.col], rfl, rfl, rfl⟩
def rdPos (xs : List Pos) (i : Int) : Pos := xs.getD i.toNat zPos
theorem atPos {w : World} {A : Option Addr} {n : Nat} {xs : List Pos} (h : Kd.C kPos w A n xs) (i : Int) (h0 : 0 ≤ i) (h1 : i < n) : ∃ ad , A = some ad ∧ w.cell? (ad.add (i.toNat * 2)) = some (.int .i64 (rdPos xs i).line) ∧ w.cell? ⟨(ad.add (i.toNat * 2)).block, (ad.add (i.toNat * 2)).off + 1, none⟩ = some (.int .i64 (rdPos xs i).col) := by
  obtain ⟨ad, c, e, _, hK, hc0⟩ := Kd.C_get h zPos i h0 h1
  have hc : ∀ j u, c[j]? = some u → w.cell? (ad.add (i.toNat * 2 + j)) = some u := hc0
  obtain rfl := kPos_open hK
  exact ⟨ad, e, hc 0 _ rfl, by rw [← add_field _ _ 1 (by omega)]; exact hc 1 _ rfl⟩

/-! ### ast.Expr -/
structure Expr where
  kind : Int
  pos : Pos
  num : Int
  name : ByteArray
  op : Int
  kids : List Expr
def zExpr : Expr := ⟨(0 : Int), zPos, (0 : Int), ByteArray.empty, (0 : Int), []⟩
def FExpr (d : Kd Expr) : Kd Expr := Kd.iso (Kd.pair (Kd.int .i64) (Kd.pair (kPos) (Kd.pair (kNum) (Kd.pair (Kd.string) (Kd.pair (Kd.int .i64) (Kd.slice 51 d)))))) (fun x : Expr => (x.kind, x.pos, x.num, x.name, x.op, x.kids))
theorem monoExpr : Kd.Mono FExpr := Kd.mono_iso _ (Kd.mono_pair (Kd.mono_const _) (Kd.mono_pair (Kd.mono_const _) (Kd.mono_pair (Kd.mono_const _) (Kd.mono_pair (Kd.mono_const _) (Kd.mono_pair (Kd.mono_const _) (Kd.mono_slice 51 Kd.mono_id))))))
theorem subExpr : Kd.Sub FExpr [51] := Kd.sub_iso _ (Kd.sub_pair (Kd.sub_const _ (by decide)) (Kd.sub_pair (Kd.sub_const _ (by decide)) (Kd.sub_pair (Kd.sub_const _ (by decide)) (Kd.sub_pair (Kd.sub_const _ (by decide)) (Kd.sub_pair (Kd.sub_const _ (by decide)) (Kd.sub_slice 51 (by decide) Kd.sub_id))))))
theorem szExpr : ∀ n, (Kd.upto FExpr 7 [51] n).sz = 7 := Kd.upto_sz (fun _ => rfl)
def kExpr : Kd Expr := Kd.fix FExpr 7 [51] szExpr (Kd.upto_E subExpr)
theorem kExpr_open {w : World} {x : Expr} {cs : List Value} (h : kExpr.K w x cs) : ∃ A6 c6, cs = [.int .i64 x.kind, .int .i64 x.pos.line, .int .i64 x.pos.col, .int .i64 x.num, .string x.name, .int .i64 x.op, .slice A6 x.kids.length c6] ∧ Wf64 x.num ∧ x.kids.length ≤ c6 ∧ kExpr.C w A6 x.kids.length x.kids := by
  obtain ⟨n, h⟩ := h
  cases n with
  | zero => exact h.elim
  | succ n =>
    obtain ⟨_, _, rfl, rfl, ⟨_, _, rfl, s1, ⟨_, _, rfl, ⟨rfl, n3⟩, ⟨_, _, rfl, rfl, ⟨_, _, rfl, rfl, ⟨A6, c6, rfl, l6, g6⟩⟩⟩⟩⟩⟩ := h
    obtain rfl := kPos_open s1
    exact ⟨A6, c6, rfl, n3, l6, Kd.fix_C g6⟩
theorem kExpr_openM {w : World} {base : Nat} {ok : Nat → Prop} {x : Expr} {cs : List Value} (h : kExpr.M w base ok x cs) : ∃ v6, cs = [.int .i64 x.kind, .int .i64 x.pos.line, .int .i64 x.pos.col, .int .i64 x.num, .string x.name, .int .i64 x.op, v6] ∧ Wf64 x.num ∧ kExpr.R 51 w base ok v6 x.kids := by
  obtain ⟨n, h⟩ := h
  cases n with
  | zero => exact h.elim
  | succ n =>
    obtain ⟨_, _, rfl, rfl, ⟨_, _, rfl, s1, ⟨_, _, rfl, ⟨rfl, n3⟩, ⟨_, _, rfl, rfl, ⟨_, _, rfl, rfl, ⟨v6, rfl, g6⟩⟩⟩⟩⟩⟩ := h
    obtain rfl := kPos_openM s1
    exact ⟨v6, rfl, n3, Kd.fix_R g6⟩
theorem kExpr_mk (w : World) (x : Expr) (n3 : Wf64 x.num) {A6 : Option Addr} {c6 : Nat} (l6 : x.kids.length ≤ c6) (g6 : kExpr.C w A6 x.kids.length x.kids) : kExpr.K w x [.int .i64 x.kind, .int .i64 x.pos.line, .int .i64 x.pos.col, .int .i64 x.num, .string x.name, .int .i64 x.op, .slice A6 x.kids.length c6] := by
  obtain ⟨n6_, q6⟩ := Kd.fix_C_back monoExpr g6
  have r6 := Kd.upto_C_le monoExpr szExpr (show n6_ ≤ n6_ by omega) q6
  exact ⟨n6_ + 1, ⟨[.int .i64 x.kind], [.int .i64 x.pos.line, .int .i64 x.pos.col, .int .i64 x.num, .string x.name, .int .i64 x.op, .slice A6 x.kids.length c6], rfl, rfl, ⟨[.int .i64 x.pos.line, .int .i64 x.pos.col], [.int .i64 x.num, .string x.name, .int .i64 x.op, .slice A6 x.kids.length c6], rfl, kPos_mk w x.pos, ⟨[.int .i64 x.num], [.string x.name, .int .i64 x.op, .slice A6 x.kids.length c6], rfl, ⟨rfl, n3⟩, ⟨[.string x.name], [.int .i64 x.op, .slice A6 x.kids.length c6], rfl, rfl, ⟨[.int .i64 x.op], [.slice A6 x.kids.length c6], rfl, rfl, ⟨A6, c6, rfl, l6, r6⟩⟩⟩⟩⟩⟩⟩
theorem kExpr_mkM (w : World) (base : Nat) (ok : Nat → Prop) (x : Expr) (n3 : Wf64 x.num) {v6 : Value} (g6 : kExpr.R 51 w base ok v6 x.kids) : kExpr.M w base ok x [.int .i64 x.kind, .int .i64 x.pos.line, .int .i64 x.pos.col, .int .i64 x.num, .string x.name, .int .i64 x.op, v6] := by
  obtain ⟨n6_, q6⟩ := Kd.fix_R_back monoExpr g6
  have r6 := Kd.upto_R_le monoExpr szExpr (show n6_ ≤ n6_ by omega) q6
  exact ⟨n6_ + 1, ⟨[.int .i64 x.kind], [.int .i64 x.pos.line, .int .i64 x.pos.col, .int .i64 x.num, .string x.name, .int .i64 x.op, v6], rfl, rfl, ⟨[.int .i64 x.pos.line, .int .i64 x.pos.col], [.int .i64 x.num, .string x.name, .int .i64 x.op, v6], rfl, kPos_mkM w base ok x.pos, ⟨[.int .i64 x.num], [.string x.name, .int .i64 x.op, v6], rfl, ⟨rfl, n3⟩, ⟨[.string x.name], [.int .i64 x.op, v6], rfl, rfl, ⟨[.int .i64 x.op], [v6], rfl, rfl, ⟨v6, rfl, r6⟩⟩⟩⟩⟩⟩⟩
def rdExpr (xs : List Expr) (i : Int) : Expr := xs.getD i.toNat zExpr
theorem atExpr {w : World} {A : Option Addr} {n : Nat} {xs : List Expr} (h : Kd.C kExpr w A n xs) (i : Int) (h0 : 0 ≤ i) (h1 : i < n) : ∃ ad A6 c6, A = some ad ∧ w.cell? (ad.add (i.toNat * 7)) = some (.int .i64 (rdExpr xs i).kind) ∧ w.cell? ⟨(ad.add (i.toNat * 7)).block, (ad.add (i.toNat * 7)).off + 1, none⟩ = some (.int .i64 (rdExpr xs i).pos.line) ∧ w.cell? ⟨(ad.add (i.toNat * 7)).block, (ad.add (i.toNat * 7)).off + 2, none⟩ = some (.int .i64 (rdExpr xs i).pos.col) ∧ w.cell? ⟨(ad.add (i.toNat * 7)).block, (ad.add (i.toNat * 7)).off + 3, none⟩ = some (.int .i64 (rdExpr xs i).num) ∧ w.cell? ⟨(ad.add (i.toNat * 7)).block, (ad.add (i.toNat * 7)).off + 4, none⟩ = some (.string (rdExpr xs i).name) ∧ w.cell? ⟨(ad.add (i.toNat * 7)).block, (ad.add (i.toNat * 7)).off + 5, none⟩ = some (.int .i64 (rdExpr xs i).op) ∧ w.cell? ⟨(ad.add (i.toNat * 7)).block, (ad.add (i.toNat * 7)).off + 6, none⟩ = some (.slice A6 (rdExpr xs i).kids.length c6) ∧ Wf64 (rdExpr xs i).num ∧ (rdExpr xs i).kids.length ≤ c6 ∧ kExpr.C w A6 (rdExpr xs i).kids.length (rdExpr xs i).kids := by
  obtain ⟨ad, c, e, _, hK, hc0⟩ := Kd.C_get h zExpr i h0 h1
  have hc : ∀ j u, c[j]? = some u → w.cell? (ad.add (i.toNat * 7 + j)) = some u := hc0
  obtain ⟨A6, c6, rfl, n3, l6, g6⟩ := kExpr_open hK
  exact ⟨ad, A6, c6, e, hc 0 _ rfl, by rw [← add_field _ _ 1 (by omega)]; exact hc 1 _ rfl, by rw [← add_field _ _ 2 (by omega)]; exact hc 2 _ rfl, by rw [← add_field _ _ 3 (by omega)]; exact hc 3 _ rfl, by rw [← add_field _ _ 4 (by omega)]; exact hc 4 _ rfl, by rw [← add_field _ _ 5 (by omega)]; exact hc 5 _ rfl, by rw [← add_field _ _ 6 (by omega)]; exact hc 6 _ rfl, n3, l6, g6⟩

/-! ### ast.Stmt -/
structure Stmt where
  does : Int
  pos : Pos
  name : ByteArray
  es : List Expr
  thens : List Stmt
  elses : List Stmt
def zStmt : Stmt := ⟨(0 : Int), zPos, ByteArray.empty, [], [], []⟩
def FStmt (d : Kd Stmt) : Kd Stmt := Kd.iso (Kd.pair (Kd.int .i64) (Kd.pair (kPos) (Kd.pair (Kd.string) (Kd.pair (Kd.slice 51 kExpr) (Kd.pair (Kd.slice 45 d) (Kd.slice 45 d)))))) (fun x : Stmt => (x.does, x.pos, x.name, x.es, x.thens, x.elses))
theorem monoStmt : Kd.Mono FStmt := Kd.mono_iso _ (Kd.mono_pair (Kd.mono_const _) (Kd.mono_pair (Kd.mono_const _) (Kd.mono_pair (Kd.mono_const _) (Kd.mono_pair (Kd.mono_const _) (Kd.mono_pair (Kd.mono_slice 45 Kd.mono_id) (Kd.mono_slice 45 Kd.mono_id))))))
theorem subStmt : Kd.Sub FStmt [51, 45] := Kd.sub_iso _ (Kd.sub_pair (Kd.sub_const _ (by decide)) (Kd.sub_pair (Kd.sub_const _ (by decide)) (Kd.sub_pair (Kd.sub_const _ (by decide)) (Kd.sub_pair (Kd.sub_const _ (by decide)) (Kd.sub_pair (Kd.sub_slice 45 (by decide) Kd.sub_id) (Kd.sub_slice 45 (by decide) Kd.sub_id))))))
theorem szStmt : ∀ n, (Kd.upto FStmt 7 [51, 45] n).sz = 7 := Kd.upto_sz (fun _ => rfl)
def kStmt : Kd Stmt := Kd.fix FStmt 7 [51, 45] szStmt (Kd.upto_E subStmt)
theorem kStmt_open {w : World} {x : Stmt} {cs : List Value} (h : kStmt.K w x cs) : ∃ A4 c4 A5 c5 A6 c6, cs = [.int .i64 x.does, .int .i64 x.pos.line, .int .i64 x.pos.col, .string x.name, .slice A4 x.es.length c4, .slice A5 x.thens.length c5, .slice A6 x.elses.length c6] ∧ x.es.length ≤ c4 ∧ kExpr.C w A4 x.es.length x.es ∧ x.thens.length ≤ c5 ∧ kStmt.C w A5 x.thens.length x.thens ∧ x.elses.length ≤ c6 ∧ kStmt.C w A6 x.elses.length x.elses := by
  obtain ⟨n, h⟩ := h
  cases n with
  | zero => exact h.elim
  | succ n =>
    obtain ⟨_, _, rfl, rfl, ⟨_, _, rfl, s1, ⟨_, _, rfl, rfl, ⟨_, _, rfl, ⟨A4, c4, rfl, l4, g4⟩, ⟨_, _, rfl, ⟨A5, c5, rfl, l5, g5⟩, ⟨A6, c6, rfl, l6, g6⟩⟩⟩⟩⟩⟩ := h
    obtain rfl := kPos_open s1
    exact ⟨A4, c4, A5, c5, A6, c6, rfl, l4, g4, l5, Kd.fix_C g5, l6, Kd.fix_C g6⟩
theorem kStmt_openM {w : World} {base : Nat} {ok : Nat → Prop} {x : Stmt} {cs : List Value} (h : kStmt.M w base ok x cs) : ∃ v4 v5 v6, cs = [.int .i64 x.does, .int .i64 x.pos.line, .int .i64 x.pos.col, .string x.name, v4, v5, v6] ∧ kExpr.R 51 w base ok v4 x.es ∧ kStmt.R 45 w base ok v5 x.thens ∧ kStmt.R 45 w base ok v6 x.elses := by
  obtain ⟨n, h⟩ := h
  cases n with
  | zero => exact h.elim
  | succ n =>
    obtain ⟨_, _, rfl, rfl, ⟨_, _, rfl, s1, ⟨_, _, rfl, rfl, ⟨_, _, rfl, ⟨v4, rfl, g4⟩, ⟨_, _, rfl, ⟨v5, rfl, g5⟩, ⟨v6, rfl, g6⟩⟩⟩⟩⟩⟩ := h
    obtain rfl := kPos_openM s1
    exact ⟨v4, v5, v6, rfl, g4, Kd.fix_R g5, Kd.fix_R g6⟩
theorem kStmt_mk (w : World) (x : Stmt) {A4 : Option Addr} {c4 : Nat} (l4 : x.es.length ≤ c4) (g4 : kExpr.C w A4 x.es.length x.es) {A5 : Option Addr} {c5 : Nat} (l5 : x.thens.length ≤ c5) (g5 : kStmt.C w A5 x.thens.length x.thens) {A6 : Option Addr} {c6 : Nat} (l6 : x.elses.length ≤ c6) (g6 : kStmt.C w A6 x.elses.length x.elses) : kStmt.K w x [.int .i64 x.does, .int .i64 x.pos.line, .int .i64 x.pos.col, .string x.name, .slice A4 x.es.length c4, .slice A5 x.thens.length c5, .slice A6 x.elses.length c6] := by
  obtain ⟨n5_, q5⟩ := Kd.fix_C_back monoStmt g5
  obtain ⟨n6_, q6⟩ := Kd.fix_C_back monoStmt g6
  have r5 := Kd.upto_C_le monoStmt szStmt (show n5_ ≤ (max n5_ n6_) by omega) q5
  have r6 := Kd.upto_C_le monoStmt szStmt (show n6_ ≤ (max n5_ n6_) by omega) q6
  exact ⟨(max n5_ n6_) + 1, ⟨[.int .i64 x.does], [.int .i64 x.pos.line, .int .i64 x.pos.col, .string x.name, .slice A4 x.es.length c4, .slice A5 x.thens.length c5, .slice A6 x.elses.length c6], rfl, rfl, ⟨[.int .i64 x.pos.line, .int .i64 x.pos.col], [.string x.name, .slice A4 x.es.length c4, .slice A5 x.thens.length c5, .slice A6 x.elses.length c6], rfl, kPos_mk w x.pos, ⟨[.string x.name], [.slice A4 x.es.length c4, .slice A5 x.thens.length c5, .slice A6 x.elses.length c6], rfl, rfl, ⟨[.slice A4 x.es.length c4], [.slice A5 x.thens.length c5, .slice A6 x.elses.length c6], rfl, ⟨A4, c4, rfl, l4, g4⟩, ⟨[.slice A5 x.thens.length c5], [.slice A6 x.elses.length c6], rfl, ⟨A5, c5, rfl, l5, r5⟩, ⟨A6, c6, rfl, l6, r6⟩⟩⟩⟩⟩⟩⟩
theorem kStmt_mkM (w : World) (base : Nat) (ok : Nat → Prop) (x : Stmt) {v4 : Value} (g4 : kExpr.R 51 w base ok v4 x.es) {v5 : Value} (g5 : kStmt.R 45 w base ok v5 x.thens) {v6 : Value} (g6 : kStmt.R 45 w base ok v6 x.elses) : kStmt.M w base ok x [.int .i64 x.does, .int .i64 x.pos.line, .int .i64 x.pos.col, .string x.name, v4, v5, v6] := by
  obtain ⟨n5_, q5⟩ := Kd.fix_R_back monoStmt g5
  obtain ⟨n6_, q6⟩ := Kd.fix_R_back monoStmt g6
  have r5 := Kd.upto_R_le monoStmt szStmt (show n5_ ≤ (max n5_ n6_) by omega) q5
  have r6 := Kd.upto_R_le monoStmt szStmt (show n6_ ≤ (max n5_ n6_) by omega) q6
  exact ⟨(max n5_ n6_) + 1, ⟨[.int .i64 x.does], [.int .i64 x.pos.line, .int .i64 x.pos.col, .string x.name, v4, v5, v6], rfl, rfl, ⟨[.int .i64 x.pos.line, .int .i64 x.pos.col], [.string x.name, v4, v5, v6], rfl, kPos_mkM w base ok x.pos, ⟨[.string x.name], [v4, v5, v6], rfl, rfl, ⟨[v4], [v5, v6], rfl, ⟨v4, rfl, g4⟩, ⟨[v5], [v6], rfl, ⟨v5, rfl, r5⟩, ⟨v6, rfl, r6⟩⟩⟩⟩⟩⟩⟩
def rdStmt (xs : List Stmt) (i : Int) : Stmt := xs.getD i.toNat zStmt
theorem atStmt {w : World} {A : Option Addr} {n : Nat} {xs : List Stmt} (h : Kd.C kStmt w A n xs) (i : Int) (h0 : 0 ≤ i) (h1 : i < n) : ∃ ad A4 c4 A5 c5 A6 c6, A = some ad ∧ w.cell? (ad.add (i.toNat * 7)) = some (.int .i64 (rdStmt xs i).does) ∧ w.cell? ⟨(ad.add (i.toNat * 7)).block, (ad.add (i.toNat * 7)).off + 1, none⟩ = some (.int .i64 (rdStmt xs i).pos.line) ∧ w.cell? ⟨(ad.add (i.toNat * 7)).block, (ad.add (i.toNat * 7)).off + 2, none⟩ = some (.int .i64 (rdStmt xs i).pos.col) ∧ w.cell? ⟨(ad.add (i.toNat * 7)).block, (ad.add (i.toNat * 7)).off + 3, none⟩ = some (.string (rdStmt xs i).name) ∧ w.cell? ⟨(ad.add (i.toNat * 7)).block, (ad.add (i.toNat * 7)).off + 4, none⟩ = some (.slice A4 (rdStmt xs i).es.length c4) ∧ w.cell? ⟨(ad.add (i.toNat * 7)).block, (ad.add (i.toNat * 7)).off + 5, none⟩ = some (.slice A5 (rdStmt xs i).thens.length c5) ∧ w.cell? ⟨(ad.add (i.toNat * 7)).block, (ad.add (i.toNat * 7)).off + 6, none⟩ = some (.slice A6 (rdStmt xs i).elses.length c6) ∧ (rdStmt xs i).es.length ≤ c4 ∧ kExpr.C w A4 (rdStmt xs i).es.length (rdStmt xs i).es ∧ (rdStmt xs i).thens.length ≤ c5 ∧ kStmt.C w A5 (rdStmt xs i).thens.length (rdStmt xs i).thens ∧ (rdStmt xs i).elses.length ≤ c6 ∧ kStmt.C w A6 (rdStmt xs i).elses.length (rdStmt xs i).elses := by
  obtain ⟨ad, c, e, _, hK, hc0⟩ := Kd.C_get h zStmt i h0 h1
  have hc : ∀ j u, c[j]? = some u → w.cell? (ad.add (i.toNat * 7 + j)) = some u := hc0
  obtain ⟨A4, c4, A5, c5, A6, c6, rfl, l4, g4, l5, g5, l6, g6⟩ := kStmt_open hK
  exact ⟨ad, A4, c4, A5, c5, A6, c6, e, hc 0 _ rfl, by rw [← add_field _ _ 1 (by omega)]; exact hc 1 _ rfl, by rw [← add_field _ _ 2 (by omega)]; exact hc 2 _ rfl, by rw [← add_field _ _ 3 (by omega)]; exact hc 3 _ rfl, by rw [← add_field _ _ 4 (by omega)]; exact hc 4 _ rfl, by rw [← add_field _ _ 5 (by omega)]; exact hc 5 _ rfl, by rw [← add_field _ _ 6 (by omega)]; exact hc 6 _ rfl, l4, g4, l5, g5, l6, g6⟩

/-! ### ast.Global -/
structure Global where
  name : ByteArray
  hold : Int
  size : Int
  pos : Pos
def zGlobal : Global := ⟨ByteArray.empty, (0 : Int), (0 : Int), zPos⟩
def kGlobal : Kd Global := Kd.iso (Kd.pair (Kd.string) (Kd.pair (Kd.int .i64) (Kd.pair (kNum) (kPos)))) (fun x : Global => (x.name, x.hold, x.size, x.pos))
theorem kGlobal_open {w : World} {x : Global} {cs : List Value} (h : kGlobal.K w x cs) : cs = [.string x.name, .int .i64 x.hold, .int .i64 x.size, .int .i64 x.pos.line, .int .i64 x.pos.col] ∧ Wf64 x.size := by
  obtain ⟨_, _, rfl, rfl, ⟨_, _, rfl, rfl, ⟨_, _, rfl, ⟨rfl, n2⟩, s3⟩⟩⟩ := h
  obtain rfl := kPos_open s3
  exact ⟨rfl, n2⟩
theorem kGlobal_openM {w : World} {base : Nat} {ok : Nat → Prop} {x : Global} {cs : List Value} (h : kGlobal.M w base ok x cs) : cs = [.string x.name, .int .i64 x.hold, .int .i64 x.size, .int .i64 x.pos.line, .int .i64 x.pos.col] ∧ Wf64 x.size := by
  obtain ⟨_, _, rfl, rfl, ⟨_, _, rfl, rfl, ⟨_, _, rfl, ⟨rfl, n2⟩, s3⟩⟩⟩ := h
  obtain rfl := kPos_openM s3
  exact ⟨rfl, n2⟩
theorem kGlobal_mk (w : World) (x : Global) (n2 : Wf64 x.size) : kGlobal.K w x [.string x.name, .int .i64 x.hold, .int .i64 x.size, .int .i64 x.pos.line, .int .i64 x.pos.col] := by
  exact ⟨[.string x.name], [.int .i64 x.hold, .int .i64 x.size, .int .i64 x.pos.line, .int .i64 x.pos.col], rfl, rfl, ⟨[.int .i64 x.hold], [.int .i64 x.size, .int .i64 x.pos.line, .int .i64 x.pos.col], rfl, rfl, ⟨[.int .i64 x.size], [.int .i64 x.pos.line, .int .i64 x.pos.col], rfl, ⟨rfl, n2⟩, kPos_mk w x.pos⟩⟩⟩
theorem kGlobal_mkM (w : World) (base : Nat) (ok : Nat → Prop) (x : Global) (n2 : Wf64 x.size) : kGlobal.M w base ok x [.string x.name, .int .i64 x.hold, .int .i64 x.size, .int .i64 x.pos.line, .int .i64 x.pos.col] := by
  exact ⟨[.string x.name], [.int .i64 x.hold, .int .i64 x.size, .int .i64 x.pos.line, .int .i64 x.pos.col], rfl, rfl, ⟨[.int .i64 x.hold], [.int .i64 x.size, .int .i64 x.pos.line, .int .i64 x.pos.col], rfl, rfl, ⟨[.int .i64 x.size], [.int .i64 x.pos.line, .int .i64 x.pos.col], rfl, ⟨rfl, n2⟩, kPos_mkM w base ok x.pos⟩⟩⟩
def rdGlobal (xs : List Global) (i : Int) : Global := xs.getD i.toNat zGlobal
theorem atGlobal {w : World} {A : Option Addr} {n : Nat} {xs : List Global} (h : Kd.C kGlobal w A n xs) (i : Int) (h0 : 0 ≤ i) (h1 : i < n) : ∃ ad , A = some ad ∧ w.cell? (ad.add (i.toNat * 5)) = some (.string (rdGlobal xs i).name) ∧ w.cell? ⟨(ad.add (i.toNat * 5)).block, (ad.add (i.toNat * 5)).off + 1, none⟩ = some (.int .i64 (rdGlobal xs i).hold) ∧ w.cell? ⟨(ad.add (i.toNat * 5)).block, (ad.add (i.toNat * 5)).off + 2, none⟩ = some (.int .i64 (rdGlobal xs i).size) ∧ w.cell? ⟨(ad.add (i.toNat * 5)).block, (ad.add (i.toNat * 5)).off + 3, none⟩ = some (.int .i64 (rdGlobal xs i).pos.line) ∧ w.cell? ⟨(ad.add (i.toNat * 5)).block, (ad.add (i.toNat * 5)).off + 4, none⟩ = some (.int .i64 (rdGlobal xs i).pos.col) ∧ Wf64 (rdGlobal xs i).size := by
  obtain ⟨ad, c, e, _, hK, hc0⟩ := Kd.C_get h zGlobal i h0 h1
  have hc : ∀ j u, c[j]? = some u → w.cell? (ad.add (i.toNat * 5 + j)) = some u := hc0
  obtain ⟨rfl, n2⟩ := kGlobal_open hK
  exact ⟨ad, e, hc 0 _ rfl, by rw [← add_field _ _ 1 (by omega)]; exact hc 1 _ rfl, by rw [← add_field _ _ 2 (by omega)]; exact hc 2 _ rfl, by rw [← add_field _ _ 3 (by omega)]; exact hc 3 _ rfl, by rw [← add_field _ _ 4 (by omega)]; exact hc 4 _ rfl, n2⟩

/-! ### ast.Func -/
structure Fun where
  name : ByteArray
  params : List ByteArray
  body : List Stmt
  pos : Pos
def zFun : Fun := ⟨ByteArray.empty, [], [], zPos⟩
def kFun : Kd Fun := Kd.iso (Kd.pair (Kd.string) (Kd.pair (Kd.slice 9 Kd.string) (Kd.pair (Kd.slice 45 kStmt) (kPos)))) (fun x : Fun => (x.name, x.params, x.body, x.pos))
theorem kFun_open {w : World} {x : Fun} {cs : List Value} (h : kFun.K w x cs) : ∃ A1 c1 A2 c2, cs = [.string x.name, .slice A1 x.params.length c1, .slice A2 x.body.length c2, .int .i64 x.pos.line, .int .i64 x.pos.col] ∧ x.params.length ≤ c1 ∧ Kd.string.C w A1 x.params.length x.params ∧ x.body.length ≤ c2 ∧ kStmt.C w A2 x.body.length x.body := by
  obtain ⟨_, _, rfl, rfl, ⟨_, _, rfl, ⟨A1, c1, rfl, l1, g1⟩, ⟨_, _, rfl, ⟨A2, c2, rfl, l2, g2⟩, s3⟩⟩⟩ := h
  obtain rfl := kPos_open s3
  exact ⟨A1, c1, A2, c2, rfl, l1, g1, l2, g2⟩
theorem kFun_openM {w : World} {base : Nat} {ok : Nat → Prop} {x : Fun} {cs : List Value} (h : kFun.M w base ok x cs) : ∃ v1 v2, cs = [.string x.name, v1, v2, .int .i64 x.pos.line, .int .i64 x.pos.col] ∧ Kd.string.R 9 w base ok v1 x.params ∧ kStmt.R 45 w base ok v2 x.body := by
  obtain ⟨_, _, rfl, rfl, ⟨_, _, rfl, ⟨v1, rfl, g1⟩, ⟨_, _, rfl, ⟨v2, rfl, g2⟩, s3⟩⟩⟩ := h
  obtain rfl := kPos_openM s3
  exact ⟨v1, v2, rfl, g1, g2⟩
theorem kFun_mk (w : World) (x : Fun) {A1 : Option Addr} {c1 : Nat} (l1 : x.params.length ≤ c1) (g1 : Kd.string.C w A1 x.params.length x.params) {A2 : Option Addr} {c2 : Nat} (l2 : x.body.length ≤ c2) (g2 : kStmt.C w A2 x.body.length x.body) : kFun.K w x [.string x.name, .slice A1 x.params.length c1, .slice A2 x.body.length c2, .int .i64 x.pos.line, .int .i64 x.pos.col] := by
  exact ⟨[.string x.name], [.slice A1 x.params.length c1, .slice A2 x.body.length c2, .int .i64 x.pos.line, .int .i64 x.pos.col], rfl, rfl, ⟨[.slice A1 x.params.length c1], [.slice A2 x.body.length c2, .int .i64 x.pos.line, .int .i64 x.pos.col], rfl, ⟨A1, c1, rfl, l1, g1⟩, ⟨[.slice A2 x.body.length c2], [.int .i64 x.pos.line, .int .i64 x.pos.col], rfl, ⟨A2, c2, rfl, l2, g2⟩, kPos_mk w x.pos⟩⟩⟩
theorem kFun_mkM (w : World) (base : Nat) (ok : Nat → Prop) (x : Fun) {v1 : Value} (g1 : Kd.string.R 9 w base ok v1 x.params) {v2 : Value} (g2 : kStmt.R 45 w base ok v2 x.body) : kFun.M w base ok x [.string x.name, v1, v2, .int .i64 x.pos.line, .int .i64 x.pos.col] := by
  exact ⟨[.string x.name], [v1, v2, .int .i64 x.pos.line, .int .i64 x.pos.col], rfl, rfl, ⟨[v1], [v2, .int .i64 x.pos.line, .int .i64 x.pos.col], rfl, ⟨v1, rfl, g1⟩, ⟨[v2], [.int .i64 x.pos.line, .int .i64 x.pos.col], rfl, ⟨v2, rfl, g2⟩, kPos_mkM w base ok x.pos⟩⟩⟩
def rdFun (xs : List Fun) (i : Int) : Fun := xs.getD i.toNat zFun
theorem atFun {w : World} {A : Option Addr} {n : Nat} {xs : List Fun} (h : Kd.C kFun w A n xs) (i : Int) (h0 : 0 ≤ i) (h1 : i < n) : ∃ ad A1 c1 A2 c2, A = some ad ∧ w.cell? (ad.add (i.toNat * 5)) = some (.string (rdFun xs i).name) ∧ w.cell? ⟨(ad.add (i.toNat * 5)).block, (ad.add (i.toNat * 5)).off + 1, none⟩ = some (.slice A1 (rdFun xs i).params.length c1) ∧ w.cell? ⟨(ad.add (i.toNat * 5)).block, (ad.add (i.toNat * 5)).off + 2, none⟩ = some (.slice A2 (rdFun xs i).body.length c2) ∧ w.cell? ⟨(ad.add (i.toNat * 5)).block, (ad.add (i.toNat * 5)).off + 3, none⟩ = some (.int .i64 (rdFun xs i).pos.line) ∧ w.cell? ⟨(ad.add (i.toNat * 5)).block, (ad.add (i.toNat * 5)).off + 4, none⟩ = some (.int .i64 (rdFun xs i).pos.col) ∧ (rdFun xs i).params.length ≤ c1 ∧ Kd.string.C w A1 (rdFun xs i).params.length (rdFun xs i).params ∧ (rdFun xs i).body.length ≤ c2 ∧ kStmt.C w A2 (rdFun xs i).body.length (rdFun xs i).body := by
  obtain ⟨ad, c, e, _, hK, hc0⟩ := Kd.C_get h zFun i h0 h1
  have hc : ∀ j u, c[j]? = some u → w.cell? (ad.add (i.toNat * 5 + j)) = some u := hc0
  obtain ⟨A1, c1, A2, c2, rfl, l1, g1, l2, g2⟩ := kFun_open hK
  exact ⟨ad, A1, c1, A2, c2, e, hc 0 _ rfl, by rw [← add_field _ _ 1 (by omega)]; exact hc 1 _ rfl, by rw [← add_field _ _ 2 (by omega)]; exact hc 2 _ rfl, by rw [← add_field _ _ 3 (by omega)]; exact hc 3 _ rfl, by rw [← add_field _ _ 4 (by omega)]; exact hc 4 _ rfl, l1, g1, l2, g2⟩

/-! ### ast.Prog -/
structure Prog where
  globals : List Global
  funcs : List Fun
def zProg : Prog := ⟨[], []⟩
def kProg : Kd Prog := Kd.iso (Kd.pair (Kd.slice 75 kGlobal) (Kd.slice 41 kFun)) (fun x : Prog => (x.globals, x.funcs))
theorem kProg_open {w : World} {x : Prog} {cs : List Value} (h : kProg.K w x cs) : ∃ A0 c0 A1 c1, cs = [.slice A0 x.globals.length c0, .slice A1 x.funcs.length c1] ∧ x.globals.length ≤ c0 ∧ kGlobal.C w A0 x.globals.length x.globals ∧ x.funcs.length ≤ c1 ∧ kFun.C w A1 x.funcs.length x.funcs := by
  obtain ⟨_, _, rfl, ⟨A0, c0, rfl, l0, g0⟩, ⟨A1, c1, rfl, l1, g1⟩⟩ := h
  exact ⟨A0, c0, A1, c1, rfl, l0, g0, l1, g1⟩
theorem kProg_openM {w : World} {base : Nat} {ok : Nat → Prop} {x : Prog} {cs : List Value} (h : kProg.M w base ok x cs) : ∃ v0 v1, cs = [v0, v1] ∧ kGlobal.R 75 w base ok v0 x.globals ∧ kFun.R 41 w base ok v1 x.funcs := by
  obtain ⟨_, _, rfl, ⟨v0, rfl, g0⟩, ⟨v1, rfl, g1⟩⟩ := h
  exact ⟨v0, v1, rfl, g0, g1⟩
theorem kProg_mk (w : World) (x : Prog) {A0 : Option Addr} {c0 : Nat} (l0 : x.globals.length ≤ c0) (g0 : kGlobal.C w A0 x.globals.length x.globals) {A1 : Option Addr} {c1 : Nat} (l1 : x.funcs.length ≤ c1) (g1 : kFun.C w A1 x.funcs.length x.funcs) : kProg.K w x [.slice A0 x.globals.length c0, .slice A1 x.funcs.length c1] := by
  exact ⟨[.slice A0 x.globals.length c0], [.slice A1 x.funcs.length c1], rfl, ⟨A0, c0, rfl, l0, g0⟩, ⟨A1, c1, rfl, l1, g1⟩⟩
theorem kProg_mkM (w : World) (base : Nat) (ok : Nat → Prop) (x : Prog) {v0 : Value} (g0 : kGlobal.R 75 w base ok v0 x.globals) {v1 : Value} (g1 : kFun.R 41 w base ok v1 x.funcs) : kProg.M w base ok x [v0, v1] := by
  exact ⟨[v0], [v1], rfl, ⟨v0, rfl, g0⟩, ⟨v1, rfl, g1⟩⟩
def rdProg (xs : List Prog) (i : Int) : Prog := xs.getD i.toNat zProg
theorem atProg {w : World} {A : Option Addr} {n : Nat} {xs : List Prog} (h : Kd.C kProg w A n xs) (i : Int) (h0 : 0 ≤ i) (h1 : i < n) : ∃ ad A0 c0 A1 c1, A = some ad ∧ w.cell? (ad.add (i.toNat * 2)) = some (.slice A0 (rdProg xs i).globals.length c0) ∧ w.cell? ⟨(ad.add (i.toNat * 2)).block, (ad.add (i.toNat * 2)).off + 1, none⟩ = some (.slice A1 (rdProg xs i).funcs.length c1) ∧ (rdProg xs i).globals.length ≤ c0 ∧ kGlobal.C w A0 (rdProg xs i).globals.length (rdProg xs i).globals ∧ (rdProg xs i).funcs.length ≤ c1 ∧ kFun.C w A1 (rdProg xs i).funcs.length (rdProg xs i).funcs := by
  obtain ⟨ad, c, e, _, hK, hc0⟩ := Kd.C_get h zProg i h0 h1
  have hc : ∀ j u, c[j]? = some u → w.cell? (ad.add (i.toNat * 2 + j)) = some u := hc0
  obtain ⟨A0, c0, A1, c1, rfl, l0, g0, l1, g1⟩ := kProg_open hK
  exact ⟨ad, A0, c0, A1, c1, e, hc 0 _ rfl, by rw [← add_field _ _ 1 (by omega)]; exact hc 1 _ rfl, l0, g0, l1, g1⟩

end Go.Proofs.YtgenlgfbjlclbaaDoor
