/- The kinds of tokens and faults: what the cells of their structs say. -/
import Derived.Test.YtgenlgfbjlclbaaDoorKinds
namespace Go.Proofs.YtgenlgfbjlclbaaDoor
open Go.RowKit Go.Proofs.YtgenlgfbjlclbaaDoorW.PrintWords Go.Proofs.YtgenlgfbjlclbaaDoorW.PrintLast Go.Proofs.YtgenlgfbjlclbaaDoorW.PrintMore
set_option linter.unusedVariables false

/-! ### lex.Fault -/
structure Fault where
  e : Int
  pos : Pos
def zFault : Fault := ⟨(0 : Int), zPos⟩
def kFault : Kd Fault := Kd.iso (Kd.pair (Kd.int .i64) (kPos)) (fun x : Fault => (x.e, x.pos))
theorem kFault_open {w : World} {x : Fault} {cs : List Value} (h : kFault.K w x cs) : cs = [.int .i64 x.e, .int .i64 x.pos.line, .int .i64 x.pos.col] := by
  obtain ⟨_, _, rfl, rfl, s1⟩ := h
  obtain rfl := kPos_open s1
  exact rfl
theorem kFault_openM {w : World} {base : Nat} {ok : Nat → Prop} {x : Fault} {cs : List Value} (h : kFault.M w base ok x cs) : cs = [.int .i64 x.e, .int .i64 x.pos.line, .int .i64 x.pos.col] := by
  obtain ⟨_, _, rfl, rfl, s1⟩ := h
  obtain rfl := kPos_openM s1
  exact rfl
theorem kFault_mk (w : World) (x : Fault) : kFault.K w x [.int .i64 x.e, .int .i64 x.pos.line, .int .i64 x.pos.col] := by
  exact ⟨[.int .i64 x.e], [.int .i64 x.pos.line, .int .i64 x.pos.col], rfl, rfl, kPos_mk w x.pos⟩
theorem kFault_mkM (w : World) (base : Nat) (ok : Nat → Prop) (x : Fault) : kFault.M w base ok x [.int .i64 x.e, .int .i64 x.pos.line, .int .i64 x.pos.col] := by
  exact ⟨[.int .i64 x.e], [.int .i64 x.pos.line, .int .i64 x.pos.col], rfl, rfl, kPos_mkM w base ok x.pos⟩
def rdFault (xs : List Fault) (i : Int) : Fault := xs.getD i.toNat zFault
theorem atFault {w : World} {A : Option Addr} {n : Nat} {xs : List Fault} (h : Kd.C kFault w A n xs) (i : Int) (h0 : 0 ≤ i) (h1 : i < n) : ∃ ad , A = some ad ∧ w.cell? (ad.add (i.toNat * 3)) = some (.int .i64 (rdFault xs i).e) ∧ w.cell? ⟨(ad.add (i.toNat * 3)).block, (ad.add (i.toNat * 3)).off + 1, none⟩ = some (.int .i64 (rdFault xs i).pos.line) ∧ w.cell? ⟨(ad.add (i.toNat * 3)).block, (ad.add (i.toNat * 3)).off + 2, none⟩ = some (.int .i64 (rdFault xs i).pos.col) := by
  obtain ⟨ad, c, e, _, hK, hc0⟩ := Kd.C_get h zFault i h0 h1
  have hc : ∀ j u, c[j]? = some u → w.cell? (ad.add (i.toNat * 3 + j)) = some u := hc0
  obtain rfl := kFault_open hK
  exact ⟨ad, e, hc 0 _ rfl, by rw [← add_field _ _ 1 (by omega)]; exact hc 1 _ rfl, by rw [← add_field _ _ 2 (by omega)]; exact hc 2 _ rfl⟩

/-! ### lex.Token -/
structure Token where
  kind : Int
  text : ByteArray
  num : Int
  pos : Pos
def zToken : Token := ⟨(0 : Int), ByteArray.empty, (0 : Int), zPos⟩
def kToken : Kd Token := Kd.iso (Kd.pair (Kd.int .i64) (Kd.pair (Kd.string) (Kd.pair (kNum) (kPos)))) (fun x : Token => (x.kind, x.text, x.num, x.pos))
theorem kToken_open {w : World} {x : Token} {cs : List Value} (h : kToken.K w x cs) : cs = [.int .i64 x.kind, .string x.text, .int .i64 x.num, .int .i64 x.pos.line, .int .i64 x.pos.col] ∧ Wf64 x.num := by
  obtain ⟨_, _, rfl, rfl, ⟨_, _, rfl, rfl, ⟨_, _, rfl, ⟨rfl, n2⟩, s3⟩⟩⟩ := h
  obtain rfl := kPos_open s3
  exact ⟨rfl, n2⟩
theorem kToken_openM {w : World} {base : Nat} {ok : Nat → Prop} {x : Token} {cs : List Value} (h : kToken.M w base ok x cs) : cs = [.int .i64 x.kind, .string x.text, .int .i64 x.num, .int .i64 x.pos.line, .int .i64 x.pos.col] ∧ Wf64 x.num := by
  obtain ⟨_, _, rfl, rfl, ⟨_, _, rfl, rfl, ⟨_, _, rfl, ⟨rfl, n2⟩, s3⟩⟩⟩ := h
  obtain rfl := kPos_openM s3
  exact ⟨rfl, n2⟩
theorem kToken_mk (w : World) (x : Token) (n2 : Wf64 x.num) : kToken.K w x [.int .i64 x.kind, .string x.text, .int .i64 x.num, .int .i64 x.pos.line, .int .i64 x.pos.col] := by
  exact ⟨[.int .i64 x.kind], [.string x.text, .int .i64 x.num, .int .i64 x.pos.line, .int .i64 x.pos.col], rfl, rfl, ⟨[.string x.text], [.int .i64 x.num, .int .i64 x.pos.line, .int .i64 x.pos.col], rfl, rfl, ⟨[.int .i64 x.num], [.int .i64 x.pos.line, .int .i64 x.pos.col], rfl, ⟨rfl, n2⟩, kPos_mk w x.pos⟩⟩⟩
theorem kToken_mkM (w : World) (base : Nat) (ok : Nat → Prop) (x : Token) (n2 : Wf64 x.num) : kToken.M w base ok x [.int .i64 x.kind, .string x.text, .int .i64 x.num, .int .i64 x.pos.line, .int .i64 x.pos.col] := by
  exact ⟨[.int .i64 x.kind], [.string x.text, .int .i64 x.num, .int .i64 x.pos.line, .int .i64 x.pos.col], rfl, rfl, ⟨[.string x.text], [.int .i64 x.num, .int .i64 x.pos.line, .int .i64 x.pos.col], rfl, rfl, ⟨[.int .i64 x.num], [.int .i64 x.pos.line, .int .i64 x.pos.col], rfl, ⟨rfl, n2⟩, kPos_mkM w base ok x.pos⟩⟩⟩
def rdToken (xs : List Token) (i : Int) : Token := xs.getD i.toNat zToken
theorem atToken {w : World} {A : Option Addr} {n : Nat} {xs : List Token} (h : Kd.C kToken w A n xs) (i : Int) (h0 : 0 ≤ i) (h1 : i < n) : ∃ ad , A = some ad ∧ w.cell? (ad.add (i.toNat * 5)) = some (.int .i64 (rdToken xs i).kind) ∧ w.cell? ⟨(ad.add (i.toNat * 5)).block, (ad.add (i.toNat * 5)).off + 1, none⟩ = some (.string (rdToken xs i).text) ∧ w.cell? ⟨(ad.add (i.toNat * 5)).block, (ad.add (i.toNat * 5)).off + 2, none⟩ = some (.int .i64 (rdToken xs i).num) ∧ w.cell? ⟨(ad.add (i.toNat * 5)).block, (ad.add (i.toNat * 5)).off + 3, none⟩ = some (.int .i64 (rdToken xs i).pos.line) ∧ w.cell? ⟨(ad.add (i.toNat * 5)).block, (ad.add (i.toNat * 5)).off + 4, none⟩ = some (.int .i64 (rdToken xs i).pos.col) ∧ Wf64 (rdToken xs i).num := by
  obtain ⟨ad, c, e, _, hK, hc0⟩ := Kd.C_get h zToken i h0 h1
  have hc : ∀ j u, c[j]? = some u → w.cell? (ad.add (i.toNat * 5 + j)) = some u := hc0
  obtain ⟨rfl, n2⟩ := kToken_open hK
  exact ⟨ad, e, hc 0 _ rfl, by rw [← add_field _ _ 1 (by omega)]; exact hc 1 _ rfl, by rw [← add_field _ _ 2 (by omega)]; exact hc 2 _ rfl, by rw [← add_field _ _ 3 (by omega)]; exact hc 3 _ rfl, by rw [← add_field _ _ 4 (by omega)]; exact hc 4 _ rfl, n2⟩

end Go.Proofs.YtgenlgfbjlclbaaDoor
