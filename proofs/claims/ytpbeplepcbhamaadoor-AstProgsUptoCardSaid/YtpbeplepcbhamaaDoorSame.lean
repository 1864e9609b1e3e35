/- The methods Same: what slices.EqualFunc and they compute. -/
import Derived.Test.YtpbeplepcbhamaaDoorText
import Derived.Outline
namespace Go.Proofs.YtpbeplepcbhamaaDoor
open Go.RowKit Go.Proofs.YtpbeplepcbhamaaDoorW.PrintWords Go.Proofs.YtpbeplepcbhamaaDoorW.PrintLast Go.Proofs.YtpbeplepcbhamaaDoorW.PrintMore
set_option linter.unusedVariables false
set_option linter.unusedSimpArgs false

/-- Both lists are as long, and f holds pair by pair. -/
def all2 {α : Type} (f : α → α → Bool) : List α → List α → Bool
  | [], [] => true
  | x :: r, y :: s => f x y && all2 f r s
  | _, _ => false
theorem all2_true {α : Type} (f : α → α → Bool) (z z' : α) : ∀ (xs ys : List α), xs.length = ys.length → (∀ j, j < xs.length → f (xs.getD j z) (ys.getD j z') = true) → all2 f xs ys = true
  | [], [], _, _ => rfl
  | x :: r, y :: s, hl, h => by
    have h0 := h 0 (by simp)
    simp at h0
    rw [all2, h0, Bool.true_and]
    exact all2_true f z z' r s (by simpa using hl) (fun j hj => by have := h (j + 1) (by simpa using hj); simpa using this)
  | [], y :: s, hl, _ => by simp at hl
  | x :: r, [], hl, _ => by simp at hl
theorem all2_false {α : Type} (f : α → α → Bool) (z z' : α) : ∀ (xs ys : List α) (j : Nat), j < xs.length → j < ys.length → f (xs.getD j z) (ys.getD j z') = false → all2 f xs ys = false
  | x :: r, y :: s, 0, _, _, h => by
    simp at h
    rw [all2, h, Bool.false_and]
  | x :: r, y :: s, j + 1, h1, h2, h => by
    rw [all2, all2_false f z z' r s j (by simpa using h1) (by simpa using h2) (by simpa using h), Bool.and_false]
  | [], _, _, h, _, _ => by simp at h
  | x :: r, [], _, _, h, _ => by simp at h
theorem all2_len {α : Type} (f : α → α → Bool) : ∀ (xs ys : List α), xs.length ≠ ys.length → all2 f xs ys = false
  | [], [], h => absurd rfl h
  | x :: r, y :: s, h => by rw [all2, all2_len f r s (by simpa using h), Bool.and_false]
  | [], y :: s, _ => rfl
  | x :: r, [], _ => rfl

mutual
/-- Are two expressions the same, wherever they stand? -/
def sameE : Expr → Expr → Bool
  | ⟨kind, _, num, name, op, kids⟩, o => kind == o.kind && (num == o.num && (name.toList == o.name.toList && (op == o.op && sameEs kids o.kids)))
def sameEs : List Expr → List Expr → Bool
  | [], [] => true
  | x :: r, y :: s => sameE x y && sameEs r s
  | _, _ => false
end
theorem sameEs_all2 : ∀ (xs ys : List Expr), sameEs xs ys = all2 sameE xs ys
  | [], [] => by simp [sameEs, all2]
  | x :: r, y :: s => by rw [sameEs, all2, sameEs_all2 r s]
  | [], y :: s => by simp [sameEs, all2]
  | x :: r, [] => by simp [sameEs, all2]
theorem sameE_eq (x o : Expr) : sameE x o = (x.kind == o.kind && (x.num == o.num && (x.name.toList == o.name.toList && (x.op == o.op && all2 sameE x.kids o.kids)))) := by
  cases x
  rw [sameE, sameEs_all2]

theorem rdStmt_mem (xs : List Stmt) (i : Int) (h0 : 0 ≤ i) (h1 : i < xs.length) : rdStmt xs i ∈ xs := by
  unfold rdStmt
  have : i.toNat < xs.length := by omega
  rw [List.getD_eq_getElem?_getD, List.getElem?_eq_getElem this]
  exact List.getElem_mem this

theorem rdGlobal_mem (xs : List Global) (i : Int) (h0 : 0 ≤ i) (h1 : i < xs.length) : rdGlobal xs i ∈ xs := by
  unfold rdGlobal
  have : i.toNat < xs.length := by omega
  rw [List.getD_eq_getElem?_getD, List.getElem?_eq_getElem this]
  exact List.getElem_mem this

theorem rdFun_mem (xs : List Fun) (i : Int) (h0 : 0 ≤ i) (h1 : i < xs.length) : rdFun xs i ∈ xs := by
  unfold rdFun
  have : i.toNat < xs.length := by omega
  rw [List.getD_eq_getElem?_getD, List.getElem?_eq_getElem this]
  exact List.getElem_mem this

set_option maxRecDepth 100000 in
set_option maxHeartbeats 1600000 in
theorem eqfExpr (xs ys : List Expr) (A B : Option Addr) (c d : Nat) (w : World) (hx : kExpr.C w A xs.length xs) (hy : kExpr.C w B ys.length ys)
    (ih : ∀ x, x ∈ xs → ∀ y, y ∈ ys → ∀ cs ds w, kExpr.K w x cs → kExpr.K w y ds → Calls Tryd.prog 11 #[.agg cs.toArray, .agg ds.toArray] w fun e w' => e = .returned (.bool (sameE x y)) ∧ Below w.heap.size w w') :
    Calls Tryd.prog 23 #[.slice A xs.length c, .slice B ys.length d, .func (.func 11) #[] #[]] w fun e w' => e = .returned (.bool (all2 sameE xs ys)) ∧ Below w.heap.size w w' := by
  by_cases hl : xs.length = ys.length
  · have hn : ((xs.length : Int) != (ys.length : Int)) = false := by simp [hl]
    have hl' : ys.length = xs.length := hl.symm
    have Hl := Lib.hid hl
    rw [hl'] at hy hn ⊢
    have hm := hx.2.1
    clear hl hl'
    go_enter Tryd.func23, Tryd.ntmps23
    go_wp2_with fail
    go_loopg [17] xs.length (fun kq v17 w' => ∃ i : Int, v17 = .int .i64 i ∧ 0 ≤ i ∧ kq + i.toNat = xs.length ∧ Aside0 (∀ j, j < i.toNat → sameE (xs.getD j zExpr) (ys.getD j zExpr) = true) ∧ Aside0 (Below w.heap.size w w'))
    case atStart => exact ⟨0, rfl, by omega, by simp, ⟨fun j hj => absurd hj (by simp)⟩, ⟨Below.refl _ _⟩⟩
    case round =>
      obtain ⟨i, rfl, hi0, hk, HS, HB⟩ := hrel
      cases gk with
      | zero =>
        have hge : decide (i < (xs.length : Int)) = false := by simp; omega
        go_wp2_with fail
        go_ret
        refine ⟨?_, HB.out⟩
        rw [all2_true _ zExpr zExpr xs ys Hl.out (fun j hj => HS.out j (by omega))]
        rfl
      | succ k1 =>
        have hi1 : i < (xs.length : Int) := by omega
        have hx1 := Kd.C_below hx HB.out
        have hy1 := Kd.C_below hy HB.out
        obtain ⟨ad, A6, a6, ea, e0, e1, e2, e3, e4, e5, e6, em0, el6, eg6⟩ := atExpr hx1 i hi0 hi1
        obtain ⟨bd, B6, b6, fa, f0, f1, f2, f3, f4, f5, f6, fm0, fl6, fg6⟩ := atExpr hy1 i hi0 hi1
        obtain rfl := ea
        obtain rfl := fa
        have K0 : kExpr.K wr (rdExpr xs i) [.int .i64 (rdExpr xs i).kind, .int .i64 (rdExpr xs i).pos.line, .int .i64 (rdExpr xs i).pos.col, .int .i64 (rdExpr xs i).num, .string (rdExpr xs i).name, .int .i64 (rdExpr xs i).op, .slice A6 (rdExpr xs i).kids.length a6] := kExpr_mk wr _ em0 el6 eg6
        have K1 : kExpr.K wr (rdExpr ys i) [.int .i64 (rdExpr ys i).kind, .int .i64 (rdExpr ys i).pos.line, .int .i64 (rdExpr ys i).pos.col, .int .i64 (rdExpr ys i).num, .string (rdExpr ys i).name, .int .i64 (rdExpr ys i).op, .slice B6 (rdExpr ys i).kids.length b6] := kExpr_mk wr _ fm0 fl6 fg6
        have hmx : rdExpr xs i ∈ xs := rdExpr_mem _ _ hi0 hi1
        have hmy : rdExpr ys i ∈ ys := rdExpr_mem _ _ hi0 (by rw [← Hl.out]; exact hi1)
        have q0 : ∀ o, (wr.alloc o).cell? (bd.add (i.toNat * 7)) = some (.int .i64 (rdExpr ys i).kind) := fun o => pw_cell_below ((Below.refl _ _).alloc (Nat.le_refl _) o) f0
        have q1 : ∀ o, (wr.alloc o).cell? ⟨(bd.add (i.toNat * 7)).block, (bd.add (i.toNat * 7)).off + 1, none⟩ = some (.int .i64 (rdExpr ys i).pos.line) := fun o => pw_cell_below ((Below.refl _ _).alloc (Nat.le_refl _) o) f1
        have q2 : ∀ o, (wr.alloc o).cell? ⟨(bd.add (i.toNat * 7)).block, (bd.add (i.toNat * 7)).off + 2, none⟩ = some (.int .i64 (rdExpr ys i).pos.col) := fun o => pw_cell_below ((Below.refl _ _).alloc (Nat.le_refl _) o) f2
        have q3 : ∀ o, (wr.alloc o).cell? ⟨(bd.add (i.toNat * 7)).block, (bd.add (i.toNat * 7)).off + 3, none⟩ = some (.int .i64 (rdExpr ys i).num) := fun o => pw_cell_below ((Below.refl _ _).alloc (Nat.le_refl _) o) f3
        have q4 : ∀ o, (wr.alloc o).cell? ⟨(bd.add (i.toNat * 7)).block, (bd.add (i.toNat * 7)).off + 4, none⟩ = some (.string (rdExpr ys i).name) := fun o => pw_cell_below ((Below.refl _ _).alloc (Nat.le_refl _) o) f4
        have q5 : ∀ o, (wr.alloc o).cell? ⟨(bd.add (i.toNat * 7)).block, (bd.add (i.toNat * 7)).off + 5, none⟩ = some (.int .i64 (rdExpr ys i).op) := fun o => pw_cell_below ((Below.refl _ _).alloc (Nat.le_refl _) o) f5
        have q6 : ∀ o, (wr.alloc o).cell? ⟨(bd.add (i.toNat * 7)).block, (bd.add (i.toNat * 7)).off + 6, none⟩ = some (.slice B6 (rdExpr ys i).kids.length b6) := fun o => pw_cell_below ((Below.refl _ _).alloc (Nat.le_refl _) o) f6
        clear f0 f1 f2 f3 f4 f5 f6
        have hb2 : ∀ o o', Below wr.heap.size wr ((wr.alloc o).alloc o') := fun o o' => ((Below.refl _ _).alloc (Nat.le_refl _) o).alloc (by simp) o'
        have HB2 := Aside0.mk hb2
        have Rest := Aside0.mk (⟨hx1, hy1, em0, el6, eg6, fm0, fl6, fg6⟩ : _ ∧ _ ∧ _ ∧ _ ∧ _ ∧ _ ∧ _ ∧ _)
        clear hb2 hx1 hy1 em0 el6 eg6 fm0 fl6 fg6
        cases hv : sameE (rdExpr xs i) (rdExpr ys i) with
        | true =>
          have Hv := Aside0.mk hv
          go_wp2_with (first | (go_at_call 11; refine (ih _ hmx _ hmy _ _ _ (kExpr.K_below (HB2.out _ _) K0) (kExpr.K_below (HB2.out _ _) K1)).mono ?_; rintro e w1 ⟨rfl, hb1⟩; rw [Hv.out]; have HB1 := Aside0.mk (below_step (below_step HB.out (HB2.out _ _)) hb1); clear hb1))
          go_roundg k1
          case measure => omega
          case rel =>
            refine ⟨i + 1, rfl, by omega, by omega, ⟨fun j hj => ?_⟩, HB1⟩
            by_cases hji : j < i.toNat
            · exact HS.out j hji
            · obtain rfl : j = i.toNat := by omega
              exact Hv.out
        | false =>
          have Hv := Aside0.mk hv
          go_wp2_with (first | (go_at_call 11; refine (ih _ hmx _ hmy _ _ _ (kExpr.K_below (HB2.out _ _) K0) (kExpr.K_below (HB2.out _ _) K1)).mono ?_; rintro e w1 ⟨rfl, hb1⟩; rw [Hv.out]; have HB1 := Aside0.mk (below_step (below_step HB.out (HB2.out _ _)) hb1); clear hb1))
          go_ret
          refine ⟨?_, HB1.out⟩
          rw [all2_false _ zExpr zExpr xs ys i.toNat (by omega) (by rw [← Hl.out]; omega) Hv.out]
          rfl
  · have hn : ((xs.length : Int) != (ys.length : Int)) = true := bne_iff_ne.2 (by omega)
    have Hl := Lib.hid hl
    clear hl
    go_enter Tryd.func23, Tryd.ntmps23
    go_wp2_with fail
    go_ret
    exact ⟨by rw [all2_len _ xs ys Hl.out]; rfl, Below.refl _ _⟩
set_option maxRecDepth 100000 in
set_option maxHeartbeats 1600000 in
theorem sameE_step (x y : Expr) (cs ds : List Value) (w : World) (hx : kExpr.K w x cs) (hy : kExpr.K w y ds)
    (ih : ∀ p, p ∈ x.kids → ∀ q, q ∈ y.kids → ∀ cs ds w, kExpr.K w p cs → kExpr.K w q ds → Calls Tryd.prog 11 #[.agg cs.toArray, .agg ds.toArray] w fun e w' => e = .returned (.bool (sameE p q)) ∧ Below w.heap.size w w') :
    Calls Tryd.prog 11 #[.agg cs.toArray, .agg ds.toArray] w fun e w' => e = .returned (.bool (sameE x y)) ∧ Below w.heap.size w w' := by
  obtain ⟨A6, a6, rfl, em0, el6, eg6⟩ := kExpr_open hx
  obtain ⟨B6, b6, rfl, fm0, fl6, fg6⟩ := kExpr_open hy
  have hx6 := Aside0.mk eg6
  have hy6 := Aside0.mk fg6
  have lx6 := Aside0.mk el6
  have ly6 := Aside0.mk fl6
  clear eg6 fg6 el6 fl6
  clear em0 fm0
  clear hx hy
  cases v0 : (x.kind == y.kind) with
  | false =>
    have V0 := Aside0.mk v0
    go_enter Tryd.func11, Tryd.ntmps11
    go_wp2_with (first | ((with_reducible refine gate_dst (N := 2) rfl ?_); refine box_event ?hg (N := 2) ?hd (cs := #[.int .i64 x.kind, .int .i64 x.pos.line, .int .i64 x.pos.col, .int .i64 x.num, .string x.name, .int .i64 x.op, .slice A6 x.kids.length a6]) (t := 31) ?hr ?_; (case hd => rfl); (case hg => rfl); (case hr => first | (go_simp; done) | (go_simp; rfl)); intro g1 hg1 W1 hbox1 hb1; have Hbox1 := Lib.hid hbox1; clear hg1 hbox1; have a0 : W1.cell? ⟨g1, 0, none⟩ = some (.int .i64 x.kind) := (blk_cell Hbox1.out 0).trans rfl; have a3 : W1.cell? ⟨g1, 3, none⟩ = some (.int .i64 x.num) := (blk_cell Hbox1.out 3).trans rfl; have a4 : W1.cell? ⟨g1, 4, none⟩ = some (.string x.name) := (blk_cell Hbox1.out 4).trans rfl; have a5 : W1.cell? ⟨g1, 5, none⟩ = some (.int .i64 x.op) := (blk_cell Hbox1.out 5).trans rfl; have a6 : W1.cell? ⟨g1, 6, none⟩ = some (.slice A6 x.kids.length a6) := (blk_cell Hbox1.out 6).trans rfl) | ((with_reducible refine gate_dst (N := 3) rfl ?_); refine box_event ?hg (N := 3) ?hd (cs := #[.int .i64 y.kind, .int .i64 y.pos.line, .int .i64 y.pos.col, .int .i64 y.num, .string y.name, .int .i64 y.op, .slice B6 y.kids.length b6]) (t := 31) ?hr ?_; (case hd => rfl); (case hg => rfl); (case hr => first | (go_simp; done) | (go_simp; rfl)); intro g2 hg2 W2 hbox2 hb2; have Hbox2 := Lib.hid hbox2; clear hg2 hbox2; replace a0 := pw_cell_below hb2 a0; replace a3 := pw_cell_below hb2 a3; replace a4 := pw_cell_below hb2 a4; replace a5 := pw_cell_below hb2 a5; replace a6 := pw_cell_below hb2 a6; have b0 : W2.cell? ⟨g2, 0, none⟩ = some (.int .i64 y.kind) := (blk_cell Hbox2.out 0).trans rfl; have b3 : W2.cell? ⟨g2, 3, none⟩ = some (.int .i64 y.num) := (blk_cell Hbox2.out 3).trans rfl; have b4 : W2.cell? ⟨g2, 4, none⟩ = some (.string y.name) := (blk_cell Hbox2.out 4).trans rfl; have b5 : W2.cell? ⟨g2, 5, none⟩ = some (.int .i64 y.op) := (blk_cell Hbox2.out 5).trans rfl; have b6 : W2.cell? ⟨g2, 6, none⟩ = some (.slice B6 y.kids.length b6) := (blk_cell Hbox2.out 6).trans rfl; have HB2 := Aside0.mk (below_step hb1 hb2); clear hb1 hb2))
    go_ret
    refine ⟨?_, HB2.out⟩
    rw [sameE_eq x y, V0.out]
    rfl
  | true =>
    have V0 := Aside0.mk v0
    cases v1 : (x.num == y.num) with
    | false =>
      have V1 := Aside0.mk v1
      go_enter Tryd.func11, Tryd.ntmps11
      go_wp2_with (first | ((with_reducible refine gate_dst (N := 2) rfl ?_); refine box_event ?hg (N := 2) ?hd (cs := #[.int .i64 x.kind, .int .i64 x.pos.line, .int .i64 x.pos.col, .int .i64 x.num, .string x.name, .int .i64 x.op, .slice A6 x.kids.length a6]) (t := 31) ?hr ?_; (case hd => rfl); (case hg => rfl); (case hr => first | (go_simp; done) | (go_simp; rfl)); intro g1 hg1 W1 hbox1 hb1; have Hbox1 := Lib.hid hbox1; clear hg1 hbox1; have a0 : W1.cell? ⟨g1, 0, none⟩ = some (.int .i64 x.kind) := (blk_cell Hbox1.out 0).trans rfl; have a3 : W1.cell? ⟨g1, 3, none⟩ = some (.int .i64 x.num) := (blk_cell Hbox1.out 3).trans rfl; have a4 : W1.cell? ⟨g1, 4, none⟩ = some (.string x.name) := (blk_cell Hbox1.out 4).trans rfl; have a5 : W1.cell? ⟨g1, 5, none⟩ = some (.int .i64 x.op) := (blk_cell Hbox1.out 5).trans rfl; have a6 : W1.cell? ⟨g1, 6, none⟩ = some (.slice A6 x.kids.length a6) := (blk_cell Hbox1.out 6).trans rfl) | ((with_reducible refine gate_dst (N := 3) rfl ?_); refine box_event ?hg (N := 3) ?hd (cs := #[.int .i64 y.kind, .int .i64 y.pos.line, .int .i64 y.pos.col, .int .i64 y.num, .string y.name, .int .i64 y.op, .slice B6 y.kids.length b6]) (t := 31) ?hr ?_; (case hd => rfl); (case hg => rfl); (case hr => first | (go_simp; done) | (go_simp; rfl)); intro g2 hg2 W2 hbox2 hb2; have Hbox2 := Lib.hid hbox2; clear hg2 hbox2; replace a0 := pw_cell_below hb2 a0; replace a3 := pw_cell_below hb2 a3; replace a4 := pw_cell_below hb2 a4; replace a5 := pw_cell_below hb2 a5; replace a6 := pw_cell_below hb2 a6; have b0 : W2.cell? ⟨g2, 0, none⟩ = some (.int .i64 y.kind) := (blk_cell Hbox2.out 0).trans rfl; have b3 : W2.cell? ⟨g2, 3, none⟩ = some (.int .i64 y.num) := (blk_cell Hbox2.out 3).trans rfl; have b4 : W2.cell? ⟨g2, 4, none⟩ = some (.string y.name) := (blk_cell Hbox2.out 4).trans rfl; have b5 : W2.cell? ⟨g2, 5, none⟩ = some (.int .i64 y.op) := (blk_cell Hbox2.out 5).trans rfl; have b6 : W2.cell? ⟨g2, 6, none⟩ = some (.slice B6 y.kids.length b6) := (blk_cell Hbox2.out 6).trans rfl; have HB2 := Aside0.mk (below_step hb1 hb2); clear hb1 hb2))
      go_ret
      refine ⟨?_, HB2.out⟩
      rw [sameE_eq x y, V0.out, V1.out]
      rfl
    | true =>
      have V1 := Aside0.mk v1
      cases v2 : (x.name.toList == y.name.toList) with
      | false =>
        have V2 := Aside0.mk v2
        go_enter Tryd.func11, Tryd.ntmps11
        go_wp2_with (first | ((with_reducible refine gate_dst (N := 2) rfl ?_); refine box_event ?hg (N := 2) ?hd (cs := #[.int .i64 x.kind, .int .i64 x.pos.line, .int .i64 x.pos.col, .int .i64 x.num, .string x.name, .int .i64 x.op, .slice A6 x.kids.length a6]) (t := 31) ?hr ?_; (case hd => rfl); (case hg => rfl); (case hr => first | (go_simp; done) | (go_simp; rfl)); intro g1 hg1 W1 hbox1 hb1; have Hbox1 := Lib.hid hbox1; clear hg1 hbox1; have a0 : W1.cell? ⟨g1, 0, none⟩ = some (.int .i64 x.kind) := (blk_cell Hbox1.out 0).trans rfl; have a3 : W1.cell? ⟨g1, 3, none⟩ = some (.int .i64 x.num) := (blk_cell Hbox1.out 3).trans rfl; have a4 : W1.cell? ⟨g1, 4, none⟩ = some (.string x.name) := (blk_cell Hbox1.out 4).trans rfl; have a5 : W1.cell? ⟨g1, 5, none⟩ = some (.int .i64 x.op) := (blk_cell Hbox1.out 5).trans rfl; have a6 : W1.cell? ⟨g1, 6, none⟩ = some (.slice A6 x.kids.length a6) := (blk_cell Hbox1.out 6).trans rfl) | ((with_reducible refine gate_dst (N := 3) rfl ?_); refine box_event ?hg (N := 3) ?hd (cs := #[.int .i64 y.kind, .int .i64 y.pos.line, .int .i64 y.pos.col, .int .i64 y.num, .string y.name, .int .i64 y.op, .slice B6 y.kids.length b6]) (t := 31) ?hr ?_; (case hd => rfl); (case hg => rfl); (case hr => first | (go_simp; done) | (go_simp; rfl)); intro g2 hg2 W2 hbox2 hb2; have Hbox2 := Lib.hid hbox2; clear hg2 hbox2; replace a0 := pw_cell_below hb2 a0; replace a3 := pw_cell_below hb2 a3; replace a4 := pw_cell_below hb2 a4; replace a5 := pw_cell_below hb2 a5; replace a6 := pw_cell_below hb2 a6; have b0 : W2.cell? ⟨g2, 0, none⟩ = some (.int .i64 y.kind) := (blk_cell Hbox2.out 0).trans rfl; have b3 : W2.cell? ⟨g2, 3, none⟩ = some (.int .i64 y.num) := (blk_cell Hbox2.out 3).trans rfl; have b4 : W2.cell? ⟨g2, 4, none⟩ = some (.string y.name) := (blk_cell Hbox2.out 4).trans rfl; have b5 : W2.cell? ⟨g2, 5, none⟩ = some (.int .i64 y.op) := (blk_cell Hbox2.out 5).trans rfl; have b6 : W2.cell? ⟨g2, 6, none⟩ = some (.slice B6 y.kids.length b6) := (blk_cell Hbox2.out 6).trans rfl; have HB2 := Aside0.mk (below_step hb1 hb2); clear hb1 hb2))
        go_ret
        refine ⟨?_, HB2.out⟩
        rw [sameE_eq x y, V0.out, V1.out, V2.out]
        rfl
      | true =>
        have V2 := Aside0.mk v2
        cases v3 : (x.op == y.op) with
        | false =>
          have V3 := Aside0.mk v3
          go_enter Tryd.func11, Tryd.ntmps11
          go_wp2_with (first | ((with_reducible refine gate_dst (N := 2) rfl ?_); refine box_event ?hg (N := 2) ?hd (cs := #[.int .i64 x.kind, .int .i64 x.pos.line, .int .i64 x.pos.col, .int .i64 x.num, .string x.name, .int .i64 x.op, .slice A6 x.kids.length a6]) (t := 31) ?hr ?_; (case hd => rfl); (case hg => rfl); (case hr => first | (go_simp; done) | (go_simp; rfl)); intro g1 hg1 W1 hbox1 hb1; have Hbox1 := Lib.hid hbox1; clear hg1 hbox1; have a0 : W1.cell? ⟨g1, 0, none⟩ = some (.int .i64 x.kind) := (blk_cell Hbox1.out 0).trans rfl; have a3 : W1.cell? ⟨g1, 3, none⟩ = some (.int .i64 x.num) := (blk_cell Hbox1.out 3).trans rfl; have a4 : W1.cell? ⟨g1, 4, none⟩ = some (.string x.name) := (blk_cell Hbox1.out 4).trans rfl; have a5 : W1.cell? ⟨g1, 5, none⟩ = some (.int .i64 x.op) := (blk_cell Hbox1.out 5).trans rfl; have a6 : W1.cell? ⟨g1, 6, none⟩ = some (.slice A6 x.kids.length a6) := (blk_cell Hbox1.out 6).trans rfl) | ((with_reducible refine gate_dst (N := 3) rfl ?_); refine box_event ?hg (N := 3) ?hd (cs := #[.int .i64 y.kind, .int .i64 y.pos.line, .int .i64 y.pos.col, .int .i64 y.num, .string y.name, .int .i64 y.op, .slice B6 y.kids.length b6]) (t := 31) ?hr ?_; (case hd => rfl); (case hg => rfl); (case hr => first | (go_simp; done) | (go_simp; rfl)); intro g2 hg2 W2 hbox2 hb2; have Hbox2 := Lib.hid hbox2; clear hg2 hbox2; replace a0 := pw_cell_below hb2 a0; replace a3 := pw_cell_below hb2 a3; replace a4 := pw_cell_below hb2 a4; replace a5 := pw_cell_below hb2 a5; replace a6 := pw_cell_below hb2 a6; have b0 : W2.cell? ⟨g2, 0, none⟩ = some (.int .i64 y.kind) := (blk_cell Hbox2.out 0).trans rfl; have b3 : W2.cell? ⟨g2, 3, none⟩ = some (.int .i64 y.num) := (blk_cell Hbox2.out 3).trans rfl; have b4 : W2.cell? ⟨g2, 4, none⟩ = some (.string y.name) := (blk_cell Hbox2.out 4).trans rfl; have b5 : W2.cell? ⟨g2, 5, none⟩ = some (.int .i64 y.op) := (blk_cell Hbox2.out 5).trans rfl; have b6 : W2.cell? ⟨g2, 6, none⟩ = some (.slice B6 y.kids.length b6) := (blk_cell Hbox2.out 6).trans rfl; have HB2 := Aside0.mk (below_step hb1 hb2); clear hb1 hb2))
          go_ret
          refine ⟨?_, HB2.out⟩
          rw [sameE_eq x y, V0.out, V1.out, V2.out, V3.out]
          rfl
        | true =>
          have V3 := Aside0.mk v3
          cases v4 : all2 sameE x.kids y.kids with
          | false =>
            have V4 := Aside0.mk v4
            clear v4
            go_enter Tryd.func11, Tryd.ntmps11
            go_wp2_with (first | ((with_reducible refine gate_dst (N := 2) rfl ?_); refine box_event ?hg (N := 2) ?hd (cs := #[.int .i64 x.kind, .int .i64 x.pos.line, .int .i64 x.pos.col, .int .i64 x.num, .string x.name, .int .i64 x.op, .slice A6 x.kids.length a6]) (t := 31) ?hr ?_; (case hd => rfl); (case hg => rfl); (case hr => first | (go_simp; done) | (go_simp; rfl)); intro g1 hg1 W1 hbox1 hb1; have Hbox1 := Lib.hid hbox1; clear hg1 hbox1; have a0 : W1.cell? ⟨g1, 0, none⟩ = some (.int .i64 x.kind) := (blk_cell Hbox1.out 0).trans rfl; have a3 : W1.cell? ⟨g1, 3, none⟩ = some (.int .i64 x.num) := (blk_cell Hbox1.out 3).trans rfl; have a4 : W1.cell? ⟨g1, 4, none⟩ = some (.string x.name) := (blk_cell Hbox1.out 4).trans rfl; have a5 : W1.cell? ⟨g1, 5, none⟩ = some (.int .i64 x.op) := (blk_cell Hbox1.out 5).trans rfl; have a6 : W1.cell? ⟨g1, 6, none⟩ = some (.slice A6 x.kids.length a6) := (blk_cell Hbox1.out 6).trans rfl) | ((with_reducible refine gate_dst (N := 3) rfl ?_); refine box_event ?hg (N := 3) ?hd (cs := #[.int .i64 y.kind, .int .i64 y.pos.line, .int .i64 y.pos.col, .int .i64 y.num, .string y.name, .int .i64 y.op, .slice B6 y.kids.length b6]) (t := 31) ?hr ?_; (case hd => rfl); (case hg => rfl); (case hr => first | (go_simp; done) | (go_simp; rfl)); intro g2 hg2 W2 hbox2 hb2; have Hbox2 := Lib.hid hbox2; clear hg2 hbox2; replace a0 := pw_cell_below hb2 a0; replace a3 := pw_cell_below hb2 a3; replace a4 := pw_cell_below hb2 a4; replace a5 := pw_cell_below hb2 a5; replace a6 := pw_cell_below hb2 a6; have b0 : W2.cell? ⟨g2, 0, none⟩ = some (.int .i64 y.kind) := (blk_cell Hbox2.out 0).trans rfl; have b3 : W2.cell? ⟨g2, 3, none⟩ = some (.int .i64 y.num) := (blk_cell Hbox2.out 3).trans rfl; have b4 : W2.cell? ⟨g2, 4, none⟩ = some (.string y.name) := (blk_cell Hbox2.out 4).trans rfl; have b5 : W2.cell? ⟨g2, 5, none⟩ = some (.int .i64 y.op) := (blk_cell Hbox2.out 5).trans rfl; have b6 : W2.cell? ⟨g2, 6, none⟩ = some (.slice B6 y.kids.length b6) := (blk_cell Hbox2.out 6).trans rfl; have HB2 := Aside0.mk (below_step hb1 hb2); clear hb1 hb2) | (go_at_call 23; (with_reducible refine (eqfExpr x.kids y.kids _ _ _ _ _ (Kd.C_below hx6.out HB2.out) (Kd.C_below hy6.out HB2.out) ih).mono ?_); rintro e W3 ⟨rfl, hb3⟩; rw [V4.out]; replace a0 := pw_cell_below hb3 a0; replace b0 := pw_cell_below hb3 b0; replace a3 := pw_cell_below hb3 a3; replace b3 := pw_cell_below hb3 b3; replace a4 := pw_cell_below hb3 a4; replace b4 := pw_cell_below hb3 b4; replace a5 := pw_cell_below hb3 a5; replace b5 := pw_cell_below hb3 b5; replace a6 := pw_cell_below hb3 a6; replace b6 := pw_cell_below hb3 b6; have HB3 := Aside0.mk (below_step HB2.out hb3); clear hb3))
            go_ret
            refine ⟨?_, HB3.out⟩
            rw [sameE_eq x y, V0.out, V1.out, V2.out, V3.out, V4.out]
            rfl
          | true =>
            have V4 := Aside0.mk v4
            clear v4
            go_enter Tryd.func11, Tryd.ntmps11
            go_wp2_with (first | ((with_reducible refine gate_dst (N := 2) rfl ?_); refine box_event ?hg (N := 2) ?hd (cs := #[.int .i64 x.kind, .int .i64 x.pos.line, .int .i64 x.pos.col, .int .i64 x.num, .string x.name, .int .i64 x.op, .slice A6 x.kids.length a6]) (t := 31) ?hr ?_; (case hd => rfl); (case hg => rfl); (case hr => first | (go_simp; done) | (go_simp; rfl)); intro g1 hg1 W1 hbox1 hb1; have Hbox1 := Lib.hid hbox1; clear hg1 hbox1; have a0 : W1.cell? ⟨g1, 0, none⟩ = some (.int .i64 x.kind) := (blk_cell Hbox1.out 0).trans rfl; have a3 : W1.cell? ⟨g1, 3, none⟩ = some (.int .i64 x.num) := (blk_cell Hbox1.out 3).trans rfl; have a4 : W1.cell? ⟨g1, 4, none⟩ = some (.string x.name) := (blk_cell Hbox1.out 4).trans rfl; have a5 : W1.cell? ⟨g1, 5, none⟩ = some (.int .i64 x.op) := (blk_cell Hbox1.out 5).trans rfl; have a6 : W1.cell? ⟨g1, 6, none⟩ = some (.slice A6 x.kids.length a6) := (blk_cell Hbox1.out 6).trans rfl) | ((with_reducible refine gate_dst (N := 3) rfl ?_); refine box_event ?hg (N := 3) ?hd (cs := #[.int .i64 y.kind, .int .i64 y.pos.line, .int .i64 y.pos.col, .int .i64 y.num, .string y.name, .int .i64 y.op, .slice B6 y.kids.length b6]) (t := 31) ?hr ?_; (case hd => rfl); (case hg => rfl); (case hr => first | (go_simp; done) | (go_simp; rfl)); intro g2 hg2 W2 hbox2 hb2; have Hbox2 := Lib.hid hbox2; clear hg2 hbox2; replace a0 := pw_cell_below hb2 a0; replace a3 := pw_cell_below hb2 a3; replace a4 := pw_cell_below hb2 a4; replace a5 := pw_cell_below hb2 a5; replace a6 := pw_cell_below hb2 a6; have b0 : W2.cell? ⟨g2, 0, none⟩ = some (.int .i64 y.kind) := (blk_cell Hbox2.out 0).trans rfl; have b3 : W2.cell? ⟨g2, 3, none⟩ = some (.int .i64 y.num) := (blk_cell Hbox2.out 3).trans rfl; have b4 : W2.cell? ⟨g2, 4, none⟩ = some (.string y.name) := (blk_cell Hbox2.out 4).trans rfl; have b5 : W2.cell? ⟨g2, 5, none⟩ = some (.int .i64 y.op) := (blk_cell Hbox2.out 5).trans rfl; have b6 : W2.cell? ⟨g2, 6, none⟩ = some (.slice B6 y.kids.length b6) := (blk_cell Hbox2.out 6).trans rfl; have HB2 := Aside0.mk (below_step hb1 hb2); clear hb1 hb2) | (go_at_call 23; (with_reducible refine (eqfExpr x.kids y.kids _ _ _ _ _ (Kd.C_below hx6.out HB2.out) (Kd.C_below hy6.out HB2.out) ih).mono ?_); rintro e W3 ⟨rfl, hb3⟩; rw [V4.out]; replace a0 := pw_cell_below hb3 a0; replace b0 := pw_cell_below hb3 b0; replace a3 := pw_cell_below hb3 a3; replace b3 := pw_cell_below hb3 b3; replace a4 := pw_cell_below hb3 a4; replace b4 := pw_cell_below hb3 b4; replace a5 := pw_cell_below hb3 a5; replace b5 := pw_cell_below hb3 b5; replace a6 := pw_cell_below hb3 a6; replace b6 := pw_cell_below hb3 b6; have HB3 := Aside0.mk (below_step HB2.out hb3); clear hb3))
            go_ret
            refine ⟨?_, HB3.out⟩
            rw [sameE_eq x y, V0.out, V1.out, V2.out, V3.out, V4.out]
            rfl


/-- WHAT Expr.Same COMPUTES. -/
theorem sameE_calls (n : Nat) : ∀ (x : Expr), SizeOf.sizeOf x ≤ n → ∀ (y : Expr) (cs ds : List Value) (w : World), kExpr.K w x cs → kExpr.K w y ds → Calls Tryd.prog 11 #[.agg cs.toArray, .agg ds.toArray] w fun e w' => e = .returned (.bool (sameE x y)) ∧ Below w.heap.size w w' := by
  induction n with
  | zero =>
    intro x hx
    cases x
    simp at hx
  | succ n ih =>
    intro x hx y cs ds w h1 h2
    exact sameE_step x y cs ds w h1 h2 (fun p hp q _ cs ds w h1 h2 => ih p (by have := kid_size hp; omega) q cs ds w h1 h2)
theorem sameE_any (x y : Expr) (cs ds : List Value) (w : World) (h1 : kExpr.K w x cs) (h2 : kExpr.K w y ds) : Calls Tryd.prog 11 #[.agg cs.toArray, .agg ds.toArray] w fun e w' => e = .returned (.bool (sameE x y)) ∧ Below w.heap.size w w' := sameE_calls _ x (Nat.le_refl _) y cs ds w h1 h2

theorem strs_eq (xs ys : List ByteArray) (A B : Option Addr) (c d : Nat) (w : World) (hx : Kd.string.C w A xs.length xs) (hy : Kd.string.C w B ys.length ys) :
    Calls Tryd.prog 29 #[.slice A xs.length c, .slice B ys.length d] w fun e w' => e = .returned (.bool (decide (xs = ys))) ∧ Below w.heap.size w w' := by
  have rx : ReadsOf Value.string ByteArray.empty w A xs.length xs := Kd.reads_of_C (d := ByteArray.empty) hx
  have ry : ReadsOf Value.string ByteArray.empty w B ys.length ys := Kd.reads_of_C (d := ByteArray.empty) hy
  by_cases hl : xs.length = ys.length
  · rcases Nat.eq_zero_or_pos xs.length with h0 | h0
    · have e0 : ys.length = 0 := by omega
      have ex := List.eq_nil_of_length_eq_zero h0
      have ey := List.eq_nil_of_length_eq_zero e0
      rw [h0]
      refine (Tryd.slices_Equal_string_empty A B c ys.length d w (by omega)).mono fun e w' ⟨he, hw⟩ => ⟨?_, hw ▸ Below.refl _ _⟩
      rw [he, ex, ey]
      rfl
    · obtain ⟨ad, rfl, hcx⟩ := rx.2.2 h0
      obtain ⟨bd, rfl, hcy⟩ := ry.2.2 (by omega)
      have px : ad.spot = none := by simpa [Addr.add] using cell_plain (hcx 0 h0)
      have py : bd.spot = none := by simpa [Addr.add] using cell_plain (hcy 0 (by omega))
      rw [addr_plain px, addr_plain py]
      refine (Tryd.slices_Equal_string ad.block ad.off xs.length c bd.block bd.off ys.length d xs ys w (Nat.le_refl _) (Nat.le_refl _) rx.2.1 ry.2.1 (fun j hj => ?_) (fun j hj => ?_)).mono fun e w' ⟨he, hw⟩ => ⟨?_, ?_⟩
      · rw [← add_of_plain px]; exact hcx j hj
      · rw [← add_of_plain py]; exact hcy j hj
      · rw [he, List.take_length, List.take_length]
      · obtain ⟨q, rfl⟩ := hw
        exact pw_below_drewN (Below.refl _ _) q
  · refine (Tryd.slices_Equal_string_lens A B xs.length c ys.length d w hl).mono fun e w' ⟨he, hw⟩ => ⟨?_, hw ▸ Below.refl _ _⟩
    rw [he, decide_eq_false (fun h => hl (by rw [h]))]

mutual
/-- Are two statements the same, wherever they stand? -/
def sameS : Stmt → Stmt → Bool
  | ⟨does, _, name, es, thens, elses⟩, o => does == o.does && (name.toList == o.name.toList && (all2 sameE es o.es && (sameSs thens o.thens && sameSs elses o.elses)))
def sameSs : List Stmt → List Stmt → Bool
  | [], [] => true
  | x :: r, y :: s => sameS x y && sameSs r s
  | _, _ => false
end
theorem sameSs_all2 : ∀ (xs ys : List Stmt), sameSs xs ys = all2 sameS xs ys
  | [], [] => by simp [sameSs, all2]
  | x :: r, y :: s => by rw [sameSs, all2, sameSs_all2 r s]
  | [], y :: s => by simp [sameSs, all2]
  | x :: r, [] => by simp [sameSs, all2]
theorem sameS_eq (x o : Stmt) : sameS x o = (x.does == o.does && (x.name.toList == o.name.toList && (all2 sameE x.es o.es && (all2 sameS x.thens o.thens && all2 sameS x.elses o.elses)))) := by
  cases x
  rw [sameS, sameSs_all2, sameSs_all2]
def sameG (x o : Global) : Bool := x.name.toList == o.name.toList && (x.hold == o.hold && x.size == o.size)
theorem sameG_eq (x o : Global) : sameG x o = (x.name.toList == o.name.toList && (x.hold == o.hold && x.size == o.size)) := rfl
def sameF (x o : Fun) : Bool := x.name.toList == o.name.toList && (decide (x.params = o.params) && all2 sameS x.body o.body)
theorem sameF_eq (x o : Fun) : sameF x o = (x.name.toList == o.name.toList && (decide (x.params = o.params) && all2 sameS x.body o.body)) := rfl
def sameP (x o : Prog) : Bool := all2 sameG x.globals o.globals && all2 sameF x.funcs o.funcs
theorem sameP_eq (x o : Prog) : sameP x o = (all2 sameG x.globals o.globals && all2 sameF x.funcs o.funcs) := rfl
theorem then_size {x y : Stmt} (h : y ∈ x.thens) : SizeOf.sizeOf y < SizeOf.sizeOf x := by
  cases x with
  | mk does pos name es thens elses =>
    have := List.sizeOf_lt_of_mem h
    simp at this ⊢
    omega
theorem else_size {x y : Stmt} (h : y ∈ x.elses) : SizeOf.sizeOf y < SizeOf.sizeOf x := by
  cases x with
  | mk does pos name es thens elses =>
    have := List.sizeOf_lt_of_mem h
    simp at this ⊢
    omega

set_option maxRecDepth 100000 in
set_option maxHeartbeats 1600000 in
theorem eqfStmt (xs ys : List Stmt) (A B : Option Addr) (c d : Nat) (w : World) (hx : kStmt.C w A xs.length xs) (hy : kStmt.C w B ys.length ys)
    (ih : ∀ x, x ∈ xs → ∀ y, y ∈ ys → ∀ cs ds w, kStmt.K w x cs → kStmt.K w y ds → Calls Tryd.prog 12 #[.agg cs.toArray, .agg ds.toArray] w fun e w' => e = .returned (.bool (sameS x y)) ∧ Below w.heap.size w w') :
    Calls Tryd.prog 24 #[.slice A xs.length c, .slice B ys.length d, .func (.func 12) #[] #[]] w fun e w' => e = .returned (.bool (all2 sameS xs ys)) ∧ Below w.heap.size w w' := by
  by_cases hl : xs.length = ys.length
  · have hn : ((xs.length : Int) != (ys.length : Int)) = false := by simp [hl]
    have hl' : ys.length = xs.length := hl.symm
    have Hl := Lib.hid hl
    rw [hl'] at hy hn ⊢
    have hm := hx.2.1
    clear hl hl'
    go_enter Tryd.func24, Tryd.ntmps24
    go_wp2_with fail
    go_loopg [17] xs.length (fun kq v17 w' => ∃ i : Int, v17 = .int .i64 i ∧ 0 ≤ i ∧ kq + i.toNat = xs.length ∧ Aside0 (∀ j, j < i.toNat → sameS (xs.getD j zStmt) (ys.getD j zStmt) = true) ∧ Aside0 (Below w.heap.size w w'))
    case atStart => exact ⟨0, rfl, by omega, by simp, ⟨fun j hj => absurd hj (by simp)⟩, ⟨Below.refl _ _⟩⟩
    case round =>
      obtain ⟨i, rfl, hi0, hk, HS, HB⟩ := hrel
      cases gk with
      | zero =>
        have hge : decide (i < (xs.length : Int)) = false := by simp; omega
        go_wp2_with fail
        go_ret
        refine ⟨?_, HB.out⟩
        rw [all2_true _ zStmt zStmt xs ys Hl.out (fun j hj => HS.out j (by omega))]
        rfl
      | succ k1 =>
        have hi1 : i < (xs.length : Int) := by omega
        have hx1 := Kd.C_below hx HB.out
        have hy1 := Kd.C_below hy HB.out
        obtain ⟨ad, A4, a4, A5, a5, A6, a6, ea, e0, e1, e2, e3, e4, e5, e6, el4, eg4, el5, eg5, el6, eg6⟩ := atStmt hx1 i hi0 hi1
        obtain ⟨bd, B4, b4, B5, b5, B6, b6, fa, f0, f1, f2, f3, f4, f5, f6, fl4, fg4, fl5, fg5, fl6, fg6⟩ := atStmt hy1 i hi0 hi1
        obtain rfl := ea
        obtain rfl := fa
        have K0 : kStmt.K wr (rdStmt xs i) [.int .i64 (rdStmt xs i).does, .int .i64 (rdStmt xs i).pos.line, .int .i64 (rdStmt xs i).pos.col, .string (rdStmt xs i).name, .slice A4 (rdStmt xs i).es.length a4, .slice A5 (rdStmt xs i).thens.length a5, .slice A6 (rdStmt xs i).elses.length a6] := kStmt_mk wr _ el4 eg4 el5 eg5 el6 eg6
        have K1 : kStmt.K wr (rdStmt ys i) [.int .i64 (rdStmt ys i).does, .int .i64 (rdStmt ys i).pos.line, .int .i64 (rdStmt ys i).pos.col, .string (rdStmt ys i).name, .slice B4 (rdStmt ys i).es.length b4, .slice B5 (rdStmt ys i).thens.length b5, .slice B6 (rdStmt ys i).elses.length b6] := kStmt_mk wr _ fl4 fg4 fl5 fg5 fl6 fg6
        have hmx : rdStmt xs i ∈ xs := rdStmt_mem _ _ hi0 hi1
        have hmy : rdStmt ys i ∈ ys := rdStmt_mem _ _ hi0 (by rw [← Hl.out]; exact hi1)
        have q0 : ∀ o, (wr.alloc o).cell? (bd.add (i.toNat * 7)) = some (.int .i64 (rdStmt ys i).does) := fun o => pw_cell_below ((Below.refl _ _).alloc (Nat.le_refl _) o) f0
        have q1 : ∀ o, (wr.alloc o).cell? ⟨(bd.add (i.toNat * 7)).block, (bd.add (i.toNat * 7)).off + 1, none⟩ = some (.int .i64 (rdStmt ys i).pos.line) := fun o => pw_cell_below ((Below.refl _ _).alloc (Nat.le_refl _) o) f1
        have q2 : ∀ o, (wr.alloc o).cell? ⟨(bd.add (i.toNat * 7)).block, (bd.add (i.toNat * 7)).off + 2, none⟩ = some (.int .i64 (rdStmt ys i).pos.col) := fun o => pw_cell_below ((Below.refl _ _).alloc (Nat.le_refl _) o) f2
        have q3 : ∀ o, (wr.alloc o).cell? ⟨(bd.add (i.toNat * 7)).block, (bd.add (i.toNat * 7)).off + 3, none⟩ = some (.string (rdStmt ys i).name) := fun o => pw_cell_below ((Below.refl _ _).alloc (Nat.le_refl _) o) f3
        have q4 : ∀ o, (wr.alloc o).cell? ⟨(bd.add (i.toNat * 7)).block, (bd.add (i.toNat * 7)).off + 4, none⟩ = some (.slice B4 (rdStmt ys i).es.length b4) := fun o => pw_cell_below ((Below.refl _ _).alloc (Nat.le_refl _) o) f4
        have q5 : ∀ o, (wr.alloc o).cell? ⟨(bd.add (i.toNat * 7)).block, (bd.add (i.toNat * 7)).off + 5, none⟩ = some (.slice B5 (rdStmt ys i).thens.length b5) := fun o => pw_cell_below ((Below.refl _ _).alloc (Nat.le_refl _) o) f5
        have q6 : ∀ o, (wr.alloc o).cell? ⟨(bd.add (i.toNat * 7)).block, (bd.add (i.toNat * 7)).off + 6, none⟩ = some (.slice B6 (rdStmt ys i).elses.length b6) := fun o => pw_cell_below ((Below.refl _ _).alloc (Nat.le_refl _) o) f6
        clear f0 f1 f2 f3 f4 f5 f6
        have hb2 : ∀ o o', Below wr.heap.size wr ((wr.alloc o).alloc o') := fun o o' => ((Below.refl _ _).alloc (Nat.le_refl _) o).alloc (by simp) o'
        have HB2 := Aside0.mk hb2
        have Rest := Aside0.mk (⟨hx1, hy1, el4, eg4, el5, eg5, el6, eg6, fl4, fg4, fl5, fg5, fl6, fg6⟩ : _ ∧ _ ∧ _ ∧ _ ∧ _ ∧ _ ∧ _ ∧ _ ∧ _ ∧ _ ∧ _ ∧ _ ∧ _ ∧ _)
        clear hb2 hx1 hy1 el4 eg4 el5 eg5 el6 eg6 fl4 fg4 fl5 fg5 fl6 fg6
        cases hv : sameS (rdStmt xs i) (rdStmt ys i) with
        | true =>
          have Hv := Aside0.mk hv
          go_wp2_with (first | (go_at_call 12; refine (ih _ hmx _ hmy _ _ _ (kStmt.K_below (HB2.out _ _) K0) (kStmt.K_below (HB2.out _ _) K1)).mono ?_; rintro e w1 ⟨rfl, hb1⟩; rw [Hv.out]; have HB1 := Aside0.mk (below_step (below_step HB.out (HB2.out _ _)) hb1); clear hb1))
          go_roundg k1
          case measure => omega
          case rel =>
            refine ⟨i + 1, rfl, by omega, by omega, ⟨fun j hj => ?_⟩, HB1⟩
            by_cases hji : j < i.toNat
            · exact HS.out j hji
            · obtain rfl : j = i.toNat := by omega
              exact Hv.out
        | false =>
          have Hv := Aside0.mk hv
          go_wp2_with (first | (go_at_call 12; refine (ih _ hmx _ hmy _ _ _ (kStmt.K_below (HB2.out _ _) K0) (kStmt.K_below (HB2.out _ _) K1)).mono ?_; rintro e w1 ⟨rfl, hb1⟩; rw [Hv.out]; have HB1 := Aside0.mk (below_step (below_step HB.out (HB2.out _ _)) hb1); clear hb1))
          go_ret
          refine ⟨?_, HB1.out⟩
          rw [all2_false _ zStmt zStmt xs ys i.toNat (by omega) (by rw [← Hl.out]; omega) Hv.out]
          rfl
  · have hn : ((xs.length : Int) != (ys.length : Int)) = true := bne_iff_ne.2 (by omega)
    have Hl := Lib.hid hl
    clear hl
    go_enter Tryd.func24, Tryd.ntmps24
    go_wp2_with fail
    go_ret
    exact ⟨by rw [all2_len _ xs ys Hl.out]; rfl, Below.refl _ _⟩
set_option maxRecDepth 100000 in
set_option maxHeartbeats 1600000 in
theorem sameS_step (x y : Stmt) (cs ds : List Value) (w : World) (hx : kStmt.K w x cs) (hy : kStmt.K w y ds)
    (iht : ∀ p, p ∈ x.thens → ∀ q, q ∈ y.thens → ∀ cs ds w, kStmt.K w p cs → kStmt.K w q ds → Calls Tryd.prog 12 #[.agg cs.toArray, .agg ds.toArray] w fun e w' => e = .returned (.bool (sameS p q)) ∧ Below w.heap.size w w')
    (ihe : ∀ p, p ∈ x.elses → ∀ q, q ∈ y.elses → ∀ cs ds w, kStmt.K w p cs → kStmt.K w q ds → Calls Tryd.prog 12 #[.agg cs.toArray, .agg ds.toArray] w fun e w' => e = .returned (.bool (sameS p q)) ∧ Below w.heap.size w w') :
    Calls Tryd.prog 12 #[.agg cs.toArray, .agg ds.toArray] w fun e w' => e = .returned (.bool (sameS x y)) ∧ Below w.heap.size w w' := by
  obtain ⟨A4, a4, A5, a5, A6, a6, rfl, el4, eg4, el5, eg5, el6, eg6⟩ := kStmt_open hx
  obtain ⟨B4, b4, B5, b5, B6, b6, rfl, fl4, fg4, fl5, fg5, fl6, fg6⟩ := kStmt_open hy
  have hx4 := Aside0.mk eg4
  have hy4 := Aside0.mk fg4
  have lx4 := Aside0.mk el4
  have ly4 := Aside0.mk fl4
  clear eg4 fg4 el4 fl4
  have hx5 := Aside0.mk eg5
  have hy5 := Aside0.mk fg5
  have lx5 := Aside0.mk el5
  have ly5 := Aside0.mk fl5
  clear eg5 fg5 el5 fl5
  have hx6 := Aside0.mk eg6
  have hy6 := Aside0.mk fg6
  have lx6 := Aside0.mk el6
  have ly6 := Aside0.mk fl6
  clear eg6 fg6 el6 fl6
  clear hx hy
  cases v0 : (x.does == y.does) with
  | false =>
    have V0 := Aside0.mk v0
    go_enter Tryd.func12, Tryd.ntmps12
    go_wp2_with (first | ((with_reducible refine gate_dst (N := 2) rfl ?_); refine box_event ?hg (N := 2) ?hd (cs := #[.int .i64 x.does, .int .i64 x.pos.line, .int .i64 x.pos.col, .string x.name, .slice A4 x.es.length a4, .slice A5 x.thens.length a5, .slice A6 x.elses.length a6]) (t := 38) ?hr ?_; (case hd => rfl); (case hg => rfl); (case hr => first | (go_simp; done) | (go_simp; rfl)); intro g1 hg1 W1 hbox1 hb1; have Hbox1 := Lib.hid hbox1; clear hg1 hbox1; have a0 : W1.cell? ⟨g1, 0, none⟩ = some (.int .i64 x.does) := (blk_cell Hbox1.out 0).trans rfl; have a3 : W1.cell? ⟨g1, 3, none⟩ = some (.string x.name) := (blk_cell Hbox1.out 3).trans rfl; have a4 : W1.cell? ⟨g1, 4, none⟩ = some (.slice A4 x.es.length a4) := (blk_cell Hbox1.out 4).trans rfl; have a5 : W1.cell? ⟨g1, 5, none⟩ = some (.slice A5 x.thens.length a5) := (blk_cell Hbox1.out 5).trans rfl; have a6 : W1.cell? ⟨g1, 6, none⟩ = some (.slice A6 x.elses.length a6) := (blk_cell Hbox1.out 6).trans rfl) | ((with_reducible refine gate_dst (N := 3) rfl ?_); refine box_event ?hg (N := 3) ?hd (cs := #[.int .i64 y.does, .int .i64 y.pos.line, .int .i64 y.pos.col, .string y.name, .slice B4 y.es.length b4, .slice B5 y.thens.length b5, .slice B6 y.elses.length b6]) (t := 38) ?hr ?_; (case hd => rfl); (case hg => rfl); (case hr => first | (go_simp; done) | (go_simp; rfl)); intro g2 hg2 W2 hbox2 hb2; have Hbox2 := Lib.hid hbox2; clear hg2 hbox2; replace a0 := pw_cell_below hb2 a0; replace a3 := pw_cell_below hb2 a3; replace a4 := pw_cell_below hb2 a4; replace a5 := pw_cell_below hb2 a5; replace a6 := pw_cell_below hb2 a6; have b0 : W2.cell? ⟨g2, 0, none⟩ = some (.int .i64 y.does) := (blk_cell Hbox2.out 0).trans rfl; have b3 : W2.cell? ⟨g2, 3, none⟩ = some (.string y.name) := (blk_cell Hbox2.out 3).trans rfl; have b4 : W2.cell? ⟨g2, 4, none⟩ = some (.slice B4 y.es.length b4) := (blk_cell Hbox2.out 4).trans rfl; have b5 : W2.cell? ⟨g2, 5, none⟩ = some (.slice B5 y.thens.length b5) := (blk_cell Hbox2.out 5).trans rfl; have b6 : W2.cell? ⟨g2, 6, none⟩ = some (.slice B6 y.elses.length b6) := (blk_cell Hbox2.out 6).trans rfl; have HB2 := Aside0.mk (below_step hb1 hb2); clear hb1 hb2))
    go_ret
    refine ⟨?_, HB2.out⟩
    rw [sameS_eq x y, V0.out]
    rfl
  | true =>
    have V0 := Aside0.mk v0
    cases v1 : (x.name.toList == y.name.toList) with
    | false =>
      have V1 := Aside0.mk v1
      go_enter Tryd.func12, Tryd.ntmps12
      go_wp2_with (first | ((with_reducible refine gate_dst (N := 2) rfl ?_); refine box_event ?hg (N := 2) ?hd (cs := #[.int .i64 x.does, .int .i64 x.pos.line, .int .i64 x.pos.col, .string x.name, .slice A4 x.es.length a4, .slice A5 x.thens.length a5, .slice A6 x.elses.length a6]) (t := 38) ?hr ?_; (case hd => rfl); (case hg => rfl); (case hr => first | (go_simp; done) | (go_simp; rfl)); intro g1 hg1 W1 hbox1 hb1; have Hbox1 := Lib.hid hbox1; clear hg1 hbox1; have a0 : W1.cell? ⟨g1, 0, none⟩ = some (.int .i64 x.does) := (blk_cell Hbox1.out 0).trans rfl; have a3 : W1.cell? ⟨g1, 3, none⟩ = some (.string x.name) := (blk_cell Hbox1.out 3).trans rfl; have a4 : W1.cell? ⟨g1, 4, none⟩ = some (.slice A4 x.es.length a4) := (blk_cell Hbox1.out 4).trans rfl; have a5 : W1.cell? ⟨g1, 5, none⟩ = some (.slice A5 x.thens.length a5) := (blk_cell Hbox1.out 5).trans rfl; have a6 : W1.cell? ⟨g1, 6, none⟩ = some (.slice A6 x.elses.length a6) := (blk_cell Hbox1.out 6).trans rfl) | ((with_reducible refine gate_dst (N := 3) rfl ?_); refine box_event ?hg (N := 3) ?hd (cs := #[.int .i64 y.does, .int .i64 y.pos.line, .int .i64 y.pos.col, .string y.name, .slice B4 y.es.length b4, .slice B5 y.thens.length b5, .slice B6 y.elses.length b6]) (t := 38) ?hr ?_; (case hd => rfl); (case hg => rfl); (case hr => first | (go_simp; done) | (go_simp; rfl)); intro g2 hg2 W2 hbox2 hb2; have Hbox2 := Lib.hid hbox2; clear hg2 hbox2; replace a0 := pw_cell_below hb2 a0; replace a3 := pw_cell_below hb2 a3; replace a4 := pw_cell_below hb2 a4; replace a5 := pw_cell_below hb2 a5; replace a6 := pw_cell_below hb2 a6; have b0 : W2.cell? ⟨g2, 0, none⟩ = some (.int .i64 y.does) := (blk_cell Hbox2.out 0).trans rfl; have b3 : W2.cell? ⟨g2, 3, none⟩ = some (.string y.name) := (blk_cell Hbox2.out 3).trans rfl; have b4 : W2.cell? ⟨g2, 4, none⟩ = some (.slice B4 y.es.length b4) := (blk_cell Hbox2.out 4).trans rfl; have b5 : W2.cell? ⟨g2, 5, none⟩ = some (.slice B5 y.thens.length b5) := (blk_cell Hbox2.out 5).trans rfl; have b6 : W2.cell? ⟨g2, 6, none⟩ = some (.slice B6 y.elses.length b6) := (blk_cell Hbox2.out 6).trans rfl; have HB2 := Aside0.mk (below_step hb1 hb2); clear hb1 hb2))
      go_ret
      refine ⟨?_, HB2.out⟩
      rw [sameS_eq x y, V0.out, V1.out]
      rfl
    | true =>
      have V1 := Aside0.mk v1
      cases v2 : all2 sameE x.es y.es with
      | false =>
        have V2 := Aside0.mk v2
        clear v2
        go_enter Tryd.func12, Tryd.ntmps12
        go_wp2_with (first | ((with_reducible refine gate_dst (N := 2) rfl ?_); refine box_event ?hg (N := 2) ?hd (cs := #[.int .i64 x.does, .int .i64 x.pos.line, .int .i64 x.pos.col, .string x.name, .slice A4 x.es.length a4, .slice A5 x.thens.length a5, .slice A6 x.elses.length a6]) (t := 38) ?hr ?_; (case hd => rfl); (case hg => rfl); (case hr => first | (go_simp; done) | (go_simp; rfl)); intro g1 hg1 W1 hbox1 hb1; have Hbox1 := Lib.hid hbox1; clear hg1 hbox1; have a0 : W1.cell? ⟨g1, 0, none⟩ = some (.int .i64 x.does) := (blk_cell Hbox1.out 0).trans rfl; have a3 : W1.cell? ⟨g1, 3, none⟩ = some (.string x.name) := (blk_cell Hbox1.out 3).trans rfl; have a4 : W1.cell? ⟨g1, 4, none⟩ = some (.slice A4 x.es.length a4) := (blk_cell Hbox1.out 4).trans rfl; have a5 : W1.cell? ⟨g1, 5, none⟩ = some (.slice A5 x.thens.length a5) := (blk_cell Hbox1.out 5).trans rfl; have a6 : W1.cell? ⟨g1, 6, none⟩ = some (.slice A6 x.elses.length a6) := (blk_cell Hbox1.out 6).trans rfl) | ((with_reducible refine gate_dst (N := 3) rfl ?_); refine box_event ?hg (N := 3) ?hd (cs := #[.int .i64 y.does, .int .i64 y.pos.line, .int .i64 y.pos.col, .string y.name, .slice B4 y.es.length b4, .slice B5 y.thens.length b5, .slice B6 y.elses.length b6]) (t := 38) ?hr ?_; (case hd => rfl); (case hg => rfl); (case hr => first | (go_simp; done) | (go_simp; rfl)); intro g2 hg2 W2 hbox2 hb2; have Hbox2 := Lib.hid hbox2; clear hg2 hbox2; replace a0 := pw_cell_below hb2 a0; replace a3 := pw_cell_below hb2 a3; replace a4 := pw_cell_below hb2 a4; replace a5 := pw_cell_below hb2 a5; replace a6 := pw_cell_below hb2 a6; have b0 : W2.cell? ⟨g2, 0, none⟩ = some (.int .i64 y.does) := (blk_cell Hbox2.out 0).trans rfl; have b3 : W2.cell? ⟨g2, 3, none⟩ = some (.string y.name) := (blk_cell Hbox2.out 3).trans rfl; have b4 : W2.cell? ⟨g2, 4, none⟩ = some (.slice B4 y.es.length b4) := (blk_cell Hbox2.out 4).trans rfl; have b5 : W2.cell? ⟨g2, 5, none⟩ = some (.slice B5 y.thens.length b5) := (blk_cell Hbox2.out 5).trans rfl; have b6 : W2.cell? ⟨g2, 6, none⟩ = some (.slice B6 y.elses.length b6) := (blk_cell Hbox2.out 6).trans rfl; have HB2 := Aside0.mk (below_step hb1 hb2); clear hb1 hb2) | (go_at_call 23; (with_reducible refine (eqfExpr x.es y.es _ _ _ _ _ (Kd.C_below hx4.out HB2.out) (Kd.C_below hy4.out HB2.out) (fun p _ q _ cs ds w h1 h2 => sameE_any p q cs ds w h1 h2)).mono ?_); rintro e W3 ⟨rfl, hb3⟩; rw [V2.out]; replace a0 := pw_cell_below hb3 a0; replace b0 := pw_cell_below hb3 b0; replace a3 := pw_cell_below hb3 a3; replace b3 := pw_cell_below hb3 b3; replace a4 := pw_cell_below hb3 a4; replace b4 := pw_cell_below hb3 b4; replace a5 := pw_cell_below hb3 a5; replace b5 := pw_cell_below hb3 b5; replace a6 := pw_cell_below hb3 a6; replace b6 := pw_cell_below hb3 b6; have HB3 := Aside0.mk (below_step HB2.out hb3); clear hb3))
        go_ret
        refine ⟨?_, HB3.out⟩
        rw [sameS_eq x y, V0.out, V1.out, V2.out]
        rfl
      | true =>
        have V2 := Aside0.mk v2
        clear v2
        cases v3 : all2 sameS x.thens y.thens with
        | false =>
          have V3 := Aside0.mk v3
          clear v3
          go_enter Tryd.func12, Tryd.ntmps12
          go_wp2_with (first | ((with_reducible refine gate_dst (N := 2) rfl ?_); refine box_event ?hg (N := 2) ?hd (cs := #[.int .i64 x.does, .int .i64 x.pos.line, .int .i64 x.pos.col, .string x.name, .slice A4 x.es.length a4, .slice A5 x.thens.length a5, .slice A6 x.elses.length a6]) (t := 38) ?hr ?_; (case hd => rfl); (case hg => rfl); (case hr => first | (go_simp; done) | (go_simp; rfl)); intro g1 hg1 W1 hbox1 hb1; have Hbox1 := Lib.hid hbox1; clear hg1 hbox1; have a0 : W1.cell? ⟨g1, 0, none⟩ = some (.int .i64 x.does) := (blk_cell Hbox1.out 0).trans rfl; have a3 : W1.cell? ⟨g1, 3, none⟩ = some (.string x.name) := (blk_cell Hbox1.out 3).trans rfl; have a4 : W1.cell? ⟨g1, 4, none⟩ = some (.slice A4 x.es.length a4) := (blk_cell Hbox1.out 4).trans rfl; have a5 : W1.cell? ⟨g1, 5, none⟩ = some (.slice A5 x.thens.length a5) := (blk_cell Hbox1.out 5).trans rfl; have a6 : W1.cell? ⟨g1, 6, none⟩ = some (.slice A6 x.elses.length a6) := (blk_cell Hbox1.out 6).trans rfl) | ((with_reducible refine gate_dst (N := 3) rfl ?_); refine box_event ?hg (N := 3) ?hd (cs := #[.int .i64 y.does, .int .i64 y.pos.line, .int .i64 y.pos.col, .string y.name, .slice B4 y.es.length b4, .slice B5 y.thens.length b5, .slice B6 y.elses.length b6]) (t := 38) ?hr ?_; (case hd => rfl); (case hg => rfl); (case hr => first | (go_simp; done) | (go_simp; rfl)); intro g2 hg2 W2 hbox2 hb2; have Hbox2 := Lib.hid hbox2; clear hg2 hbox2; replace a0 := pw_cell_below hb2 a0; replace a3 := pw_cell_below hb2 a3; replace a4 := pw_cell_below hb2 a4; replace a5 := pw_cell_below hb2 a5; replace a6 := pw_cell_below hb2 a6; have b0 : W2.cell? ⟨g2, 0, none⟩ = some (.int .i64 y.does) := (blk_cell Hbox2.out 0).trans rfl; have b3 : W2.cell? ⟨g2, 3, none⟩ = some (.string y.name) := (blk_cell Hbox2.out 3).trans rfl; have b4 : W2.cell? ⟨g2, 4, none⟩ = some (.slice B4 y.es.length b4) := (blk_cell Hbox2.out 4).trans rfl; have b5 : W2.cell? ⟨g2, 5, none⟩ = some (.slice B5 y.thens.length b5) := (blk_cell Hbox2.out 5).trans rfl; have b6 : W2.cell? ⟨g2, 6, none⟩ = some (.slice B6 y.elses.length b6) := (blk_cell Hbox2.out 6).trans rfl; have HB2 := Aside0.mk (below_step hb1 hb2); clear hb1 hb2) | (go_at_call 23; (with_reducible refine (eqfExpr x.es y.es _ _ _ _ _ (Kd.C_below hx4.out HB2.out) (Kd.C_below hy4.out HB2.out) (fun p _ q _ cs ds w h1 h2 => sameE_any p q cs ds w h1 h2)).mono ?_); rintro e W3 ⟨rfl, hb3⟩; rw [V2.out]; replace a0 := pw_cell_below hb3 a0; replace b0 := pw_cell_below hb3 b0; replace a3 := pw_cell_below hb3 a3; replace b3 := pw_cell_below hb3 b3; replace a4 := pw_cell_below hb3 a4; replace b4 := pw_cell_below hb3 b4; replace a5 := pw_cell_below hb3 a5; replace b5 := pw_cell_below hb3 b5; replace a6 := pw_cell_below hb3 a6; replace b6 := pw_cell_below hb3 b6; have HB3 := Aside0.mk (below_step HB2.out hb3); clear hb3) | (go_at_call 24; (with_reducible refine (eqfStmt x.thens y.thens _ _ _ _ _ (Kd.C_below hx5.out HB3.out) (Kd.C_below hy5.out HB3.out) iht).mono ?_); rintro e W4 ⟨rfl, hb4⟩; rw [V3.out]; replace a0 := pw_cell_below hb4 a0; replace b0 := pw_cell_below hb4 b0; replace a3 := pw_cell_below hb4 a3; replace b3 := pw_cell_below hb4 b3; replace a4 := pw_cell_below hb4 a4; replace b4 := pw_cell_below hb4 b4; replace a5 := pw_cell_below hb4 a5; replace b5 := pw_cell_below hb4 b5; replace a6 := pw_cell_below hb4 a6; replace b6 := pw_cell_below hb4 b6; have HB4 := Aside0.mk (below_step HB3.out hb4); clear hb4))
          go_ret
          refine ⟨?_, HB4.out⟩
          rw [sameS_eq x y, V0.out, V1.out, V2.out, V3.out]
          rfl
        | true =>
          have V3 := Aside0.mk v3
          clear v3
          cases v4 : all2 sameS x.elses y.elses with
          | false =>
            have V4 := Aside0.mk v4
            clear v4
            go_enter Tryd.func12, Tryd.ntmps12
            go_wp2_with (first | ((with_reducible refine gate_dst (N := 2) rfl ?_); refine box_event ?hg (N := 2) ?hd (cs := #[.int .i64 x.does, .int .i64 x.pos.line, .int .i64 x.pos.col, .string x.name, .slice A4 x.es.length a4, .slice A5 x.thens.length a5, .slice A6 x.elses.length a6]) (t := 38) ?hr ?_; (case hd => rfl); (case hg => rfl); (case hr => first | (go_simp; done) | (go_simp; rfl)); intro g1 hg1 W1 hbox1 hb1; have Hbox1 := Lib.hid hbox1; clear hg1 hbox1; have a0 : W1.cell? ⟨g1, 0, none⟩ = some (.int .i64 x.does) := (blk_cell Hbox1.out 0).trans rfl; have a3 : W1.cell? ⟨g1, 3, none⟩ = some (.string x.name) := (blk_cell Hbox1.out 3).trans rfl; have a4 : W1.cell? ⟨g1, 4, none⟩ = some (.slice A4 x.es.length a4) := (blk_cell Hbox1.out 4).trans rfl; have a5 : W1.cell? ⟨g1, 5, none⟩ = some (.slice A5 x.thens.length a5) := (blk_cell Hbox1.out 5).trans rfl; have a6 : W1.cell? ⟨g1, 6, none⟩ = some (.slice A6 x.elses.length a6) := (blk_cell Hbox1.out 6).trans rfl) | ((with_reducible refine gate_dst (N := 3) rfl ?_); refine box_event ?hg (N := 3) ?hd (cs := #[.int .i64 y.does, .int .i64 y.pos.line, .int .i64 y.pos.col, .string y.name, .slice B4 y.es.length b4, .slice B5 y.thens.length b5, .slice B6 y.elses.length b6]) (t := 38) ?hr ?_; (case hd => rfl); (case hg => rfl); (case hr => first | (go_simp; done) | (go_simp; rfl)); intro g2 hg2 W2 hbox2 hb2; have Hbox2 := Lib.hid hbox2; clear hg2 hbox2; replace a0 := pw_cell_below hb2 a0; replace a3 := pw_cell_below hb2 a3; replace a4 := pw_cell_below hb2 a4; replace a5 := pw_cell_below hb2 a5; replace a6 := pw_cell_below hb2 a6; have b0 : W2.cell? ⟨g2, 0, none⟩ = some (.int .i64 y.does) := (blk_cell Hbox2.out 0).trans rfl; have b3 : W2.cell? ⟨g2, 3, none⟩ = some (.string y.name) := (blk_cell Hbox2.out 3).trans rfl; have b4 : W2.cell? ⟨g2, 4, none⟩ = some (.slice B4 y.es.length b4) := (blk_cell Hbox2.out 4).trans rfl; have b5 : W2.cell? ⟨g2, 5, none⟩ = some (.slice B5 y.thens.length b5) := (blk_cell Hbox2.out 5).trans rfl; have b6 : W2.cell? ⟨g2, 6, none⟩ = some (.slice B6 y.elses.length b6) := (blk_cell Hbox2.out 6).trans rfl; have HB2 := Aside0.mk (below_step hb1 hb2); clear hb1 hb2) | (go_at_call 23; (with_reducible refine (eqfExpr x.es y.es _ _ _ _ _ (Kd.C_below hx4.out HB2.out) (Kd.C_below hy4.out HB2.out) (fun p _ q _ cs ds w h1 h2 => sameE_any p q cs ds w h1 h2)).mono ?_); rintro e W3 ⟨rfl, hb3⟩; rw [V2.out]; replace a0 := pw_cell_below hb3 a0; replace b0 := pw_cell_below hb3 b0; replace a3 := pw_cell_below hb3 a3; replace b3 := pw_cell_below hb3 b3; replace a4 := pw_cell_below hb3 a4; replace b4 := pw_cell_below hb3 b4; replace a5 := pw_cell_below hb3 a5; replace b5 := pw_cell_below hb3 b5; replace a6 := pw_cell_below hb3 a6; replace b6 := pw_cell_below hb3 b6; have HB3 := Aside0.mk (below_step HB2.out hb3); clear hb3) | (go_at_call 24; (with_reducible refine (eqfStmt x.thens y.thens _ _ _ _ _ (Kd.C_below hx5.out HB3.out) (Kd.C_below hy5.out HB3.out) iht).mono ?_); rintro e W4 ⟨rfl, hb4⟩; rw [V3.out]; replace a0 := pw_cell_below hb4 a0; replace b0 := pw_cell_below hb4 b0; replace a3 := pw_cell_below hb4 a3; replace b3 := pw_cell_below hb4 b3; replace a4 := pw_cell_below hb4 a4; replace b4 := pw_cell_below hb4 b4; replace a5 := pw_cell_below hb4 a5; replace b5 := pw_cell_below hb4 b5; replace a6 := pw_cell_below hb4 a6; replace b6 := pw_cell_below hb4 b6; have HB4 := Aside0.mk (below_step HB3.out hb4); clear hb4) | (go_at_call 24; (with_reducible refine (eqfStmt x.elses y.elses _ _ _ _ _ (Kd.C_below hx6.out HB4.out) (Kd.C_below hy6.out HB4.out) ihe).mono ?_); rintro e W5 ⟨rfl, hb5⟩; rw [V4.out]; replace a0 := pw_cell_below hb5 a0; replace b0 := pw_cell_below hb5 b0; replace a3 := pw_cell_below hb5 a3; replace b3 := pw_cell_below hb5 b3; replace a4 := pw_cell_below hb5 a4; replace b4 := pw_cell_below hb5 b4; replace a5 := pw_cell_below hb5 a5; replace b5 := pw_cell_below hb5 b5; replace a6 := pw_cell_below hb5 a6; replace b6 := pw_cell_below hb5 b6; have HB5 := Aside0.mk (below_step HB4.out hb5); clear hb5))
            go_ret
            refine ⟨?_, HB5.out⟩
            rw [sameS_eq x y, V0.out, V1.out, V2.out, V3.out, V4.out]
            rfl
          | true =>
            have V4 := Aside0.mk v4
            clear v4
            go_enter Tryd.func12, Tryd.ntmps12
            go_wp2_with (first | ((with_reducible refine gate_dst (N := 2) rfl ?_); refine box_event ?hg (N := 2) ?hd (cs := #[.int .i64 x.does, .int .i64 x.pos.line, .int .i64 x.pos.col, .string x.name, .slice A4 x.es.length a4, .slice A5 x.thens.length a5, .slice A6 x.elses.length a6]) (t := 38) ?hr ?_; (case hd => rfl); (case hg => rfl); (case hr => first | (go_simp; done) | (go_simp; rfl)); intro g1 hg1 W1 hbox1 hb1; have Hbox1 := Lib.hid hbox1; clear hg1 hbox1; have a0 : W1.cell? ⟨g1, 0, none⟩ = some (.int .i64 x.does) := (blk_cell Hbox1.out 0).trans rfl; have a3 : W1.cell? ⟨g1, 3, none⟩ = some (.string x.name) := (blk_cell Hbox1.out 3).trans rfl; have a4 : W1.cell? ⟨g1, 4, none⟩ = some (.slice A4 x.es.length a4) := (blk_cell Hbox1.out 4).trans rfl; have a5 : W1.cell? ⟨g1, 5, none⟩ = some (.slice A5 x.thens.length a5) := (blk_cell Hbox1.out 5).trans rfl; have a6 : W1.cell? ⟨g1, 6, none⟩ = some (.slice A6 x.elses.length a6) := (blk_cell Hbox1.out 6).trans rfl) | ((with_reducible refine gate_dst (N := 3) rfl ?_); refine box_event ?hg (N := 3) ?hd (cs := #[.int .i64 y.does, .int .i64 y.pos.line, .int .i64 y.pos.col, .string y.name, .slice B4 y.es.length b4, .slice B5 y.thens.length b5, .slice B6 y.elses.length b6]) (t := 38) ?hr ?_; (case hd => rfl); (case hg => rfl); (case hr => first | (go_simp; done) | (go_simp; rfl)); intro g2 hg2 W2 hbox2 hb2; have Hbox2 := Lib.hid hbox2; clear hg2 hbox2; replace a0 := pw_cell_below hb2 a0; replace a3 := pw_cell_below hb2 a3; replace a4 := pw_cell_below hb2 a4; replace a5 := pw_cell_below hb2 a5; replace a6 := pw_cell_below hb2 a6; have b0 : W2.cell? ⟨g2, 0, none⟩ = some (.int .i64 y.does) := (blk_cell Hbox2.out 0).trans rfl; have b3 : W2.cell? ⟨g2, 3, none⟩ = some (.string y.name) := (blk_cell Hbox2.out 3).trans rfl; have b4 : W2.cell? ⟨g2, 4, none⟩ = some (.slice B4 y.es.length b4) := (blk_cell Hbox2.out 4).trans rfl; have b5 : W2.cell? ⟨g2, 5, none⟩ = some (.slice B5 y.thens.length b5) := (blk_cell Hbox2.out 5).trans rfl; have b6 : W2.cell? ⟨g2, 6, none⟩ = some (.slice B6 y.elses.length b6) := (blk_cell Hbox2.out 6).trans rfl; have HB2 := Aside0.mk (below_step hb1 hb2); clear hb1 hb2) | (go_at_call 23; (with_reducible refine (eqfExpr x.es y.es _ _ _ _ _ (Kd.C_below hx4.out HB2.out) (Kd.C_below hy4.out HB2.out) (fun p _ q _ cs ds w h1 h2 => sameE_any p q cs ds w h1 h2)).mono ?_); rintro e W3 ⟨rfl, hb3⟩; rw [V2.out]; replace a0 := pw_cell_below hb3 a0; replace b0 := pw_cell_below hb3 b0; replace a3 := pw_cell_below hb3 a3; replace b3 := pw_cell_below hb3 b3; replace a4 := pw_cell_below hb3 a4; replace b4 := pw_cell_below hb3 b4; replace a5 := pw_cell_below hb3 a5; replace b5 := pw_cell_below hb3 b5; replace a6 := pw_cell_below hb3 a6; replace b6 := pw_cell_below hb3 b6; have HB3 := Aside0.mk (below_step HB2.out hb3); clear hb3) | (go_at_call 24; (with_reducible refine (eqfStmt x.thens y.thens _ _ _ _ _ (Kd.C_below hx5.out HB3.out) (Kd.C_below hy5.out HB3.out) iht).mono ?_); rintro e W4 ⟨rfl, hb4⟩; rw [V3.out]; replace a0 := pw_cell_below hb4 a0; replace b0 := pw_cell_below hb4 b0; replace a3 := pw_cell_below hb4 a3; replace b3 := pw_cell_below hb4 b3; replace a4 := pw_cell_below hb4 a4; replace b4 := pw_cell_below hb4 b4; replace a5 := pw_cell_below hb4 a5; replace b5 := pw_cell_below hb4 b5; replace a6 := pw_cell_below hb4 a6; replace b6 := pw_cell_below hb4 b6; have HB4 := Aside0.mk (below_step HB3.out hb4); clear hb4) | (go_at_call 24; (with_reducible refine (eqfStmt x.elses y.elses _ _ _ _ _ (Kd.C_below hx6.out HB4.out) (Kd.C_below hy6.out HB4.out) ihe).mono ?_); rintro e W5 ⟨rfl, hb5⟩; rw [V4.out]; replace a0 := pw_cell_below hb5 a0; replace b0 := pw_cell_below hb5 b0; replace a3 := pw_cell_below hb5 a3; replace b3 := pw_cell_below hb5 b3; replace a4 := pw_cell_below hb5 a4; replace b4 := pw_cell_below hb5 b4; replace a5 := pw_cell_below hb5 a5; replace b5 := pw_cell_below hb5 b5; replace a6 := pw_cell_below hb5 a6; replace b6 := pw_cell_below hb5 b6; have HB5 := Aside0.mk (below_step HB4.out hb5); clear hb5))
            go_ret
            refine ⟨?_, HB5.out⟩
            rw [sameS_eq x y, V0.out, V1.out, V2.out, V3.out, V4.out]
            rfl


/-- WHAT Stmt.Same COMPUTES. -/
theorem sameS_calls (n : Nat) : ∀ (x : Stmt), SizeOf.sizeOf x ≤ n → ∀ (y : Stmt) (cs ds : List Value) (w : World), kStmt.K w x cs → kStmt.K w y ds → Calls Tryd.prog 12 #[.agg cs.toArray, .agg ds.toArray] w fun e w' => e = .returned (.bool (sameS x y)) ∧ Below w.heap.size w w' := by
  induction n with
  | zero =>
    intro x hx
    cases x
    simp at hx
  | succ n ih =>
    intro x hx y cs ds w h1 h2
    exact sameS_step x y cs ds w h1 h2 (fun p hp q _ cs ds w h1 h2 => ih p (by have := then_size hp; omega) q cs ds w h1 h2) (fun p hp q _ cs ds w h1 h2 => ih p (by have := else_size hp; omega) q cs ds w h1 h2)
theorem sameS_any (x y : Stmt) (cs ds : List Value) (w : World) (h1 : kStmt.K w x cs) (h2 : kStmt.K w y ds) : Calls Tryd.prog 12 #[.agg cs.toArray, .agg ds.toArray] w fun e w' => e = .returned (.bool (sameS x y)) ∧ Below w.heap.size w w' := sameS_calls _ x (Nat.le_refl _) y cs ds w h1 h2

set_option maxRecDepth 100000 in
set_option maxHeartbeats 1600000 in
theorem sameG_any (x y : Global) (cs ds : List Value) (w : World) (hx : kGlobal.K w x cs) (hy : kGlobal.K w y ds) :
    Calls Tryd.prog 26 #[.agg cs.toArray, .agg ds.toArray] w fun e w' => e = .returned (.bool (sameG x y)) ∧ Below w.heap.size w w' := by
  obtain ⟨rfl, em0⟩ := kGlobal_open hx
  obtain ⟨rfl, fm0⟩ := kGlobal_open hy
  clear em0 fm0
  clear hx hy
  cases v0 : (x.name.toList == y.name.toList) with
  | false =>
    have V0 := Aside0.mk v0
    go_enter Tryd.func26, Tryd.ntmps26
    go_wp2_with (first | ((with_reducible refine gate_dst (N := 2) rfl ?_); refine box_event ?hg (N := 2) ?hd (cs := #[.string x.name, .int .i64 x.hold, .int .i64 x.size, .int .i64 x.pos.line, .int .i64 x.pos.col]) (t := 54) ?hr ?_; (case hd => rfl); (case hg => rfl); (case hr => first | (go_simp; done) | (go_simp; rfl)); intro g1 hg1 W1 hbox1 hb1; have Hbox1 := Lib.hid hbox1; clear hg1 hbox1; have a0 : W1.cell? ⟨g1, 0, none⟩ = some (.string x.name) := (blk_cell Hbox1.out 0).trans rfl; have a1 : W1.cell? ⟨g1, 1, none⟩ = some (.int .i64 x.hold) := (blk_cell Hbox1.out 1).trans rfl; have a2 : W1.cell? ⟨g1, 2, none⟩ = some (.int .i64 x.size) := (blk_cell Hbox1.out 2).trans rfl) | ((with_reducible refine gate_dst (N := 3) rfl ?_); refine box_event ?hg (N := 3) ?hd (cs := #[.string y.name, .int .i64 y.hold, .int .i64 y.size, .int .i64 y.pos.line, .int .i64 y.pos.col]) (t := 54) ?hr ?_; (case hd => rfl); (case hg => rfl); (case hr => first | (go_simp; done) | (go_simp; rfl)); intro g2 hg2 W2 hbox2 hb2; have Hbox2 := Lib.hid hbox2; clear hg2 hbox2; replace a0 := pw_cell_below hb2 a0; replace a1 := pw_cell_below hb2 a1; replace a2 := pw_cell_below hb2 a2; have b0 : W2.cell? ⟨g2, 0, none⟩ = some (.string y.name) := (blk_cell Hbox2.out 0).trans rfl; have b1 : W2.cell? ⟨g2, 1, none⟩ = some (.int .i64 y.hold) := (blk_cell Hbox2.out 1).trans rfl; have b2 : W2.cell? ⟨g2, 2, none⟩ = some (.int .i64 y.size) := (blk_cell Hbox2.out 2).trans rfl; have HB2 := Aside0.mk (below_step hb1 hb2); clear hb1 hb2))
    go_ret
    refine ⟨?_, HB2.out⟩
    rw [sameG_eq x y, V0.out]
    rfl
  | true =>
    have V0 := Aside0.mk v0
    cases v1 : (x.hold == y.hold) with
    | false =>
      have V1 := Aside0.mk v1
      go_enter Tryd.func26, Tryd.ntmps26
      go_wp2_with (first | ((with_reducible refine gate_dst (N := 2) rfl ?_); refine box_event ?hg (N := 2) ?hd (cs := #[.string x.name, .int .i64 x.hold, .int .i64 x.size, .int .i64 x.pos.line, .int .i64 x.pos.col]) (t := 54) ?hr ?_; (case hd => rfl); (case hg => rfl); (case hr => first | (go_simp; done) | (go_simp; rfl)); intro g1 hg1 W1 hbox1 hb1; have Hbox1 := Lib.hid hbox1; clear hg1 hbox1; have a0 : W1.cell? ⟨g1, 0, none⟩ = some (.string x.name) := (blk_cell Hbox1.out 0).trans rfl; have a1 : W1.cell? ⟨g1, 1, none⟩ = some (.int .i64 x.hold) := (blk_cell Hbox1.out 1).trans rfl; have a2 : W1.cell? ⟨g1, 2, none⟩ = some (.int .i64 x.size) := (blk_cell Hbox1.out 2).trans rfl) | ((with_reducible refine gate_dst (N := 3) rfl ?_); refine box_event ?hg (N := 3) ?hd (cs := #[.string y.name, .int .i64 y.hold, .int .i64 y.size, .int .i64 y.pos.line, .int .i64 y.pos.col]) (t := 54) ?hr ?_; (case hd => rfl); (case hg => rfl); (case hr => first | (go_simp; done) | (go_simp; rfl)); intro g2 hg2 W2 hbox2 hb2; have Hbox2 := Lib.hid hbox2; clear hg2 hbox2; replace a0 := pw_cell_below hb2 a0; replace a1 := pw_cell_below hb2 a1; replace a2 := pw_cell_below hb2 a2; have b0 : W2.cell? ⟨g2, 0, none⟩ = some (.string y.name) := (blk_cell Hbox2.out 0).trans rfl; have b1 : W2.cell? ⟨g2, 1, none⟩ = some (.int .i64 y.hold) := (blk_cell Hbox2.out 1).trans rfl; have b2 : W2.cell? ⟨g2, 2, none⟩ = some (.int .i64 y.size) := (blk_cell Hbox2.out 2).trans rfl; have HB2 := Aside0.mk (below_step hb1 hb2); clear hb1 hb2))
      go_ret
      refine ⟨?_, HB2.out⟩
      rw [sameG_eq x y, V0.out, V1.out]
      rfl
    | true =>
      have V1 := Aside0.mk v1
      cases v2 : (x.size == y.size) with
      | false =>
        have V2 := Aside0.mk v2
        go_enter Tryd.func26, Tryd.ntmps26
        go_wp2_with (first | ((with_reducible refine gate_dst (N := 2) rfl ?_); refine box_event ?hg (N := 2) ?hd (cs := #[.string x.name, .int .i64 x.hold, .int .i64 x.size, .int .i64 x.pos.line, .int .i64 x.pos.col]) (t := 54) ?hr ?_; (case hd => rfl); (case hg => rfl); (case hr => first | (go_simp; done) | (go_simp; rfl)); intro g1 hg1 W1 hbox1 hb1; have Hbox1 := Lib.hid hbox1; clear hg1 hbox1; have a0 : W1.cell? ⟨g1, 0, none⟩ = some (.string x.name) := (blk_cell Hbox1.out 0).trans rfl; have a1 : W1.cell? ⟨g1, 1, none⟩ = some (.int .i64 x.hold) := (blk_cell Hbox1.out 1).trans rfl; have a2 : W1.cell? ⟨g1, 2, none⟩ = some (.int .i64 x.size) := (blk_cell Hbox1.out 2).trans rfl) | ((with_reducible refine gate_dst (N := 3) rfl ?_); refine box_event ?hg (N := 3) ?hd (cs := #[.string y.name, .int .i64 y.hold, .int .i64 y.size, .int .i64 y.pos.line, .int .i64 y.pos.col]) (t := 54) ?hr ?_; (case hd => rfl); (case hg => rfl); (case hr => first | (go_simp; done) | (go_simp; rfl)); intro g2 hg2 W2 hbox2 hb2; have Hbox2 := Lib.hid hbox2; clear hg2 hbox2; replace a0 := pw_cell_below hb2 a0; replace a1 := pw_cell_below hb2 a1; replace a2 := pw_cell_below hb2 a2; have b0 : W2.cell? ⟨g2, 0, none⟩ = some (.string y.name) := (blk_cell Hbox2.out 0).trans rfl; have b1 : W2.cell? ⟨g2, 1, none⟩ = some (.int .i64 y.hold) := (blk_cell Hbox2.out 1).trans rfl; have b2 : W2.cell? ⟨g2, 2, none⟩ = some (.int .i64 y.size) := (blk_cell Hbox2.out 2).trans rfl; have HB2 := Aside0.mk (below_step hb1 hb2); clear hb1 hb2))
        go_ret
        refine ⟨?_, HB2.out⟩
        rw [sameG_eq x y, V0.out, V1.out, V2.out]
        rfl
      | true =>
        have V2 := Aside0.mk v2
        go_enter Tryd.func26, Tryd.ntmps26
        go_wp2_with (first | ((with_reducible refine gate_dst (N := 2) rfl ?_); refine box_event ?hg (N := 2) ?hd (cs := #[.string x.name, .int .i64 x.hold, .int .i64 x.size, .int .i64 x.pos.line, .int .i64 x.pos.col]) (t := 54) ?hr ?_; (case hd => rfl); (case hg => rfl); (case hr => first | (go_simp; done) | (go_simp; rfl)); intro g1 hg1 W1 hbox1 hb1; have Hbox1 := Lib.hid hbox1; clear hg1 hbox1; have a0 : W1.cell? ⟨g1, 0, none⟩ = some (.string x.name) := (blk_cell Hbox1.out 0).trans rfl; have a1 : W1.cell? ⟨g1, 1, none⟩ = some (.int .i64 x.hold) := (blk_cell Hbox1.out 1).trans rfl; have a2 : W1.cell? ⟨g1, 2, none⟩ = some (.int .i64 x.size) := (blk_cell Hbox1.out 2).trans rfl) | ((with_reducible refine gate_dst (N := 3) rfl ?_); refine box_event ?hg (N := 3) ?hd (cs := #[.string y.name, .int .i64 y.hold, .int .i64 y.size, .int .i64 y.pos.line, .int .i64 y.pos.col]) (t := 54) ?hr ?_; (case hd => rfl); (case hg => rfl); (case hr => first | (go_simp; done) | (go_simp; rfl)); intro g2 hg2 W2 hbox2 hb2; have Hbox2 := Lib.hid hbox2; clear hg2 hbox2; replace a0 := pw_cell_below hb2 a0; replace a1 := pw_cell_below hb2 a1; replace a2 := pw_cell_below hb2 a2; have b0 : W2.cell? ⟨g2, 0, none⟩ = some (.string y.name) := (blk_cell Hbox2.out 0).trans rfl; have b1 : W2.cell? ⟨g2, 1, none⟩ = some (.int .i64 y.hold) := (blk_cell Hbox2.out 1).trans rfl; have b2 : W2.cell? ⟨g2, 2, none⟩ = some (.int .i64 y.size) := (blk_cell Hbox2.out 2).trans rfl; have HB2 := Aside0.mk (below_step hb1 hb2); clear hb1 hb2))
        go_ret
        refine ⟨?_, HB2.out⟩
        rw [sameG_eq x y, V0.out, V1.out, V2.out]
        rfl


set_option maxRecDepth 100000 in
set_option maxHeartbeats 1600000 in
theorem eqfGlobal (xs ys : List Global) (A B : Option Addr) (c d : Nat) (w : World) (hx : kGlobal.C w A xs.length xs) (hy : kGlobal.C w B ys.length ys)
    (ih : ∀ x, x ∈ xs → ∀ y, y ∈ ys → ∀ cs ds w, kGlobal.K w x cs → kGlobal.K w y ds → Calls Tryd.prog 26 #[.agg cs.toArray, .agg ds.toArray] w fun e w' => e = .returned (.bool (sameG x y)) ∧ Below w.heap.size w w') :
    Calls Tryd.prog 25 #[.slice A xs.length c, .slice B ys.length d, .func (.func 26) #[] #[]] w fun e w' => e = .returned (.bool (all2 sameG xs ys)) ∧ Below w.heap.size w w' := by
  by_cases hl : xs.length = ys.length
  · have hn : ((xs.length : Int) != (ys.length : Int)) = false := by simp [hl]
    have hl' : ys.length = xs.length := hl.symm
    have Hl := Lib.hid hl
    rw [hl'] at hy hn ⊢
    have hm := hx.2.1
    clear hl hl'
    go_enter Tryd.func25, Tryd.ntmps25
    go_wp2_with fail
    go_loopg [17] xs.length (fun kq v17 w' => ∃ i : Int, v17 = .int .i64 i ∧ 0 ≤ i ∧ kq + i.toNat = xs.length ∧ Aside0 (∀ j, j < i.toNat → sameG (xs.getD j zGlobal) (ys.getD j zGlobal) = true) ∧ Aside0 (Below w.heap.size w w'))
    case atStart => exact ⟨0, rfl, by omega, by simp, ⟨fun j hj => absurd hj (by simp)⟩, ⟨Below.refl _ _⟩⟩
    case round =>
      obtain ⟨i, rfl, hi0, hk, HS, HB⟩ := hrel
      cases gk with
      | zero =>
        have hge : decide (i < (xs.length : Int)) = false := by simp; omega
        go_wp2_with fail
        go_ret
        refine ⟨?_, HB.out⟩
        rw [all2_true _ zGlobal zGlobal xs ys Hl.out (fun j hj => HS.out j (by omega))]
        rfl
      | succ k1 =>
        have hi1 : i < (xs.length : Int) := by omega
        have hx1 := Kd.C_below hx HB.out
        have hy1 := Kd.C_below hy HB.out
        obtain ⟨ad, ea, e0, e1, e2, e3, e4, em0⟩ := atGlobal hx1 i hi0 hi1
        obtain ⟨bd, fa, f0, f1, f2, f3, f4, fm0⟩ := atGlobal hy1 i hi0 hi1
        obtain rfl := ea
        obtain rfl := fa
        have K0 : kGlobal.K wr (rdGlobal xs i) [.string (rdGlobal xs i).name, .int .i64 (rdGlobal xs i).hold, .int .i64 (rdGlobal xs i).size, .int .i64 (rdGlobal xs i).pos.line, .int .i64 (rdGlobal xs i).pos.col] := kGlobal_mk wr _ em0
        have K1 : kGlobal.K wr (rdGlobal ys i) [.string (rdGlobal ys i).name, .int .i64 (rdGlobal ys i).hold, .int .i64 (rdGlobal ys i).size, .int .i64 (rdGlobal ys i).pos.line, .int .i64 (rdGlobal ys i).pos.col] := kGlobal_mk wr _ fm0
        have hmx : rdGlobal xs i ∈ xs := rdGlobal_mem _ _ hi0 hi1
        have hmy : rdGlobal ys i ∈ ys := rdGlobal_mem _ _ hi0 (by rw [← Hl.out]; exact hi1)
        have q0 : ∀ o, (wr.alloc o).cell? (bd.add (i.toNat * 5)) = some (.string (rdGlobal ys i).name) := fun o => pw_cell_below ((Below.refl _ _).alloc (Nat.le_refl _) o) f0
        have q1 : ∀ o, (wr.alloc o).cell? ⟨(bd.add (i.toNat * 5)).block, (bd.add (i.toNat * 5)).off + 1, none⟩ = some (.int .i64 (rdGlobal ys i).hold) := fun o => pw_cell_below ((Below.refl _ _).alloc (Nat.le_refl _) o) f1
        have q2 : ∀ o, (wr.alloc o).cell? ⟨(bd.add (i.toNat * 5)).block, (bd.add (i.toNat * 5)).off + 2, none⟩ = some (.int .i64 (rdGlobal ys i).size) := fun o => pw_cell_below ((Below.refl _ _).alloc (Nat.le_refl _) o) f2
        have q3 : ∀ o, (wr.alloc o).cell? ⟨(bd.add (i.toNat * 5)).block, (bd.add (i.toNat * 5)).off + 3, none⟩ = some (.int .i64 (rdGlobal ys i).pos.line) := fun o => pw_cell_below ((Below.refl _ _).alloc (Nat.le_refl _) o) f3
        have q4 : ∀ o, (wr.alloc o).cell? ⟨(bd.add (i.toNat * 5)).block, (bd.add (i.toNat * 5)).off + 4, none⟩ = some (.int .i64 (rdGlobal ys i).pos.col) := fun o => pw_cell_below ((Below.refl _ _).alloc (Nat.le_refl _) o) f4
        clear f0 f1 f2 f3 f4
        have hb2 : ∀ o o', Below wr.heap.size wr ((wr.alloc o).alloc o') := fun o o' => ((Below.refl _ _).alloc (Nat.le_refl _) o).alloc (by simp) o'
        have HB2 := Aside0.mk hb2
        have Rest := Aside0.mk (⟨hx1, hy1, em0, fm0⟩ : _ ∧ _ ∧ _ ∧ _)
        clear hb2 hx1 hy1 em0 fm0
        cases hv : sameG (rdGlobal xs i) (rdGlobal ys i) with
        | true =>
          have Hv := Aside0.mk hv
          go_wp2_with (first | (go_at_call 26; refine (ih _ hmx _ hmy _ _ _ (kGlobal.K_below (HB2.out _ _) K0) (kGlobal.K_below (HB2.out _ _) K1)).mono ?_; rintro e w1 ⟨rfl, hb1⟩; rw [Hv.out]; have HB1 := Aside0.mk (below_step (below_step HB.out (HB2.out _ _)) hb1); clear hb1))
          go_roundg k1
          case measure => omega
          case rel =>
            refine ⟨i + 1, rfl, by omega, by omega, ⟨fun j hj => ?_⟩, HB1⟩
            by_cases hji : j < i.toNat
            · exact HS.out j hji
            · obtain rfl : j = i.toNat := by omega
              exact Hv.out
        | false =>
          have Hv := Aside0.mk hv
          go_wp2_with (first | (go_at_call 26; refine (ih _ hmx _ hmy _ _ _ (kGlobal.K_below (HB2.out _ _) K0) (kGlobal.K_below (HB2.out _ _) K1)).mono ?_; rintro e w1 ⟨rfl, hb1⟩; rw [Hv.out]; have HB1 := Aside0.mk (below_step (below_step HB.out (HB2.out _ _)) hb1); clear hb1))
          go_ret
          refine ⟨?_, HB1.out⟩
          rw [all2_false _ zGlobal zGlobal xs ys i.toNat (by omega) (by rw [← Hl.out]; omega) Hv.out]
          rfl
  · have hn : ((xs.length : Int) != (ys.length : Int)) = true := bne_iff_ne.2 (by omega)
    have Hl := Lib.hid hl
    clear hl
    go_enter Tryd.func25, Tryd.ntmps25
    go_wp2_with fail
    go_ret
    exact ⟨by rw [all2_len _ xs ys Hl.out]; rfl, Below.refl _ _⟩
set_option maxRecDepth 100000 in
set_option maxHeartbeats 1600000 in
theorem sameF_any (x y : Fun) (cs ds : List Value) (w : World) (hx : kFun.K w x cs) (hy : kFun.K w y ds) :
    Calls Tryd.prog 28 #[.agg cs.toArray, .agg ds.toArray] w fun e w' => e = .returned (.bool (sameF x y)) ∧ Below w.heap.size w w' := by
  obtain ⟨A1, a1, A2, a2, rfl, el1, eg1, el2, eg2⟩ := kFun_open hx
  obtain ⟨B1, b1, B2, b2, rfl, fl1, fg1, fl2, fg2⟩ := kFun_open hy
  have hx1 := Aside0.mk eg1
  have hy1 := Aside0.mk fg1
  have lx1 := Aside0.mk el1
  have ly1 := Aside0.mk fl1
  clear eg1 fg1 el1 fl1
  have hx2 := Aside0.mk eg2
  have hy2 := Aside0.mk fg2
  have lx2 := Aside0.mk el2
  have ly2 := Aside0.mk fl2
  clear eg2 fg2 el2 fl2
  clear hx hy
  cases v0 : (x.name.toList == y.name.toList) with
  | false =>
    have V0 := Aside0.mk v0
    go_enter Tryd.func28, Tryd.ntmps28
    go_wp2_with (first | ((with_reducible refine gate_dst (N := 2) rfl ?_); refine box_event ?hg (N := 2) ?hd (cs := #[.string x.name, .slice A1 x.params.length a1, .slice A2 x.body.length a2, .int .i64 x.pos.line, .int .i64 x.pos.col]) (t := 41) ?hr ?_; (case hd => rfl); (case hg => rfl); (case hr => first | (go_simp; done) | (go_simp; rfl)); intro g1 hg1 W1 hbox1 hb1; have Hbox1 := Lib.hid hbox1; clear hg1 hbox1; have a0 : W1.cell? ⟨g1, 0, none⟩ = some (.string x.name) := (blk_cell Hbox1.out 0).trans rfl; have a1 : W1.cell? ⟨g1, 1, none⟩ = some (.slice A1 x.params.length a1) := (blk_cell Hbox1.out 1).trans rfl; have a2 : W1.cell? ⟨g1, 2, none⟩ = some (.slice A2 x.body.length a2) := (blk_cell Hbox1.out 2).trans rfl) | ((with_reducible refine gate_dst (N := 3) rfl ?_); refine box_event ?hg (N := 3) ?hd (cs := #[.string y.name, .slice B1 y.params.length b1, .slice B2 y.body.length b2, .int .i64 y.pos.line, .int .i64 y.pos.col]) (t := 41) ?hr ?_; (case hd => rfl); (case hg => rfl); (case hr => first | (go_simp; done) | (go_simp; rfl)); intro g2 hg2 W2 hbox2 hb2; have Hbox2 := Lib.hid hbox2; clear hg2 hbox2; replace a0 := pw_cell_below hb2 a0; replace a1 := pw_cell_below hb2 a1; replace a2 := pw_cell_below hb2 a2; have b0 : W2.cell? ⟨g2, 0, none⟩ = some (.string y.name) := (blk_cell Hbox2.out 0).trans rfl; have b1 : W2.cell? ⟨g2, 1, none⟩ = some (.slice B1 y.params.length b1) := (blk_cell Hbox2.out 1).trans rfl; have b2 : W2.cell? ⟨g2, 2, none⟩ = some (.slice B2 y.body.length b2) := (blk_cell Hbox2.out 2).trans rfl; have HB2 := Aside0.mk (below_step hb1 hb2); clear hb1 hb2))
    go_ret
    refine ⟨?_, HB2.out⟩
    rw [sameF_eq x y, V0.out]
    rfl
  | true =>
    have V0 := Aside0.mk v0
    cases v1 : decide (x.params = y.params) with
    | false =>
      have V1 := Aside0.mk v1
      clear v1
      go_enter Tryd.func28, Tryd.ntmps28
      go_wp2_with (first | ((with_reducible refine gate_dst (N := 2) rfl ?_); refine box_event ?hg (N := 2) ?hd (cs := #[.string x.name, .slice A1 x.params.length a1, .slice A2 x.body.length a2, .int .i64 x.pos.line, .int .i64 x.pos.col]) (t := 41) ?hr ?_; (case hd => rfl); (case hg => rfl); (case hr => first | (go_simp; done) | (go_simp; rfl)); intro g1 hg1 W1 hbox1 hb1; have Hbox1 := Lib.hid hbox1; clear hg1 hbox1; have a0 : W1.cell? ⟨g1, 0, none⟩ = some (.string x.name) := (blk_cell Hbox1.out 0).trans rfl; have a1 : W1.cell? ⟨g1, 1, none⟩ = some (.slice A1 x.params.length a1) := (blk_cell Hbox1.out 1).trans rfl; have a2 : W1.cell? ⟨g1, 2, none⟩ = some (.slice A2 x.body.length a2) := (blk_cell Hbox1.out 2).trans rfl) | ((with_reducible refine gate_dst (N := 3) rfl ?_); refine box_event ?hg (N := 3) ?hd (cs := #[.string y.name, .slice B1 y.params.length b1, .slice B2 y.body.length b2, .int .i64 y.pos.line, .int .i64 y.pos.col]) (t := 41) ?hr ?_; (case hd => rfl); (case hg => rfl); (case hr => first | (go_simp; done) | (go_simp; rfl)); intro g2 hg2 W2 hbox2 hb2; have Hbox2 := Lib.hid hbox2; clear hg2 hbox2; replace a0 := pw_cell_below hb2 a0; replace a1 := pw_cell_below hb2 a1; replace a2 := pw_cell_below hb2 a2; have b0 : W2.cell? ⟨g2, 0, none⟩ = some (.string y.name) := (blk_cell Hbox2.out 0).trans rfl; have b1 : W2.cell? ⟨g2, 1, none⟩ = some (.slice B1 y.params.length b1) := (blk_cell Hbox2.out 1).trans rfl; have b2 : W2.cell? ⟨g2, 2, none⟩ = some (.slice B2 y.body.length b2) := (blk_cell Hbox2.out 2).trans rfl; have HB2 := Aside0.mk (below_step hb1 hb2); clear hb1 hb2) | (go_at_call 29; (with_reducible refine (strs_eq x.params y.params _ _ _ _ _ (Kd.C_below hx1.out HB2.out) (Kd.C_below hy1.out HB2.out)).mono ?_); rintro e W3 ⟨rfl, hb3⟩; rw [V1.out]; replace a0 := pw_cell_below hb3 a0; replace b0 := pw_cell_below hb3 b0; replace a1 := pw_cell_below hb3 a1; replace b1 := pw_cell_below hb3 b1; replace a2 := pw_cell_below hb3 a2; replace b2 := pw_cell_below hb3 b2; have HB3 := Aside0.mk (below_step HB2.out hb3); clear hb3))
      go_ret
      refine ⟨?_, HB3.out⟩
      rw [sameF_eq x y, V0.out, V1.out]
      rfl
    | true =>
      have V1 := Aside0.mk v1
      clear v1
      cases v2 : all2 sameS x.body y.body with
      | false =>
        have V2 := Aside0.mk v2
        clear v2
        go_enter Tryd.func28, Tryd.ntmps28
        go_wp2_with (first | ((with_reducible refine gate_dst (N := 2) rfl ?_); refine box_event ?hg (N := 2) ?hd (cs := #[.string x.name, .slice A1 x.params.length a1, .slice A2 x.body.length a2, .int .i64 x.pos.line, .int .i64 x.pos.col]) (t := 41) ?hr ?_; (case hd => rfl); (case hg => rfl); (case hr => first | (go_simp; done) | (go_simp; rfl)); intro g1 hg1 W1 hbox1 hb1; have Hbox1 := Lib.hid hbox1; clear hg1 hbox1; have a0 : W1.cell? ⟨g1, 0, none⟩ = some (.string x.name) := (blk_cell Hbox1.out 0).trans rfl; have a1 : W1.cell? ⟨g1, 1, none⟩ = some (.slice A1 x.params.length a1) := (blk_cell Hbox1.out 1).trans rfl; have a2 : W1.cell? ⟨g1, 2, none⟩ = some (.slice A2 x.body.length a2) := (blk_cell Hbox1.out 2).trans rfl) | ((with_reducible refine gate_dst (N := 3) rfl ?_); refine box_event ?hg (N := 3) ?hd (cs := #[.string y.name, .slice B1 y.params.length b1, .slice B2 y.body.length b2, .int .i64 y.pos.line, .int .i64 y.pos.col]) (t := 41) ?hr ?_; (case hd => rfl); (case hg => rfl); (case hr => first | (go_simp; done) | (go_simp; rfl)); intro g2 hg2 W2 hbox2 hb2; have Hbox2 := Lib.hid hbox2; clear hg2 hbox2; replace a0 := pw_cell_below hb2 a0; replace a1 := pw_cell_below hb2 a1; replace a2 := pw_cell_below hb2 a2; have b0 : W2.cell? ⟨g2, 0, none⟩ = some (.string y.name) := (blk_cell Hbox2.out 0).trans rfl; have b1 : W2.cell? ⟨g2, 1, none⟩ = some (.slice B1 y.params.length b1) := (blk_cell Hbox2.out 1).trans rfl; have b2 : W2.cell? ⟨g2, 2, none⟩ = some (.slice B2 y.body.length b2) := (blk_cell Hbox2.out 2).trans rfl; have HB2 := Aside0.mk (below_step hb1 hb2); clear hb1 hb2) | (go_at_call 29; (with_reducible refine (strs_eq x.params y.params _ _ _ _ _ (Kd.C_below hx1.out HB2.out) (Kd.C_below hy1.out HB2.out)).mono ?_); rintro e W3 ⟨rfl, hb3⟩; rw [V1.out]; replace a0 := pw_cell_below hb3 a0; replace b0 := pw_cell_below hb3 b0; replace a1 := pw_cell_below hb3 a1; replace b1 := pw_cell_below hb3 b1; replace a2 := pw_cell_below hb3 a2; replace b2 := pw_cell_below hb3 b2; have HB3 := Aside0.mk (below_step HB2.out hb3); clear hb3) | (go_at_call 24; (with_reducible refine (eqfStmt x.body y.body _ _ _ _ _ (Kd.C_below hx2.out HB3.out) (Kd.C_below hy2.out HB3.out) (fun p _ q _ cs ds w h1 h2 => sameS_any p q cs ds w h1 h2)).mono ?_); rintro e W4 ⟨rfl, hb4⟩; rw [V2.out]; replace a0 := pw_cell_below hb4 a0; replace b0 := pw_cell_below hb4 b0; replace a1 := pw_cell_below hb4 a1; replace b1 := pw_cell_below hb4 b1; replace a2 := pw_cell_below hb4 a2; replace b2 := pw_cell_below hb4 b2; have HB4 := Aside0.mk (below_step HB3.out hb4); clear hb4))
        go_ret
        refine ⟨?_, HB4.out⟩
        rw [sameF_eq x y, V0.out, V1.out, V2.out]
        rfl
      | true =>
        have V2 := Aside0.mk v2
        clear v2
        go_enter Tryd.func28, Tryd.ntmps28
        go_wp2_with (first | ((with_reducible refine gate_dst (N := 2) rfl ?_); refine box_event ?hg (N := 2) ?hd (cs := #[.string x.name, .slice A1 x.params.length a1, .slice A2 x.body.length a2, .int .i64 x.pos.line, .int .i64 x.pos.col]) (t := 41) ?hr ?_; (case hd => rfl); (case hg => rfl); (case hr => first | (go_simp; done) | (go_simp; rfl)); intro g1 hg1 W1 hbox1 hb1; have Hbox1 := Lib.hid hbox1; clear hg1 hbox1; have a0 : W1.cell? ⟨g1, 0, none⟩ = some (.string x.name) := (blk_cell Hbox1.out 0).trans rfl; have a1 : W1.cell? ⟨g1, 1, none⟩ = some (.slice A1 x.params.length a1) := (blk_cell Hbox1.out 1).trans rfl; have a2 : W1.cell? ⟨g1, 2, none⟩ = some (.slice A2 x.body.length a2) := (blk_cell Hbox1.out 2).trans rfl) | ((with_reducible refine gate_dst (N := 3) rfl ?_); refine box_event ?hg (N := 3) ?hd (cs := #[.string y.name, .slice B1 y.params.length b1, .slice B2 y.body.length b2, .int .i64 y.pos.line, .int .i64 y.pos.col]) (t := 41) ?hr ?_; (case hd => rfl); (case hg => rfl); (case hr => first | (go_simp; done) | (go_simp; rfl)); intro g2 hg2 W2 hbox2 hb2; have Hbox2 := Lib.hid hbox2; clear hg2 hbox2; replace a0 := pw_cell_below hb2 a0; replace a1 := pw_cell_below hb2 a1; replace a2 := pw_cell_below hb2 a2; have b0 : W2.cell? ⟨g2, 0, none⟩ = some (.string y.name) := (blk_cell Hbox2.out 0).trans rfl; have b1 : W2.cell? ⟨g2, 1, none⟩ = some (.slice B1 y.params.length b1) := (blk_cell Hbox2.out 1).trans rfl; have b2 : W2.cell? ⟨g2, 2, none⟩ = some (.slice B2 y.body.length b2) := (blk_cell Hbox2.out 2).trans rfl; have HB2 := Aside0.mk (below_step hb1 hb2); clear hb1 hb2) | (go_at_call 29; (with_reducible refine (strs_eq x.params y.params _ _ _ _ _ (Kd.C_below hx1.out HB2.out) (Kd.C_below hy1.out HB2.out)).mono ?_); rintro e W3 ⟨rfl, hb3⟩; rw [V1.out]; replace a0 := pw_cell_below hb3 a0; replace b0 := pw_cell_below hb3 b0; replace a1 := pw_cell_below hb3 a1; replace b1 := pw_cell_below hb3 b1; replace a2 := pw_cell_below hb3 a2; replace b2 := pw_cell_below hb3 b2; have HB3 := Aside0.mk (below_step HB2.out hb3); clear hb3) | (go_at_call 24; (with_reducible refine (eqfStmt x.body y.body _ _ _ _ _ (Kd.C_below hx2.out HB3.out) (Kd.C_below hy2.out HB3.out) (fun p _ q _ cs ds w h1 h2 => sameS_any p q cs ds w h1 h2)).mono ?_); rintro e W4 ⟨rfl, hb4⟩; rw [V2.out]; replace a0 := pw_cell_below hb4 a0; replace b0 := pw_cell_below hb4 b0; replace a1 := pw_cell_below hb4 a1; replace b1 := pw_cell_below hb4 b1; replace a2 := pw_cell_below hb4 a2; replace b2 := pw_cell_below hb4 b2; have HB4 := Aside0.mk (below_step HB3.out hb4); clear hb4))
        go_ret
        refine ⟨?_, HB4.out⟩
        rw [sameF_eq x y, V0.out, V1.out, V2.out]
        rfl


set_option maxRecDepth 100000 in
set_option maxHeartbeats 1600000 in
theorem eqfFun (xs ys : List Fun) (A B : Option Addr) (c d : Nat) (w : World) (hx : kFun.C w A xs.length xs) (hy : kFun.C w B ys.length ys)
    (ih : ∀ x, x ∈ xs → ∀ y, y ∈ ys → ∀ cs ds w, kFun.K w x cs → kFun.K w y ds → Calls Tryd.prog 28 #[.agg cs.toArray, .agg ds.toArray] w fun e w' => e = .returned (.bool (sameF x y)) ∧ Below w.heap.size w w') :
    Calls Tryd.prog 27 #[.slice A xs.length c, .slice B ys.length d, .func (.func 28) #[] #[]] w fun e w' => e = .returned (.bool (all2 sameF xs ys)) ∧ Below w.heap.size w w' := by
  by_cases hl : xs.length = ys.length
  · have hn : ((xs.length : Int) != (ys.length : Int)) = false := by simp [hl]
    have hl' : ys.length = xs.length := hl.symm
    have Hl := Lib.hid hl
    rw [hl'] at hy hn ⊢
    have hm := hx.2.1
    clear hl hl'
    go_enter Tryd.func27, Tryd.ntmps27
    go_wp2_with fail
    go_loopg [17] xs.length (fun kq v17 w' => ∃ i : Int, v17 = .int .i64 i ∧ 0 ≤ i ∧ kq + i.toNat = xs.length ∧ Aside0 (∀ j, j < i.toNat → sameF (xs.getD j zFun) (ys.getD j zFun) = true) ∧ Aside0 (Below w.heap.size w w'))
    case atStart => exact ⟨0, rfl, by omega, by simp, ⟨fun j hj => absurd hj (by simp)⟩, ⟨Below.refl _ _⟩⟩
    case round =>
      obtain ⟨i, rfl, hi0, hk, HS, HB⟩ := hrel
      cases gk with
      | zero =>
        have hge : decide (i < (xs.length : Int)) = false := by simp; omega
        go_wp2_with fail
        go_ret
        refine ⟨?_, HB.out⟩
        rw [all2_true _ zFun zFun xs ys Hl.out (fun j hj => HS.out j (by omega))]
        rfl
      | succ k1 =>
        have hi1 : i < (xs.length : Int) := by omega
        have hx1 := Kd.C_below hx HB.out
        have hy1 := Kd.C_below hy HB.out
        obtain ⟨ad, A1, a1, A2, a2, ea, e0, e1, e2, e3, e4, el1, eg1, el2, eg2⟩ := atFun hx1 i hi0 hi1
        obtain ⟨bd, B1, b1, B2, b2, fa, f0, f1, f2, f3, f4, fl1, fg1, fl2, fg2⟩ := atFun hy1 i hi0 hi1
        obtain rfl := ea
        obtain rfl := fa
        have K0 : kFun.K wr (rdFun xs i) [.string (rdFun xs i).name, .slice A1 (rdFun xs i).params.length a1, .slice A2 (rdFun xs i).body.length a2, .int .i64 (rdFun xs i).pos.line, .int .i64 (rdFun xs i).pos.col] := kFun_mk wr _ el1 eg1 el2 eg2
        have K1 : kFun.K wr (rdFun ys i) [.string (rdFun ys i).name, .slice B1 (rdFun ys i).params.length b1, .slice B2 (rdFun ys i).body.length b2, .int .i64 (rdFun ys i).pos.line, .int .i64 (rdFun ys i).pos.col] := kFun_mk wr _ fl1 fg1 fl2 fg2
        have hmx : rdFun xs i ∈ xs := rdFun_mem _ _ hi0 hi1
        have hmy : rdFun ys i ∈ ys := rdFun_mem _ _ hi0 (by rw [← Hl.out]; exact hi1)
        have q0 : ∀ o, (wr.alloc o).cell? (bd.add (i.toNat * 5)) = some (.string (rdFun ys i).name) := fun o => pw_cell_below ((Below.refl _ _).alloc (Nat.le_refl _) o) f0
        have q1 : ∀ o, (wr.alloc o).cell? ⟨(bd.add (i.toNat * 5)).block, (bd.add (i.toNat * 5)).off + 1, none⟩ = some (.slice B1 (rdFun ys i).params.length b1) := fun o => pw_cell_below ((Below.refl _ _).alloc (Nat.le_refl _) o) f1
        have q2 : ∀ o, (wr.alloc o).cell? ⟨(bd.add (i.toNat * 5)).block, (bd.add (i.toNat * 5)).off + 2, none⟩ = some (.slice B2 (rdFun ys i).body.length b2) := fun o => pw_cell_below ((Below.refl _ _).alloc (Nat.le_refl _) o) f2
        have q3 : ∀ o, (wr.alloc o).cell? ⟨(bd.add (i.toNat * 5)).block, (bd.add (i.toNat * 5)).off + 3, none⟩ = some (.int .i64 (rdFun ys i).pos.line) := fun o => pw_cell_below ((Below.refl _ _).alloc (Nat.le_refl _) o) f3
        have q4 : ∀ o, (wr.alloc o).cell? ⟨(bd.add (i.toNat * 5)).block, (bd.add (i.toNat * 5)).off + 4, none⟩ = some (.int .i64 (rdFun ys i).pos.col) := fun o => pw_cell_below ((Below.refl _ _).alloc (Nat.le_refl _) o) f4
        clear f0 f1 f2 f3 f4
        have hb2 : ∀ o o', Below wr.heap.size wr ((wr.alloc o).alloc o') := fun o o' => ((Below.refl _ _).alloc (Nat.le_refl _) o).alloc (by simp) o'
        have HB2 := Aside0.mk hb2
        have Rest := Aside0.mk (⟨hx1, hy1, el1, eg1, el2, eg2, fl1, fg1, fl2, fg2⟩ : _ ∧ _ ∧ _ ∧ _ ∧ _ ∧ _ ∧ _ ∧ _ ∧ _ ∧ _)
        clear hb2 hx1 hy1 el1 eg1 el2 eg2 fl1 fg1 fl2 fg2
        cases hv : sameF (rdFun xs i) (rdFun ys i) with
        | true =>
          have Hv := Aside0.mk hv
          go_wp2_with (first | (go_at_call 28; refine (ih _ hmx _ hmy _ _ _ (kFun.K_below (HB2.out _ _) K0) (kFun.K_below (HB2.out _ _) K1)).mono ?_; rintro e w1 ⟨rfl, hb1⟩; rw [Hv.out]; have HB1 := Aside0.mk (below_step (below_step HB.out (HB2.out _ _)) hb1); clear hb1))
          go_roundg k1
          case measure => omega
          case rel =>
            refine ⟨i + 1, rfl, by omega, by omega, ⟨fun j hj => ?_⟩, HB1⟩
            by_cases hji : j < i.toNat
            · exact HS.out j hji
            · obtain rfl : j = i.toNat := by omega
              exact Hv.out
        | false =>
          have Hv := Aside0.mk hv
          go_wp2_with (first | (go_at_call 28; refine (ih _ hmx _ hmy _ _ _ (kFun.K_below (HB2.out _ _) K0) (kFun.K_below (HB2.out _ _) K1)).mono ?_; rintro e w1 ⟨rfl, hb1⟩; rw [Hv.out]; have HB1 := Aside0.mk (below_step (below_step HB.out (HB2.out _ _)) hb1); clear hb1))
          go_ret
          refine ⟨?_, HB1.out⟩
          rw [all2_false _ zFun zFun xs ys i.toNat (by omega) (by rw [← Hl.out]; omega) Hv.out]
          rfl
  · have hn : ((xs.length : Int) != (ys.length : Int)) = true := bne_iff_ne.2 (by omega)
    have Hl := Lib.hid hl
    clear hl
    go_enter Tryd.func27, Tryd.ntmps27
    go_wp2_with fail
    go_ret
    exact ⟨by rw [all2_len _ xs ys Hl.out]; rfl, Below.refl _ _⟩
set_option maxRecDepth 100000 in
set_option maxHeartbeats 1600000 in
theorem sameP_any (x y : Prog) (cs ds : List Value) (w : World) (hx : kProg.K w x cs) (hy : kProg.K w y ds) :
    Calls Tryd.prog 13 #[.agg cs.toArray, .agg ds.toArray] w fun e w' => e = .returned (.bool (sameP x y)) ∧ Below w.heap.size w w' := by
  obtain ⟨A0, a0, A1, a1, rfl, el0, eg0, el1, eg1⟩ := kProg_open hx
  obtain ⟨B0, b0, B1, b1, rfl, fl0, fg0, fl1, fg1⟩ := kProg_open hy
  have hx0 := Aside0.mk eg0
  have hy0 := Aside0.mk fg0
  have lx0 := Aside0.mk el0
  have ly0 := Aside0.mk fl0
  clear eg0 fg0 el0 fl0
  have hx1 := Aside0.mk eg1
  have hy1 := Aside0.mk fg1
  have lx1 := Aside0.mk el1
  have ly1 := Aside0.mk fl1
  clear eg1 fg1 el1 fl1
  clear hx hy
  cases v0 : all2 sameG x.globals y.globals with
  | false =>
    have V0 := Aside0.mk v0
    clear v0
    go_enter Tryd.func13, Tryd.ntmps13
    go_wp2_with (first | ((with_reducible refine gate_dst (N := 2) rfl ?_); refine box_event ?hg (N := 2) ?hd (cs := #[.slice A0 x.globals.length a0, .slice A1 x.funcs.length a1]) (t := 45) ?hr ?_; (case hd => rfl); (case hg => rfl); (case hr => first | (go_simp; done) | (go_simp; rfl)); intro g1 hg1 W1 hbox1 hb1; have Hbox1 := Lib.hid hbox1; clear hg1 hbox1; have a0 : W1.cell? ⟨g1, 0, none⟩ = some (.slice A0 x.globals.length a0) := (blk_cell Hbox1.out 0).trans rfl; have a1 : W1.cell? ⟨g1, 1, none⟩ = some (.slice A1 x.funcs.length a1) := (blk_cell Hbox1.out 1).trans rfl) | ((with_reducible refine gate_dst (N := 3) rfl ?_); refine box_event ?hg (N := 3) ?hd (cs := #[.slice B0 y.globals.length b0, .slice B1 y.funcs.length b1]) (t := 45) ?hr ?_; (case hd => rfl); (case hg => rfl); (case hr => first | (go_simp; done) | (go_simp; rfl)); intro g2 hg2 W2 hbox2 hb2; have Hbox2 := Lib.hid hbox2; clear hg2 hbox2; replace a0 := pw_cell_below hb2 a0; replace a1 := pw_cell_below hb2 a1; have b0 : W2.cell? ⟨g2, 0, none⟩ = some (.slice B0 y.globals.length b0) := (blk_cell Hbox2.out 0).trans rfl; have b1 : W2.cell? ⟨g2, 1, none⟩ = some (.slice B1 y.funcs.length b1) := (blk_cell Hbox2.out 1).trans rfl; have HB2 := Aside0.mk (below_step hb1 hb2); clear hb1 hb2) | (go_at_call 25; (with_reducible refine (eqfGlobal x.globals y.globals _ _ _ _ _ (Kd.C_below hx0.out HB2.out) (Kd.C_below hy0.out HB2.out) (fun p _ q _ cs ds w h1 h2 => sameG_any p q cs ds w h1 h2)).mono ?_); rintro e W3 ⟨rfl, hb3⟩; rw [V0.out]; replace a0 := pw_cell_below hb3 a0; replace b0 := pw_cell_below hb3 b0; replace a1 := pw_cell_below hb3 a1; replace b1 := pw_cell_below hb3 b1; have HB3 := Aside0.mk (below_step HB2.out hb3); clear hb3))
    go_ret
    refine ⟨?_, HB3.out⟩
    rw [sameP_eq x y, V0.out]
    rfl
  | true =>
    have V0 := Aside0.mk v0
    clear v0
    cases v1 : all2 sameF x.funcs y.funcs with
    | false =>
      have V1 := Aside0.mk v1
      clear v1
      go_enter Tryd.func13, Tryd.ntmps13
      go_wp2_with (first | ((with_reducible refine gate_dst (N := 2) rfl ?_); refine box_event ?hg (N := 2) ?hd (cs := #[.slice A0 x.globals.length a0, .slice A1 x.funcs.length a1]) (t := 45) ?hr ?_; (case hd => rfl); (case hg => rfl); (case hr => first | (go_simp; done) | (go_simp; rfl)); intro g1 hg1 W1 hbox1 hb1; have Hbox1 := Lib.hid hbox1; clear hg1 hbox1; have a0 : W1.cell? ⟨g1, 0, none⟩ = some (.slice A0 x.globals.length a0) := (blk_cell Hbox1.out 0).trans rfl; have a1 : W1.cell? ⟨g1, 1, none⟩ = some (.slice A1 x.funcs.length a1) := (blk_cell Hbox1.out 1).trans rfl) | ((with_reducible refine gate_dst (N := 3) rfl ?_); refine box_event ?hg (N := 3) ?hd (cs := #[.slice B0 y.globals.length b0, .slice B1 y.funcs.length b1]) (t := 45) ?hr ?_; (case hd => rfl); (case hg => rfl); (case hr => first | (go_simp; done) | (go_simp; rfl)); intro g2 hg2 W2 hbox2 hb2; have Hbox2 := Lib.hid hbox2; clear hg2 hbox2; replace a0 := pw_cell_below hb2 a0; replace a1 := pw_cell_below hb2 a1; have b0 : W2.cell? ⟨g2, 0, none⟩ = some (.slice B0 y.globals.length b0) := (blk_cell Hbox2.out 0).trans rfl; have b1 : W2.cell? ⟨g2, 1, none⟩ = some (.slice B1 y.funcs.length b1) := (blk_cell Hbox2.out 1).trans rfl; have HB2 := Aside0.mk (below_step hb1 hb2); clear hb1 hb2) | (go_at_call 25; (with_reducible refine (eqfGlobal x.globals y.globals _ _ _ _ _ (Kd.C_below hx0.out HB2.out) (Kd.C_below hy0.out HB2.out) (fun p _ q _ cs ds w h1 h2 => sameG_any p q cs ds w h1 h2)).mono ?_); rintro e W3 ⟨rfl, hb3⟩; rw [V0.out]; replace a0 := pw_cell_below hb3 a0; replace b0 := pw_cell_below hb3 b0; replace a1 := pw_cell_below hb3 a1; replace b1 := pw_cell_below hb3 b1; have HB3 := Aside0.mk (below_step HB2.out hb3); clear hb3) | (go_at_call 27; (with_reducible refine (eqfFun x.funcs y.funcs _ _ _ _ _ (Kd.C_below hx1.out HB3.out) (Kd.C_below hy1.out HB3.out) (fun p _ q _ cs ds w h1 h2 => sameF_any p q cs ds w h1 h2)).mono ?_); rintro e W4 ⟨rfl, hb4⟩; rw [V1.out]; replace a0 := pw_cell_below hb4 a0; replace b0 := pw_cell_below hb4 b0; replace a1 := pw_cell_below hb4 a1; replace b1 := pw_cell_below hb4 b1; have HB4 := Aside0.mk (below_step HB3.out hb4); clear hb4))
      go_ret
      refine ⟨?_, HB4.out⟩
      rw [sameP_eq x y, V0.out, V1.out]
      rfl
    | true =>
      have V1 := Aside0.mk v1
      clear v1
      go_enter Tryd.func13, Tryd.ntmps13
      go_wp2_with (first | ((with_reducible refine gate_dst (N := 2) rfl ?_); refine box_event ?hg (N := 2) ?hd (cs := #[.slice A0 x.globals.length a0, .slice A1 x.funcs.length a1]) (t := 45) ?hr ?_; (case hd => rfl); (case hg => rfl); (case hr => first | (go_simp; done) | (go_simp; rfl)); intro g1 hg1 W1 hbox1 hb1; have Hbox1 := Lib.hid hbox1; clear hg1 hbox1; have a0 : W1.cell? ⟨g1, 0, none⟩ = some (.slice A0 x.globals.length a0) := (blk_cell Hbox1.out 0).trans rfl; have a1 : W1.cell? ⟨g1, 1, none⟩ = some (.slice A1 x.funcs.length a1) := (blk_cell Hbox1.out 1).trans rfl) | ((with_reducible refine gate_dst (N := 3) rfl ?_); refine box_event ?hg (N := 3) ?hd (cs := #[.slice B0 y.globals.length b0, .slice B1 y.funcs.length b1]) (t := 45) ?hr ?_; (case hd => rfl); (case hg => rfl); (case hr => first | (go_simp; done) | (go_simp; rfl)); intro g2 hg2 W2 hbox2 hb2; have Hbox2 := Lib.hid hbox2; clear hg2 hbox2; replace a0 := pw_cell_below hb2 a0; replace a1 := pw_cell_below hb2 a1; have b0 : W2.cell? ⟨g2, 0, none⟩ = some (.slice B0 y.globals.length b0) := (blk_cell Hbox2.out 0).trans rfl; have b1 : W2.cell? ⟨g2, 1, none⟩ = some (.slice B1 y.funcs.length b1) := (blk_cell Hbox2.out 1).trans rfl; have HB2 := Aside0.mk (below_step hb1 hb2); clear hb1 hb2) | (go_at_call 25; (with_reducible refine (eqfGlobal x.globals y.globals _ _ _ _ _ (Kd.C_below hx0.out HB2.out) (Kd.C_below hy0.out HB2.out) (fun p _ q _ cs ds w h1 h2 => sameG_any p q cs ds w h1 h2)).mono ?_); rintro e W3 ⟨rfl, hb3⟩; rw [V0.out]; replace a0 := pw_cell_below hb3 a0; replace b0 := pw_cell_below hb3 b0; replace a1 := pw_cell_below hb3 a1; replace b1 := pw_cell_below hb3 b1; have HB3 := Aside0.mk (below_step HB2.out hb3); clear hb3) | (go_at_call 27; (with_reducible refine (eqfFun x.funcs y.funcs _ _ _ _ _ (Kd.C_below hx1.out HB3.out) (Kd.C_below hy1.out HB3.out) (fun p _ q _ cs ds w h1 h2 => sameF_any p q cs ds w h1 h2)).mono ?_); rintro e W4 ⟨rfl, hb4⟩; rw [V1.out]; replace a0 := pw_cell_below hb4 a0; replace b0 := pw_cell_below hb4 b0; replace a1 := pw_cell_below hb4 a1; replace b1 := pw_cell_below hb4 b1; have HB4 := Aside0.mk (below_step HB3.out hb4); clear hb4))
      go_ret
      refine ⟨?_, HB4.out⟩
      rw [sameP_eq x y, V0.out, V1.out]
      rfl

end Go.Proofs.YtpbeplepcbhamaaDoor
