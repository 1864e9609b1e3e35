/- Few of an expression: what it computes. -/
import Derived.Test.YtpbeplepcbhamaaDoorSame
namespace Go.Proofs.YtpbeplepcbhamaaDoor
open Go.RowKit Go.Proofs.YtpbeplepcbhamaaDoorW.PrintWords Go.Proofs.YtpbeplepcbhamaaDoorW.PrintLast Go.Proofs.YtpbeplepcbhamaaDoorW.PrintMore
set_option linter.unusedVariables false
set_option linter.unusedSimpArgs false

theorem all_true {α : Type} (f : α → Bool) (z : α) : ∀ (xs : List α), (∀ j, j < xs.length → f (xs.getD j z) = true) → xs.all f = true
  | [], _ => rfl
  | x :: r, h => by
    have h0 := h 0 (by simp)
    simp at h0
    rw [List.all_cons, h0, Bool.true_and]
    exact all_true f z r (fun j hj => by have := h (j + 1) (by simpa using hj); simpa using this)
theorem all_false {α : Type} (f : α → Bool) (z : α) : ∀ (xs : List α) (j : Nat), j < xs.length → f (xs.getD j z) = false → xs.all f = false
  | x :: r, 0, _, h => by
    simp at h
    rw [List.all_cons, h, Bool.false_and]
  | x :: r, j + 1, hj, h => by
    rw [List.all_cons, all_false f z r j (by simpa using hj) (by simpa using h), Bool.and_false]
  | [], _, h, _ => by simp at h

mutual
/-- Has an expression few parts, not too deep? -/
def fewE : Expr → Int → Bool
  | ⟨_, _, _, name, _, kids⟩, d => decide (d ≤ 8) && (decide (kids.length ≤ 6) && (decide (name.size ≤ 40) && fewEs kids (d + 1)))
def fewEs : List Expr → Int → Bool
  | [], _ => true
  | x :: r, d => fewE x d && fewEs r d
end
theorem fewEs_all : ∀ (xs : List Expr) (d : Int), fewEs xs d = xs.all (fewE · d)
  | [], _ => by simp [fewEs]
  | x :: r, d => by rw [fewEs, fewEs_all r d, List.all_cons]
theorem fewE_eq (x : Expr) (d : Int) : fewE x d = (decide (d ≤ 8) && (decide (x.kids.length ≤ 6) && (decide (x.name.size ≤ 40) && x.kids.all (fewE · (d + 1))))) := by
  cases x
  rw [fewE, fewEs_all]

set_option maxRecDepth 100000 in
set_option maxHeartbeats 1600000 in
theorem few_step (x : Expr) (d : Int) (cs : List Value) (w : World) (hx : kExpr.K w x cs) (hd0 : 0 ≤ d) (hd1 : d ≤ 1000)
    (ih : d ≤ 8 → ∀ p, p ∈ x.kids → ∀ cs w, kExpr.K w p cs → Calls Tryd.prog 9 #[.agg cs.toArray, .int .i64 (d + 1)] w fun e w' => e = .returned (.bool (fewE p (d + 1))) ∧ Below w.heap.size w w') :
    Calls Tryd.prog 9 #[.agg cs.toArray, .int .i64 d] w fun e w' => e = .returned (.bool (fewE x d)) ∧ Below w.heap.size w w' := by
  obtain ⟨A6, a6, rfl, em0, el6, eg6⟩ := kExpr_open hx
  have hx6 := Aside0.mk eg6
  have hm := eg6.2.1
  clear eg6 em0 el6 hx
  by_cases c1_ : ¬ (d ≤ 8)
  · have k1 : decide (8 < d) = true := by simp; omega
    have V := Aside0.mk (decide_eq_false c1_)
    clear c1_
    go_enter Tryd.func9, Tryd.ntmps9
    go_wp2_with (first | ((with_reducible refine gate_dst (N := 2) rfl ?_); refine box_event ?hg (N := 2) ?hd (cs := #[.int .i64 x.kind, .int .i64 x.pos.line, .int .i64 x.pos.col, .int .i64 x.num, .string x.name, .int .i64 x.op, .slice A6 x.kids.length a6]) (t := 31) ?hr ?_; (case hd => rfl); (case hg => rfl); (case hr => first | (go_simp; done) | (go_simp; rfl)); intro g1 hg1 W1 hbox1 hb1; have Hbox1 := Lib.hid hbox1; clear hg1 hbox1; have f6 : W1.cell? ⟨g1, 6, none⟩ = some (.slice A6 x.kids.length a6) := (blk_cell Hbox1.out 6).trans rfl; have f4 : W1.cell? ⟨g1, 4, none⟩ = some (.string x.name) := (blk_cell Hbox1.out 4).trans rfl))
    go_ret
    refine ⟨?_, hb1⟩
    rw [fewE_eq, V.out]
    rfl
  have c1 : d ≤ 8 := Decidable.not_not.1 c1_
  clear c1_
  have k1 : decide (8 < d) = false := by simp; omega
  by_cases c2_ : ¬ (x.kids.length ≤ 6)
  · have k2 : decide (6 < (x.kids.length : Int)) = true := by simp; omega
    have V := Aside0.mk (decide_eq_false c2_)
    clear c1 c2_
    go_enter Tryd.func9, Tryd.ntmps9
    go_wp2_with (first | ((with_reducible refine gate_dst (N := 2) rfl ?_); refine box_event ?hg (N := 2) ?hd (cs := #[.int .i64 x.kind, .int .i64 x.pos.line, .int .i64 x.pos.col, .int .i64 x.num, .string x.name, .int .i64 x.op, .slice A6 x.kids.length a6]) (t := 31) ?hr ?_; (case hd => rfl); (case hg => rfl); (case hr => first | (go_simp; done) | (go_simp; rfl)); intro g1 hg1 W1 hbox1 hb1; have Hbox1 := Lib.hid hbox1; clear hg1 hbox1; have f6 : W1.cell? ⟨g1, 6, none⟩ = some (.slice A6 x.kids.length a6) := (blk_cell Hbox1.out 6).trans rfl; have f4 : W1.cell? ⟨g1, 4, none⟩ = some (.string x.name) := (blk_cell Hbox1.out 4).trans rfl))
    go_ret
    refine ⟨?_, hb1⟩
    rw [fewE_eq, V.out, Bool.false_and, Bool.and_false]
    rfl
  have c2 : x.kids.length ≤ 6 := Decidable.not_not.1 c2_
  clear c2_
  have k2 : decide (6 < (x.kids.length : Int)) = false := by simp; omega
  by_cases c3_ : ¬ (x.name.size ≤ 40)
  · have k3 : decide (40 < (x.name.size : Int)) = true := by simp; omega
    have V := Aside0.mk (decide_eq_false c3_)
    clear c1 c2 c3_
    go_enter Tryd.func9, Tryd.ntmps9
    go_wp2_with (first | ((with_reducible refine gate_dst (N := 2) rfl ?_); refine box_event ?hg (N := 2) ?hd (cs := #[.int .i64 x.kind, .int .i64 x.pos.line, .int .i64 x.pos.col, .int .i64 x.num, .string x.name, .int .i64 x.op, .slice A6 x.kids.length a6]) (t := 31) ?hr ?_; (case hd => rfl); (case hg => rfl); (case hr => first | (go_simp; done) | (go_simp; rfl)); intro g1 hg1 W1 hbox1 hb1; have Hbox1 := Lib.hid hbox1; clear hg1 hbox1; have f6 : W1.cell? ⟨g1, 6, none⟩ = some (.slice A6 x.kids.length a6) := (blk_cell Hbox1.out 6).trans rfl; have f4 : W1.cell? ⟨g1, 4, none⟩ = some (.string x.name) := (blk_cell Hbox1.out 4).trans rfl))
    go_ret
    refine ⟨?_, hb1⟩
    rw [fewE_eq, V.out, Bool.false_and, Bool.and_false, Bool.and_false]
    rfl
  have c3 : x.name.size ≤ 40 := Decidable.not_not.1 c3_
  clear c3_
  have k3 : decide (40 < (x.name.size : Int)) = false := by simp; omega
  have hv : fewE x d = x.kids.all (fewE · (d + 1)) := by rw [fewE_eq, decide_eq_true c1, decide_eq_true c2, decide_eq_true c3, Bool.true_and, Bool.true_and, Bool.true_and]
  have HV := Aside0.mk hv
  have ih' := ih c1
  clear hv ih c2 c3
  go_enter Tryd.func9, Tryd.ntmps9
  go_wp2_with (first | ((with_reducible refine gate_dst (N := 2) rfl ?_); refine box_event ?hg (N := 2) ?hd (cs := #[.int .i64 x.kind, .int .i64 x.pos.line, .int .i64 x.pos.col, .int .i64 x.num, .string x.name, .int .i64 x.op, .slice A6 x.kids.length a6]) (t := 31) ?hr ?_; (case hd => rfl); (case hg => rfl); (case hr => first | (go_simp; done) | (go_simp; rfl)); intro g1 hg1 W1 hbox1 hb1; have Hbox1 := Lib.hid hbox1; clear hg1 hbox1; have f6 : W1.cell? ⟨g1, 6, none⟩ = some (.slice A6 x.kids.length a6) := (blk_cell Hbox1.out 6).trans rfl; have f4 : W1.cell? ⟨g1, 4, none⟩ = some (.string x.name) := (blk_cell Hbox1.out 4).trans rfl))
  have hx7 := Aside0.mk (Kd.C_below hx6.out hb1)
  go_loopg [24] x.kids.length (fun kq v24 w' => ∃ i : Int, v24 = .int .i64 i ∧ 0 ≤ i ∧ kq + i.toNat = x.kids.length ∧ Aside0 (∀ j, j < i.toNat → fewE (x.kids.getD j zExpr) (d + 1) = true) ∧ Aside0 (Below W1.heap.size W1 w'))
  case atStart => exact ⟨0, rfl, by omega, by simp, ⟨fun j hj => absurd hj (by simp)⟩, ⟨Below.refl _ _⟩⟩
  case round =>
    obtain ⟨i, rfl, hi0, hk, HS, HB⟩ := hrel
    cases gk with
    | zero =>
      have hge : decide (i < (x.kids.length : Int)) = false := by simp; omega
      go_wp2_with fail
      go_ret
      refine ⟨?_, below_step hb1 HB.out⟩
      rw [HV.out, all_true _ zExpr x.kids (fun j hj => HS.out j (by omega))]
      rfl
    | succ k1_ =>
      have hi1 : i < (x.kids.length : Int) := by omega
      have hx1 := Kd.C_below hx7.out HB.out
      obtain ⟨ad, B6, b6, ea, e0, e1, e2, e3, e4, e5, e6, em0, el6, eg6⟩ := atExpr hx1 i hi0 hi1
      obtain rfl := ea
      have hmx : rdExpr x.kids i ∈ x.kids := rdExpr_mem _ _ hi0 hi1
      have K0 := Aside0.mk (show kExpr.K wr (rdExpr x.kids i) [.int .i64 (rdExpr x.kids i).kind, .int .i64 (rdExpr x.kids i).pos.line, .int .i64 (rdExpr x.kids i).pos.col, .int .i64 (rdExpr x.kids i).num, .string (rdExpr x.kids i).name, .int .i64 (rdExpr x.kids i).op, .slice B6 (rdExpr x.kids i).kids.length b6] from kExpr_mk wr _ em0 el6 eg6)
      clear em0 el6 eg6 hx1
      have hb2 : ∀ o, Below wr.heap.size wr (wr.alloc o) := fun o => (Below.refl _ _).alloc (Nat.le_refl _) o
      have HB2 := Aside0.mk hb2
      clear hb2
      cases hv : fewE (rdExpr x.kids i) (d + 1) with
      | true =>
        have Hv := Aside0.mk hv
        clear hv
        go_wp2_with (first | (go_at_call 9; (with_reducible refine (ih' _ hmx _ _ (kExpr.K_below (HB2.out _) K0.out)).mono ?_); rintro e w1 ⟨rfl, hb1_⟩; rw [Hv.out]; have HB1 := Aside0.mk (below_step (below_step HB.out (HB2.out _)) hb1_); clear hb1_))
        go_roundg k1_
        case measure => omega
        case rel =>
          refine ⟨i + 1, rfl, by omega, by omega, ⟨fun j hj => ?_⟩, HB1⟩
          by_cases hji : j < i.toNat
          · exact HS.out j hji
          · obtain rfl : j = i.toNat := by omega
            exact Hv.out
      | false =>
        have Hv := Aside0.mk hv
        clear hv
        go_wp2_with (first | (go_at_call 9; (with_reducible refine (ih' _ hmx _ _ (kExpr.K_below (HB2.out _) K0.out)).mono ?_); rintro e w1 ⟨rfl, hb1_⟩; rw [Hv.out]; have HB1 := Aside0.mk (below_step (below_step HB.out (HB2.out _)) hb1_); clear hb1_))
        go_ret
        refine ⟨?_, below_step hb1 HB1.out⟩
        rw [HV.out, all_false (fewE · (d + 1)) zExpr x.kids i.toNat (by omega) Hv.out]
        rfl

/-- WHAT Few COMPUTES. -/
theorem few_calls (n : Nat) : ∀ (x : Expr), SizeOf.sizeOf x ≤ n → ∀ (d : Int) (cs : List Value) (w : World), kExpr.K w x cs → 0 ≤ d → d ≤ 1000 → Calls Tryd.prog 9 #[.agg cs.toArray, .int .i64 d] w fun e w' => e = .returned (.bool (fewE x d)) ∧ Below w.heap.size w w' := by
  induction n with
  | zero =>
    intro x hx
    cases x
    simp at hx
  | succ n ih =>
    intro x hx d cs w h h0 h1
    exact few_step x d cs w h h0 h1 (fun h8 p hp cs w h => ih p (by have := kid_size hp; omega) (d + 1) cs w h (by omega) (by omega))
theorem few_any (x : Expr) (d : Int) (cs : List Value) (w : World) (h : kExpr.K w x cs) (h0 : 0 ≤ d) (h1 : d ≤ 1000) : Calls Tryd.prog 9 #[.agg cs.toArray, .int .i64 d] w fun e w' => e = .returned (.bool (fewE x d)) ∧ Below w.heap.size w w' := few_calls _ x (Nat.le_refl _) d cs w h h0 h1
end Go.Proofs.YtpbeplepcbhamaaDoor
