/- The walk of shift: an expression, elsewhere. -/
import Derived.Test.YtpbeplepcbhamaaDoorFew
import Derived.Test.YtpbeplepcbhamaaDoorMem
namespace Go.Proofs.YtpbeplepcbhamaaDoor
open Go.RowKit Go.Proofs.YtpbeplepcbhamaaDoorW.PrintWords Go.Proofs.YtpbeplepcbhamaaDoorW.PrintLast Go.Proofs.YtpbeplepcbhamaaDoorW.PrintMore
set_option linter.unusedVariables false
set_option linter.unusedSimpArgs false

mutual
/-- An expression, all of whose parts stand at m, m. -/
def shiftE (m : Int) : Expr → Expr
  | ⟨kind, _, num, name, op, kids⟩ => ⟨kind, ⟨m, m⟩, num, name, op, shiftEs m kids⟩
def shiftEs (m : Int) : List Expr → List Expr
  | [] => []
  | x :: r => shiftE m x :: shiftEs m r
end
theorem shiftEs_map (m : Int) : ∀ xs, shiftEs m xs = xs.map (shiftE m)
  | [] => by simp [shiftEs]
  | x :: r => by rw [shiftEs, shiftEs_map m r, List.map_cons]
theorem shiftEs_length (m : Int) (xs : List Expr) : (shiftEs m xs).length = xs.length := by rw [shiftEs_map, List.length_map]
theorem shiftE_eq (m : Int) (x : Expr) : shiftE m x = ⟨x.kind, ⟨m, m⟩, x.num, x.name, x.op, shiftEs m x.kids⟩ := by
  cases x
  rw [shiftE]
theorem shiftEs_take (m : Int) (xs : List Expr) (i : Int) (h0 : 0 ≤ i) (h1 : i < xs.length) : (shiftEs m xs).take (i + 1).toNat = (shiftEs m xs).take i.toNat ++ [shiftE m (rdExpr xs i)] := by
  have hlt : i.toNat < xs.length := by omega
  rw [shiftEs_map, show (i + 1).toNat = i.toNat + 1 by omega, List.take_succ_eq_append_getElem (by simpa using hlt)]
  congr 1
  simp [rdExpr, List.getD_eq_getElem?_getD, hlt]
theorem shiftE_M (w : World) (base : Nat) (ok : Nat → Prop) (m : Int) (x : Expr) (hn : Wf64 x.num) {v6 : Value} (h : kExpr.R 31 w base ok v6 (shiftEs m x.kids)) :
    kExpr.M w base ok (shiftE m x) [.int .i64 x.kind, .int .i64 m, .int .i64 m, .int .i64 x.num, .string x.name, .int .i64 x.op, v6] := by
  rw [shiftE_eq]
  exact kExpr_mkM w base ok ⟨x.kind, ⟨m, m⟩, x.num, x.name, x.op, shiftEs m x.kids⟩ hn h
theorem infoExpr : (Tryd.prog.info? 31).map (fun i => (i.zero, i.size, i.bytes)) = some (some (.agg #[.int .i64 0, .int .i64 0, .int .i64 0, .int .i64 0, .string ⟨#[]⟩, .int .i64 0, .slice none 0 0]), 7, 80) := by kernel_rfl

set_option maxRecDepth 100000 in
set_option maxHeartbeats 3200000 in
theorem shift_step (x : Expr) (m : Int) (cs : List Value) (w : World) (hx : kExpr.K w x cs) (hs : x.kids.length ≤ 1000000000000)
    (ih : ∀ p, p ∈ x.kids → ∀ cs w, kExpr.K w p cs → Calls Tryd.prog 10 #[.agg cs.toArray, .int .i64 m] w fun e w' => ∃ v6, e = .returned (.agg #[.int .i64 p.kind, .int .i64 m, .int .i64 m, .int .i64 p.num, .string p.name, .int .i64 p.op, v6]) ∧ Aside0 (kExpr.R 31 w' w.heap.size (fun _ => True) v6 (shiftEs m p.kids)) ∧ Below w.heap.size w w') :
    Calls Tryd.prog 10 #[.agg cs.toArray, .int .i64 m] w fun e w' => ∃ v6, e = .returned (.agg #[.int .i64 x.kind, .int .i64 m, .int .i64 m, .int .i64 x.num, .string x.name, .int .i64 x.op, v6]) ∧ Aside0 (kExpr.R 31 w' w.heap.size (fun _ => True) v6 (shiftEs m x.kids)) ∧ Below w.heap.size w w' := by
  obtain ⟨A6, a6, rfl, em0, el6, eg6⟩ := kExpr_open hx
  have hx6 := Aside0.mk eg6
  clear eg6 em0 el6 hx
  go_enter Tryd.func10, Tryd.ntmps10
  go_wp2_with (first | ((with_reducible refine gate_dst (N := 2) rfl ?_); refine box_event ?hg (N := 2) ?hd (cs := #[.int .i64 x.kind, .int .i64 x.pos.line, .int .i64 x.pos.col, .int .i64 x.num, .string x.name, .int .i64 x.op, .slice A6 x.kids.length a6]) (t := 31) ?hr ?_; (case hd => rfl); (case hg => rfl); (case hr => first | (go_simp; done) | (go_simp; rfl)); intro g1 g1E W1 g1B hb1; have BK1 := Aside0.mk g1B; have GE1 := Aside0.mk (show w.heap.size ≤ g1 by omega); have HB1 := Aside0.mk hb1; clear g1B g1E hb1) | ((with_reducible refine gate_dst (N := 4) rfl ?_); refine box_event ?hg (N := 4) ?hd (cs := #[.int .i64 0, .int .i64 0, .int .i64 0, .int .i64 0, .string ⟨#[]⟩, .int .i64 0, .slice none 0 0]) (t := 31) ?hr ?_; (case hd => rfl); (case hg => rfl); (case hr => first | (go_simp; done) | (go_simp; rfl)); intro g2 g2E W2 g2B hb2; have NE12 := Aside0.mk (show g1 ≠ g2 by have := blk_lt BK1.out; omega); have BK1b := Aside0.mk (blk_below BK1.out hb2); have BK2 := Aside0.mk g2B; have GE2 := Aside0.mk (show w.heap.size ≤ g2 by have := HB1.out.size; omega); have HB2 := Aside0.mk (below_step HB1.out hb2); clear g2B g2E hb2 BK1 HB1; have cg1_0 : W2.cell? ⟨g1, 0, none⟩ = some (.int .i64 x.kind) := (blk_cell BK1b.out 0).trans rfl; have zg1_0 : W2.frozen? ⟨g1, 0, none⟩ = false := blk_frozen BK1b.out 0; have cg1_1 : W2.cell? ⟨g1, 1, none⟩ = some (.int .i64 x.pos.line) := (blk_cell BK1b.out 1).trans rfl; have zg1_1 : W2.frozen? ⟨g1, 1, none⟩ = false := blk_frozen BK1b.out 1; have cg1_2 : W2.cell? ⟨g1, 2, none⟩ = some (.int .i64 x.pos.col) := (blk_cell BK1b.out 2).trans rfl; have zg1_2 : W2.frozen? ⟨g1, 2, none⟩ = false := blk_frozen BK1b.out 2; have cg1_3 : W2.cell? ⟨g1, 3, none⟩ = some (.int .i64 x.num) := (blk_cell BK1b.out 3).trans rfl; have zg1_3 : W2.frozen? ⟨g1, 3, none⟩ = false := blk_frozen BK1b.out 3; have cg1_4 : W2.cell? ⟨g1, 4, none⟩ = some (.string x.name) := (blk_cell BK1b.out 4).trans rfl; have zg1_4 : W2.frozen? ⟨g1, 4, none⟩ = false := blk_frozen BK1b.out 4; have cg1_5 : W2.cell? ⟨g1, 5, none⟩ = some (.int .i64 x.op) := (blk_cell BK1b.out 5).trans rfl; have zg1_5 : W2.frozen? ⟨g1, 5, none⟩ = false := blk_frozen BK1b.out 5; have cg1_6 : W2.cell? ⟨g1, 6, none⟩ = some (.slice A6 x.kids.length a6) := (blk_cell BK1b.out 6).trans rfl; have zg1_6 : W2.frozen? ⟨g1, 6, none⟩ = false := blk_frozen BK1b.out 6) | ((with_reducible refine gate_store (t := 28) (p := 11) (v := .tmp 10) rfl ?_); refine put_event (w1 := ?w1_0) (g := g1) (cs := #[.int .i64 x.kind, .int .i64 m, .int .i64 m, .int .i64 x.num, .string x.name, .int .i64 x.op, .slice A6 x.kids.length a6]) (T := 31) ?hg (t := 28) (p := 11) (v := .tmp 10) ?ha ?hn ?hr ?hk ?hb ?_; (case ha => rfl); (case hn => rfl); (case hg => rfl); (case hr => first | (go_simp; done) | (go_simp; rfl)); (case hk => exact ((Chg.refl _ _).set _ _).set _ _); (case hb => exact blk_put (blk_put BK1b.out 1 _ rfl) 2 _ rfl); intro W3 ch3 bk3; have BK1c := Aside0.mk bk3; have BK2c := Aside0.mk (ch3.blk BK2.out (Ne.symm NE12.out)); have HB3 := Aside0.mk (below_chg HB2.out HB2.out.size GE1.out ch3); clear ch3 bk3 BK1b BK2 HB2 cg1_0 zg1_0 cg1_1 zg1_1 cg1_2 zg1_2 cg1_3 zg1_3 cg1_4 zg1_4 cg1_5 zg1_5 cg1_6 zg1_6; have cg1_0 : W3.cell? ⟨g1, 0, none⟩ = some (.int .i64 x.kind) := (blk_cell BK1c.out 0).trans rfl; have zg1_0 : W3.frozen? ⟨g1, 0, none⟩ = false := blk_frozen BK1c.out 0; have cg1_1 : W3.cell? ⟨g1, 1, none⟩ = some (.int .i64 m) := (blk_cell BK1c.out 1).trans rfl; have zg1_1 : W3.frozen? ⟨g1, 1, none⟩ = false := blk_frozen BK1c.out 1; have cg1_2 : W3.cell? ⟨g1, 2, none⟩ = some (.int .i64 m) := (blk_cell BK1c.out 2).trans rfl; have zg1_2 : W3.frozen? ⟨g1, 2, none⟩ = false := blk_frozen BK1c.out 2; have cg1_3 : W3.cell? ⟨g1, 3, none⟩ = some (.int .i64 x.num) := (blk_cell BK1c.out 3).trans rfl; have zg1_3 : W3.frozen? ⟨g1, 3, none⟩ = false := blk_frozen BK1c.out 3; have cg1_4 : W3.cell? ⟨g1, 4, none⟩ = some (.string x.name) := (blk_cell BK1c.out 4).trans rfl; have zg1_4 : W3.frozen? ⟨g1, 4, none⟩ = false := blk_frozen BK1c.out 4; have cg1_5 : W3.cell? ⟨g1, 5, none⟩ = some (.int .i64 x.op) := (blk_cell BK1c.out 5).trans rfl; have zg1_5 : W3.frozen? ⟨g1, 5, none⟩ = false := blk_frozen BK1c.out 5; have cg1_6 : W3.cell? ⟨g1, 6, none⟩ = some (.slice A6 x.kids.length a6) := (blk_cell BK1c.out 6).trans rfl; have zg1_6 : W3.frozen? ⟨g1, 6, none⟩ = false := blk_frozen BK1c.out 6) | ((with_reducible refine gate_dst (N := 12) rfl ?_); refine Kd.R_lit kExpr (w0 := w) w.heap.size 31 ?hg (N := 12) ?hd (xs := []) (inner := []) (ok := fun k => k ≠ g1 ∧ k ≠ g2) (okp := fun k => k ≠ g1 ∧ k ≠ g2) ?hr ?hrep ?hok ?hf ?hB ?hs ?hm ?_; (case hd => rfl); (case hg => rfl); (case hr => first | (go_simp; done) | (go_simp; rfl)); (case hrep => exact Reps.none _ _); (case hok => exact fun _ h => h); (case hf => exact ⟨Nat.ne_of_gt (blk_lt BK1c.out), Nat.ne_of_gt (blk_lt BK2c.out)⟩); (case hB => exact HB3.out); (case hs => exact HB3.out.size); (case hm => decide); intro v0 W4 ho4 hb4 hg4 hat4; have HO4 := Aside0.mk ho4; have BK1d := Aside0.mk (blk_grown BK1c.out hg4 (by simp)); have BK2d := Aside0.mk (blk_grown BK2c.out hg4 (by simp)); have HB4 := Aside0.mk hb4; clear ho4 hb4 hg4 hat4 HB3 BK1c BK2c cg1_0 zg1_0 cg1_1 zg1_1 cg1_2 zg1_2 cg1_3 zg1_3 cg1_4 zg1_4 cg1_5 zg1_5 cg1_6 zg1_6; have cg1_0 : W4.cell? ⟨g1, 0, none⟩ = some (.int .i64 x.kind) := (blk_cell BK1d.out 0).trans rfl; have zg1_0 : W4.frozen? ⟨g1, 0, none⟩ = false := blk_frozen BK1d.out 0; have cg1_1 : W4.cell? ⟨g1, 1, none⟩ = some (.int .i64 m) := (blk_cell BK1d.out 1).trans rfl; have zg1_1 : W4.frozen? ⟨g1, 1, none⟩ = false := blk_frozen BK1d.out 1; have cg1_2 : W4.cell? ⟨g1, 2, none⟩ = some (.int .i64 m) := (blk_cell BK1d.out 2).trans rfl; have zg1_2 : W4.frozen? ⟨g1, 2, none⟩ = false := blk_frozen BK1d.out 2; have cg1_3 : W4.cell? ⟨g1, 3, none⟩ = some (.int .i64 x.num) := (blk_cell BK1d.out 3).trans rfl; have zg1_3 : W4.frozen? ⟨g1, 3, none⟩ = false := blk_frozen BK1d.out 3; have cg1_4 : W4.cell? ⟨g1, 4, none⟩ = some (.string x.name) := (blk_cell BK1d.out 4).trans rfl; have zg1_4 : W4.frozen? ⟨g1, 4, none⟩ = false := blk_frozen BK1d.out 4; have cg1_5 : W4.cell? ⟨g1, 5, none⟩ = some (.int .i64 x.op) := (blk_cell BK1d.out 5).trans rfl; have zg1_5 : W4.frozen? ⟨g1, 5, none⟩ = false := blk_frozen BK1d.out 5; have cg1_6 : W4.cell? ⟨g1, 6, none⟩ = some (.slice A6 x.kids.length a6) := (blk_cell BK1d.out 6).trans rfl; have zg1_6 : W4.frozen? ⟨g1, 6, none⟩ = false := blk_frozen BK1d.out 6))
  go_loopg [5, 16] x.kids.length (fun kq v5 v16 w' => ∃ i : Int, v16 = .int .i64 i ∧ 0 ≤ i ∧ kq + i.toNat = x.kids.length ∧ Aside0 (kExpr.R 31 w' w.heap.size (fun k => k ≠ g1 ∧ k ≠ g2) v5 ((shiftEs m x.kids).take i.toNat)) ∧ Aside0 (w'.heap[g1]? = some (.cells #[.int .i64 x.kind, .int .i64 m, .int .i64 m, .int .i64 x.num, .string x.name, .int .i64 x.op, .slice A6 x.kids.length a6] 31 (0, 0))) ∧ Aside0 (w'.heap[g2]? = some (.cells #[.int .i64 0, .int .i64 0, .int .i64 0, .int .i64 0, .string ⟨#[]⟩, .int .i64 0, .slice none 0 0] 31 (0, 0))) ∧ Aside0 (Below w.heap.size w w'))
  case atStart => exact ⟨0, rfl, by omega, by simp, ⟨HO4.out⟩, BK1d, BK2d, HB4⟩
  case round =>
    clear HO4 BK1d BK2d HB4 cg1_0 zg1_0 cg1_1 zg1_1 cg1_2 zg1_2 cg1_3 zg1_3 cg1_4 zg1_4 cg1_5 zg1_5 cg1_6 zg1_6
    obtain ⟨i, rfl, hi0, hk, HO, BK1, BK2, HB⟩ := hrel
    cases gk with
    | zero =>
      have hge : decide (i < (x.kids.length : Int)) = false := by simp; omega
      have hall : (shiftEs m x.kids).take i.toNat = shiftEs m x.kids := List.take_of_length_le (by rw [shiftEs_length]; omega)
      rw [hall] at HO
      clear hall
      obtain ⟨Au, cu, hu⟩ := Kd.R_slice HO.out
      subst hu
      have cg1_0 : wr.cell? ⟨g1, 0, none⟩ = some (.int .i64 x.kind) := (blk_cell BK1.out 0).trans rfl
      have zg1_0 : wr.frozen? ⟨g1, 0, none⟩ = false := blk_frozen BK1.out 0
      have cg1_1 : wr.cell? ⟨g1, 1, none⟩ = some (.int .i64 m) := (blk_cell BK1.out 1).trans rfl
      have zg1_1 : wr.frozen? ⟨g1, 1, none⟩ = false := blk_frozen BK1.out 1
      have cg1_2 : wr.cell? ⟨g1, 2, none⟩ = some (.int .i64 m) := (blk_cell BK1.out 2).trans rfl
      have zg1_2 : wr.frozen? ⟨g1, 2, none⟩ = false := blk_frozen BK1.out 2
      have cg1_3 : wr.cell? ⟨g1, 3, none⟩ = some (.int .i64 x.num) := (blk_cell BK1.out 3).trans rfl
      have zg1_3 : wr.frozen? ⟨g1, 3, none⟩ = false := blk_frozen BK1.out 3
      have cg1_4 : wr.cell? ⟨g1, 4, none⟩ = some (.string x.name) := (blk_cell BK1.out 4).trans rfl
      have zg1_4 : wr.frozen? ⟨g1, 4, none⟩ = false := blk_frozen BK1.out 4
      have cg1_5 : wr.cell? ⟨g1, 5, none⟩ = some (.int .i64 x.op) := (blk_cell BK1.out 5).trans rfl
      have zg1_5 : wr.frozen? ⟨g1, 5, none⟩ = false := blk_frozen BK1.out 5
      have cg1_6 : wr.cell? ⟨g1, 6, none⟩ = some (.slice A6 x.kids.length a6) := (blk_cell BK1.out 6).trans rfl
      have zg1_6 : wr.frozen? ⟨g1, 6, none⟩ = false := blk_frozen BK1.out 6
      have cg2_0 : wr.cell? ⟨g2, 0, none⟩ = some (.int .i64 0) := (blk_cell BK2.out 0).trans rfl
      have zg2_0 : wr.frozen? ⟨g2, 0, none⟩ = false := blk_frozen BK2.out 0
      have cg2_1 : wr.cell? ⟨g2, 1, none⟩ = some (.int .i64 0) := (blk_cell BK2.out 1).trans rfl
      have zg2_1 : wr.frozen? ⟨g2, 1, none⟩ = false := blk_frozen BK2.out 1
      have cg2_2 : wr.cell? ⟨g2, 2, none⟩ = some (.int .i64 0) := (blk_cell BK2.out 2).trans rfl
      have zg2_2 : wr.frozen? ⟨g2, 2, none⟩ = false := blk_frozen BK2.out 2
      have cg2_3 : wr.cell? ⟨g2, 3, none⟩ = some (.int .i64 0) := (blk_cell BK2.out 3).trans rfl
      have zg2_3 : wr.frozen? ⟨g2, 3, none⟩ = false := blk_frozen BK2.out 3
      have cg2_4 : wr.cell? ⟨g2, 4, none⟩ = some (.string ⟨#[]⟩) := (blk_cell BK2.out 4).trans rfl
      have zg2_4 : wr.frozen? ⟨g2, 4, none⟩ = false := blk_frozen BK2.out 4
      have cg2_5 : wr.cell? ⟨g2, 5, none⟩ = some (.int .i64 0) := (blk_cell BK2.out 5).trans rfl
      have zg2_5 : wr.frozen? ⟨g2, 5, none⟩ = false := blk_frozen BK2.out 5
      have cg2_6 : wr.cell? ⟨g2, 6, none⟩ = some (.slice none 0 0) := (blk_cell BK2.out 6).trans rfl
      have zg2_6 : wr.frozen? ⟨g2, 6, none⟩ = false := blk_frozen BK2.out 6
      go_wp2_with (first | ((with_reducible refine gate_store (t := 29) (p := 28) (v := .tmp 27) rfl ?_); refine put_event (w1 := ?w1_1) (g := g1) (cs := #[.int .i64 x.kind, .int .i64 m, .int .i64 m, .int .i64 x.num, .string x.name, .int .i64 x.op, .slice Au (shiftEs m x.kids).length cu]) (T := 31) ?hg (t := 29) (p := 28) (v := .tmp 27) ?ha ?hn ?hr ?hk ?hb ?_; (case ha => rfl); (case hn => rfl); (case hg => rfl); (case hr => first | (go_simp; done) | (go_simp; rfl)); (case hk => exact (Chg.refl _ _).set _ _); (case hb => exact blk_put BK1.out 6 _ rfl); intro W8 ch8 bk8; have BK1h := Aside0.mk bk8; have BK2h := Aside0.mk (ch8.blk BK2.out (Ne.symm NE12.out)); have HB8 := Aside0.mk (below_chg HB.out HB.out.size GE1.out ch8); have HO8 := Aside0.mk (ch8.R HO.out (fun _ hk => hk.1)); clear ch8 bk8 cg1_0 zg1_0 cg1_1 zg1_1 cg1_2 zg1_2 cg1_3 zg1_3 cg1_4 zg1_4 cg1_5 zg1_5 cg1_6 zg1_6; have cg1_0 : W8.cell? ⟨g1, 0, none⟩ = some (.int .i64 x.kind) := (blk_cell BK1h.out 0).trans rfl; have zg1_0 : W8.frozen? ⟨g1, 0, none⟩ = false := blk_frozen BK1h.out 0; have cg1_1 : W8.cell? ⟨g1, 1, none⟩ = some (.int .i64 m) := (blk_cell BK1h.out 1).trans rfl; have zg1_1 : W8.frozen? ⟨g1, 1, none⟩ = false := blk_frozen BK1h.out 1; have cg1_2 : W8.cell? ⟨g1, 2, none⟩ = some (.int .i64 m) := (blk_cell BK1h.out 2).trans rfl; have zg1_2 : W8.frozen? ⟨g1, 2, none⟩ = false := blk_frozen BK1h.out 2; have cg1_3 : W8.cell? ⟨g1, 3, none⟩ = some (.int .i64 x.num) := (blk_cell BK1h.out 3).trans rfl; have zg1_3 : W8.frozen? ⟨g1, 3, none⟩ = false := blk_frozen BK1h.out 3; have cg1_4 : W8.cell? ⟨g1, 4, none⟩ = some (.string x.name) := (blk_cell BK1h.out 4).trans rfl; have zg1_4 : W8.frozen? ⟨g1, 4, none⟩ = false := blk_frozen BK1h.out 4; have cg1_5 : W8.cell? ⟨g1, 5, none⟩ = some (.int .i64 x.op) := (blk_cell BK1h.out 5).trans rfl; have zg1_5 : W8.frozen? ⟨g1, 5, none⟩ = false := blk_frozen BK1h.out 5; have cg1_6 : W8.cell? ⟨g1, 6, none⟩ = some (.slice Au (shiftEs m x.kids).length cu) := (blk_cell BK1h.out 6).trans rfl; have zg1_6 : W8.frozen? ⟨g1, 6, none⟩ = false := blk_frozen BK1h.out 6; have cg2_0 : W8.cell? ⟨g2, 0, none⟩ = some (.int .i64 0) := (blk_cell BK2h.out 0).trans rfl; have zg2_0 : W8.frozen? ⟨g2, 0, none⟩ = false := blk_frozen BK2h.out 0; have cg2_1 : W8.cell? ⟨g2, 1, none⟩ = some (.int .i64 0) := (blk_cell BK2h.out 1).trans rfl; have zg2_1 : W8.frozen? ⟨g2, 1, none⟩ = false := blk_frozen BK2h.out 1; have cg2_2 : W8.cell? ⟨g2, 2, none⟩ = some (.int .i64 0) := (blk_cell BK2h.out 2).trans rfl; have zg2_2 : W8.frozen? ⟨g2, 2, none⟩ = false := blk_frozen BK2h.out 2; have cg2_3 : W8.cell? ⟨g2, 3, none⟩ = some (.int .i64 0) := (blk_cell BK2h.out 3).trans rfl; have zg2_3 : W8.frozen? ⟨g2, 3, none⟩ = false := blk_frozen BK2h.out 3; have cg2_4 : W8.cell? ⟨g2, 4, none⟩ = some (.string ⟨#[]⟩) := (blk_cell BK2h.out 4).trans rfl; have zg2_4 : W8.frozen? ⟨g2, 4, none⟩ = false := blk_frozen BK2h.out 4; have cg2_5 : W8.cell? ⟨g2, 5, none⟩ = some (.int .i64 0) := (blk_cell BK2h.out 5).trans rfl; have zg2_5 : W8.frozen? ⟨g2, 5, none⟩ = false := blk_frozen BK2h.out 5; have cg2_6 : W8.cell? ⟨g2, 6, none⟩ = some (.slice none 0 0) := (blk_cell BK2h.out 6).trans rfl; have zg2_6 : W8.frozen? ⟨g2, 6, none⟩ = false := blk_frozen BK2h.out 6) | ((with_reducible refine gate_store (t := 31) (p := 4) (v := .tmp 29) rfl ?_); refine put_event (w1 := ?w1_2) (g := g2) (cs := #[.int .i64 x.kind, .int .i64 m, .int .i64 m, .int .i64 x.num, .string x.name, .int .i64 x.op, .slice Au (shiftEs m x.kids).length cu]) (T := 31) ?hg (t := 31) (p := 4) (v := .tmp 29) ?ha ?hn ?hr ?hk ?hb ?_; (case ha => rfl); (case hn => rfl); (case hg => rfl); (case hr => first | (go_simp; done) | (go_simp; rfl)); (case hk => exact (((((((Chg.refl _ _).set _ _).set _ _).set _ _).set _ _).set _ _).set _ _).set _ _); (case hb => exact blk_put (blk_put (blk_put (blk_put (blk_put (blk_put (blk_put BK2h.out 0 _ rfl) 1 _ rfl) 2 _ rfl) 3 _ rfl) 4 _ rfl) 5 _ rfl) 6 _ rfl); intro W9 ch9 bk9; have BK2i := Aside0.mk bk9; have HB9 := Aside0.mk (below_chg HB8.out HB8.out.size GE2.out ch9); have HO9 := Aside0.mk (ch9.R HO8.out (fun _ hk => hk.2)); clear ch9 bk9 cg1_0 zg1_0 cg1_1 zg1_1 cg1_2 zg1_2 cg1_3 zg1_3 cg1_4 zg1_4 cg1_5 zg1_5 cg1_6 zg1_6 cg2_0 zg2_0 cg2_1 zg2_1 cg2_2 zg2_2 cg2_3 zg2_3 cg2_4 zg2_4 cg2_5 zg2_5 cg2_6 zg2_6))
      refine bodyPost_ret (results_cell_row rfl _ _ g2 31 #[.int .i64 x.kind, .int .i64 m, .int .i64 m, .int .i64 x.num, .string x.name, .int .i64 x.op, .slice Au (shiftEs m x.kids).length cu] (0, 0) _ rfl BK2i.out Tryd.underlying31 rfl (by kernel_rfl)) rfl ?_
      exact ⟨_, rfl, ⟨Kd.R_mono HO9.out (fun _ _ => trivial)⟩, HB9.out⟩
    | succ k1_ =>
      have hi1 : i < (x.kids.length : Int) := by omega
      have hx1 := Kd.C_below hx6.out HB.out
      obtain ⟨ad, B6, b6, ea, e0, e1, e2, e3, e4, e5, e6, em0, el6, eg6⟩ := atExpr hx1 i hi0 hi1
      obtain rfl := ea
      have hmx : rdExpr x.kids i ∈ x.kids := rdExpr_mem _ _ hi0 hi1
      have K0 := Aside0.mk (show kExpr.K wr (rdExpr x.kids i) [.int .i64 (rdExpr x.kids i).kind, .int .i64 (rdExpr x.kids i).pos.line, .int .i64 (rdExpr x.kids i).pos.col, .int .i64 (rdExpr x.kids i).num, .string (rdExpr x.kids i).name, .int .i64 (rdExpr x.kids i).op, .slice B6 (rdExpr x.kids i).kids.length b6] from kExpr_mk wr _ em0 el6 eg6)
      have NM := Aside0.mk em0
      have HA := Aside0.mk (fun o => (Below.refl _ _).alloc (Nat.le_refl _) o : ∀ o, Below wr.heap.size wr (wr.alloc o))
      clear em0 el6 eg6 hx1
      go_wp2_with (first | (go_at_call 10; (with_reducible refine (ih _ hmx _ _ (kExpr.K_below (HA.out _) K0.out)).mono ?_); rintro e W6 ⟨v6, rfl, hr6, hb6⟩; have HB6 := Aside0.mk (below_step (below_step HB.out (HA.out _)) hb6); have HO6 := Aside0.mk (Kd.R_below (Kd.R_below HO.out (HA.out _)) hb6); have BK1f := Aside0.mk (blk_below (blk_below BK1.out (HA.out _)) hb6); have BK2f := Aside0.mk (blk_below (blk_below BK2.out (HA.out _)) hb6); have HN6 := Aside0.mk (Kd.R_newB (Kd.R_newB (Kd.R_new' hr6.out (Kd.R_lt (Kd.R_below HO.out (HA.out _)))) (blk_below BK1.out (HA.out _))) (blk_below BK2.out (HA.out _))); clear hb6 hr6) | ((with_reducible refine gate_builtin (b := .append) (xs := #[.tmp 20, .tmp 24]) rfl ?_); at_builtin; refine Kd.R_append kExpr (w0 := w) w.heap.size rfl (.tmp 20) (.tmp 24) 29 31 (.agg #[.int .i64 0, .int .i64 0, .int .i64 0, .int .i64 0, .string ⟨#[]⟩, .int .i64 0, .slice none 0 0]) 80 rfl Tryd.underlying29 infoExpr rfl (by decide) (by omega) u5 _ (shiftE m (rdExpr x.kids i)) [.int .i64 (rdExpr x.kids i).kind, .int .i64 m, .int .i64 m, .int .i64 (rdExpr x.kids i).num, .string (rdExpr x.kids i).name, .int .i64 (rdExpr x.kids i).op, v6] (fun k => k ≠ g1 ∧ k ≠ g2) (fun k => (k ≠ g1 ∧ k ≠ g2) ∧ some k ≠ (u5 : Value).ownBlock) rfl rfl ?aP (fun _ hk => hk) ?aF HO6.out HB6.out HB6.out.size ?aL ?_; (case aP => exact shiftE_M _ _ _ m _ NM.out (Kd.R_mono (Kd.R_lower HN6.out (Nat.le_trans HB.out.size (HA.out _).size)) (fun k hk => ⟨⟨hk.1.2, hk.2⟩, hk.1.1.2⟩))); (case aF => exact fun k hk => ⟨Nat.ne_of_gt (Nat.lt_of_lt_of_le (blk_lt BK1f.out) hk), Nat.ne_of_gt (Nat.lt_of_lt_of_le (blk_lt BK2f.out) hk)⟩); (case aL => rw [List.length_take, shiftEs_length]; omega); intro v7 W7 ho7 hb7 hg7 hat7; have HO7 := Aside0.mk ho7; have HB7 := Aside0.mk hb7; have BK1g := Aside0.mk (blk_grown BK1f.out hg7 (Kd.R_away HO6.out (fun _ hk => hk.1))); have BK2g := Aside0.mk (blk_grown BK2f.out hg7 (Kd.R_away HO6.out (fun _ hk => hk.2))); clear ho7 hb7 hg7 hat7))
      go_roundg k1_
      case measure => omega
      case rel =>
        refine ⟨i + 1, rfl, by omega, by omega, ⟨?_⟩, BK1g, BK2g, HB7⟩
        rw [shiftEs_take m x.kids i hi0 hi1]
        exact HO7.out

/-- WHAT shift COMPUTES. -/
theorem shift_calls (n : Nat) : ∀ (x : Expr), SizeOf.sizeOf x ≤ n → Slim 1000000000000 x → ∀ (m : Int) (cs : List Value) (w : World), kExpr.K w x cs → Calls Tryd.prog 10 #[.agg cs.toArray, .int .i64 m] w fun e w' => ∃ v6, e = .returned (.agg #[.int .i64 x.kind, .int .i64 m, .int .i64 m, .int .i64 x.num, .string x.name, .int .i64 x.op, v6]) ∧ Aside0 (kExpr.R 31 w' w.heap.size (fun _ => True) v6 (shiftEs m x.kids)) ∧ Below w.heap.size w w' := by
  induction n with
  | zero =>
    intro x hx
    cases x
    simp at hx
  | succ n ih =>
    intro x hx hs m cs w h
    exact shift_step x m cs w h hs.le (fun p hp cs w h => ih p (by have := kid_size hp; omega) (hs.kids.mem p hp) m cs w h)
theorem shift_any (x : Expr) (hs : Slim 1000000000000 x) (m : Int) (cs : List Value) (w : World) (h : kExpr.K w x cs) : Calls Tryd.prog 10 #[.agg cs.toArray, .int .i64 m] w fun e w' => ∃ v6, e = .returned (.agg #[.int .i64 x.kind, .int .i64 m, .int .i64 m, .int .i64 x.num, .string x.name, .int .i64 x.op, v6]) ∧ Aside0 (kExpr.R 31 w' w.heap.size (fun _ => True) v6 (shiftEs m x.kids)) ∧ Below w.heap.size w w' := shift_calls _ x (Nat.le_refl _) hs m cs w h

theorem all2_map {α : Type} (f : α → α → Bool) (g : α → α) : ∀ (xs : List α), (∀ x, x ∈ xs → f x (g x) = true) → all2 f xs (xs.map g) = true
  | [], _ => rfl
  | x :: r, h => by rw [List.map_cons, all2, h x (by simp), all2_map f g r (fun y hy => h y (by simp [hy])), Bool.true_and]
theorem all2_map' {α : Type} (f : α → α → Bool) (g : α → α) : ∀ (xs : List α), (∀ x, x ∈ xs → f (g x) x = true) → all2 f (xs.map g) xs = true
  | [], _ => rfl
  | x :: r, h => by rw [List.map_cons, all2, h x (by simp), all2_map' f g r (fun y hy => h y (by simp [hy])), Bool.true_and]
theorem same_shift (m : Int) (n : Nat) : ∀ (x : Expr), SizeOf.sizeOf x ≤ n → sameE x (shiftE m x) = true ∧ sameE (shiftE m x) x = true := by
  induction n with
  | zero =>
    intro x hx
    cases x
    simp at hx
  | succ n ih =>
    intro x hx
    have h1 : all2 sameE x.kids (shiftEs m x.kids) = true := by
      rw [shiftEs_map]
      exact all2_map _ _ _ (fun y hy => (ih y (by have := kid_size hy; omega)).1)
    have h2 : all2 sameE (shiftEs m x.kids) x.kids = true := by
      rw [shiftEs_map]
      exact all2_map' _ _ _ (fun y hy => (ih y (by have := kid_size hy; omega)).2)
    rw [shiftE_eq]
    constructor
    · rw [sameE_eq]
      simp [h1]
    · rw [sameE_eq]
      simp [h2]
theorem all2_refl {α : Type} (f : α → α → Bool) : ∀ (xs : List α), (∀ x, x ∈ xs → f x x = true) → all2 f xs xs = true
  | [], _ => rfl
  | x :: r, h => by rw [all2, h x (by simp), all2_refl f r (fun y hy => h y (by simp [hy])), Bool.true_and]
theorem sameE_refl (n : Nat) : ∀ (x : Expr), SizeOf.sizeOf x ≤ n → sameE x x = true := by
  induction n with
  | zero =>
    intro x hx
    cases x
    simp at hx
  | succ n ih =>
    intro x hx
    rw [sameE_eq, all2_refl _ _ (fun y hy => ih y (by have := kid_size hy; omega))]
    simp
end Go.Proofs.YtpbeplepcbhamaaDoor
