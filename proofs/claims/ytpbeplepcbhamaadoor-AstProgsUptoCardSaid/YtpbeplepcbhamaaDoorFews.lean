/- FewStmts: what it computes. -/
import Derived.Test.YtpbeplepcbhamaaDoorFew
import Derived.Test.YtpbeplepcbhamaaDoorMem
namespace Go.Proofs.YtpbeplepcbhamaaDoor
open Go.RowKit Go.Proofs.YtpbeplepcbhamaaDoorW.PrintWords Go.Proofs.YtpbeplepcbhamaaDoorW.PrintLast Go.Proofs.YtpbeplepcbhamaaDoorW.PrintMore
set_option linter.unusedVariables false
set_option linter.unusedSimpArgs false

mutual
/-- Has a list of statements few parts, not too deep? -/
def fewSt : Stmt → Int → Bool
  | ⟨_, _, name, es, thens, elses⟩, d => decide (name.size ≤ 40) && (decide (es.length ≤ 3) && (((decide (d + 1 ≤ 6) && decide (thens.length ≤ 8)) && fewAll thens (d + 1)) && (((decide (d + 1 ≤ 6) && decide (elses.length ≤ 8)) && fewAll elses (d + 1)) && es.all (fewE · 0))))
def fewAll : List Stmt → Int → Bool
  | [], _ => true
  | x :: r, d => fewSt x d && fewAll r d
end
def fewSs (xs : List Stmt) (d : Int) : Bool := (decide (d ≤ 6) && decide (xs.length ≤ 8)) && fewAll xs d
theorem fewAll_all : ∀ (xs : List Stmt) (d : Int), fewAll xs d = xs.all (fewSt · d)
  | [], _ => by simp [fewAll]
  | x :: r, d => by rw [fewAll, fewAll_all r d, List.all_cons]
theorem fewSt_eq (s : Stmt) (d : Int) : fewSt s d = (decide (s.name.size ≤ 40) && (decide (s.es.length ≤ 3) && (fewSs s.thens (d + 1) && (fewSs s.elses (d + 1) && s.es.all (fewE · 0))))) := by
  cases s
  rw [fewSt, fewSs, fewSs]
theorem fewSs_eq (xs : List Stmt) (d : Int) : fewSs xs d = (decide (d ≤ 6) && (decide (xs.length ≤ 8) && xs.all (fewSt · d))) := by
  rw [fewSs, fewAll_all, Bool.and_assoc]

set_option maxRecDepth 100000 in
set_option maxHeartbeats 3200000 in
theorem fews_step (xs : List Stmt) (d : Int) (A : Option Addr) (n c : Nat) (w : World) (hx : kStmt.C w A n xs) (hd0 : 0 ≤ d) (hd1 : d ≤ 1000)
    (ihT : ∀ s, s ∈ xs → ∀ A c w, d ≤ 6 → kStmt.C w A s.thens.length s.thens → Calls Tryd.prog 14 #[.slice A (s.thens).length c, .int .i64 (d + 1)] w fun e w' => e = .returned (.bool (fewSs s.thens (d + 1))) ∧ Below w.heap.size w w')
    (ihE : ∀ s, s ∈ xs → ∀ A c w, d ≤ 6 → kStmt.C w A s.elses.length s.elses → Calls Tryd.prog 14 #[.slice A (s.elses).length c, .int .i64 (d + 1)] w fun e w' => e = .returned (.bool (fewSs s.elses (d + 1))) ∧ Below w.heap.size w w') :
    Calls Tryd.prog 14 #[.slice A n c, .int .i64 d] w fun e w' => e = .returned (.bool (fewSs xs d)) ∧ Below w.heap.size w w' := by
  have hn : xs.length = n := hx.1
  have hm := hx.2.1
  have HX := Aside0.mk hx
  clear hx
  by_cases c1_ : ¬ (d ≤ 6)
  · have k1 : decide (6 < d) = true := by simp; omega
    have V := Aside0.mk (decide_eq_false c1_)
    clear c1_
    go_enter Tryd.func14, Tryd.ntmps14
    go_wp2_with fail
    go_ret
    refine ⟨?_, Below.refl _ _⟩
    rw [fewSs_eq, V.out]
    rfl
  have c1 : d ≤ 6 := Decidable.not_not.1 c1_
  clear c1_
  have k1 : decide (6 < d) = false := by simp; omega
  by_cases c2_ : ¬ (n ≤ 8)
  · have k2 : decide (8 < (n : Int)) = true := by simp; omega
    have V := Aside0.mk (show decide (xs.length ≤ 8) = false from decide_eq_false (by omega))
    clear c1 c2_
    go_enter Tryd.func14, Tryd.ntmps14
    go_wp2_with fail
    go_ret
    refine ⟨?_, Below.refl _ _⟩
    rw [fewSs_eq, V.out, Bool.false_and, Bool.and_false]
    rfl
  have c2 : n ≤ 8 := Decidable.not_not.1 c2_
  clear c2_
  have k2 : decide (8 < (n : Int)) = false := by simp; omega
  have hv : fewSs xs d = xs.all (fewSt · d) := by rw [fewSs_eq, decide_eq_true c1, decide_eq_true (show xs.length ≤ 8 by omega), Bool.true_and, Bool.true_and]
  have HV := Aside0.mk hv
  have ihT' := fun s hs A c w => ihT s hs A c w c1
  have ihE' := fun s hs A c w => ihE s hs A c w c1
  clear hv ihT ihE c2
  go_enter Tryd.func14, Tryd.ntmps14
  go_wp2_with fail
  go_loopg [18] n (fun kq v18 w' => ∃ i : Int, v18 = .int .i64 i ∧ 0 ≤ i ∧ kq + i.toNat = n ∧ Aside0 (∀ j, j < i.toNat → fewSt (xs.getD j zStmt) d = true) ∧ Aside0 (Below w.heap.size w w'))
  case atStart => exact ⟨0, rfl, by omega, by simp, ⟨fun j hj => absurd hj (by simp)⟩, ⟨Below.refl _ _⟩⟩
  case round =>
    obtain ⟨i, rfl, hi0, hk, HS, HB⟩ := hrel
    cases gk with
    | zero =>
      have hge : decide (i < (n : Int)) = false := by simp; omega
      go_wp2_with fail
      go_ret
      refine ⟨?_, HB.out⟩
      rw [HV.out, all_true _ zStmt xs (fun j hj => HS.out j (by omega))]
      rfl
    | succ k1_ =>
      have hi1 : i < (n : Int) := by omega
      have hx1 := Kd.C_below HX.out HB.out
      obtain ⟨ad, B4, b4, B5, b5, B6, b6, ea, e0, e1, e2, e3, e4, e5, e6, el4, eg4, el5, eg5, el6, eg6⟩ := atStmt hx1 i hi0 hi1
      obtain rfl := ea
      have hms : rdStmt xs i ∈ xs := rdStmt_mem _ _ hi0 (by omega)
      have HES := Aside0.mk eg4
      have HT := Aside0.mk eg5
      have HE := Aside0.mk eg6
      clear el4 eg4 el5 eg5 el6 eg6
      clear hx1
      have hno : fewSt (rdStmt xs i) d = false → fewSs xs d = false := fun h => HV.out.trans (all_false (fewSt · d) zStmt xs i.toNat (by omega) h)
      have HNO := Aside0.mk hno
      clear hno
      by_cases c3_ : ¬ ((rdStmt xs i).name.size ≤ 40)
      · have k3 : decide (40 < ((rdStmt xs i).name.size : Int)) = true := by simp; omega
        have V := Aside0.mk (decide_eq_false c3_)
        clear c1 c3_
        go_wp2_with (first | ((with_reducible refine gate_dst (N := 6) rfl ?_); refine var_event (W1 := ?w1_6) (N := 6) (cs := #[.int .i64 (rdStmt xs i).does, .int .i64 (rdStmt xs i).pos.line, .int .i64 (rdStmt xs i).pos.col, .string (rdStmt xs i).name, .slice B4 (rdStmt xs i).es.length b4, .slice B5 (rdStmt xs i).thens.length b5, .slice B6 (rdStmt xs i).elses.length b6]) (t := 38) ?hg ?hd ?hg2 ?hd2 ?hr ?hr2 ?_; (case hd => rfl); (case hg => rfl); (case hd2 => rfl); (case hg2 => rfl); (case hr => first | (go_simp; done) | (go_simp; rfl)); (case hr2 => first | (go_simp; done) | (go_simp; rfl)); intro g6 hgE_ W1 hbox_ hb_; have GEg6 := Aside0.mk (show w.heap.size ≤ g6 from Nat.le_trans HB.out.size (hgE_)); replace HB := Aside0.mk (below_step HB.out hb_); replace HT := Aside0.mk (Kd.C_below HT.out hb_); replace HE := Aside0.mk (Kd.C_below HE.out hb_); replace HES := Aside0.mk (Kd.C_below HES.out hb_); have BKg6 := Aside0.mk hbox_; have cg6_0 : W1.cell? ⟨g6, 0, none⟩ = some (.int .i64 (rdStmt xs i).does) := (blk_cell BKg6.out 0).trans rfl; have cg6_1 : W1.cell? ⟨g6, 1, none⟩ = some (.int .i64 (rdStmt xs i).pos.line) := (blk_cell BKg6.out 1).trans rfl; have cg6_2 : W1.cell? ⟨g6, 2, none⟩ = some (.int .i64 (rdStmt xs i).pos.col) := (blk_cell BKg6.out 2).trans rfl; have cg6_3 : W1.cell? ⟨g6, 3, none⟩ = some (.string (rdStmt xs i).name) := (blk_cell BKg6.out 3).trans rfl; have cg6_4 : W1.cell? ⟨g6, 4, none⟩ = some (.slice B4 (rdStmt xs i).es.length b4) := (blk_cell BKg6.out 4).trans rfl; have cg6_5 : W1.cell? ⟨g6, 5, none⟩ = some (.slice B5 (rdStmt xs i).thens.length b5) := (blk_cell BKg6.out 5).trans rfl; have cg6_6 : W1.cell? ⟨g6, 6, none⟩ = some (.slice B6 (rdStmt xs i).elses.length b6) := (blk_cell BKg6.out 6).trans rfl; clear hb_ hbox_ hgE_))
        go_ret
        refine ⟨?_, HB.out⟩
        rw [HNO.out (by rw [fewSt_eq, V.out]; rfl)]
        rfl
      have c3 : (rdStmt xs i).name.size ≤ 40 := Decidable.not_not.1 c3_
      clear c3_
      have k3 : decide (40 < ((rdStmt xs i).name.size : Int)) = false := by simp; omega
      by_cases c4_ : ¬ ((rdStmt xs i).es.length ≤ 3)
      · have k4 : decide (3 < ((rdStmt xs i).es.length : Int)) = true := by simp; omega
        have V := Aside0.mk (decide_eq_false c4_)
        clear c1 c3 c4_
        go_wp2_with (first | ((with_reducible refine gate_dst (N := 6) rfl ?_); refine var_event (W1 := ?w1_6) (N := 6) (cs := #[.int .i64 (rdStmt xs i).does, .int .i64 (rdStmt xs i).pos.line, .int .i64 (rdStmt xs i).pos.col, .string (rdStmt xs i).name, .slice B4 (rdStmt xs i).es.length b4, .slice B5 (rdStmt xs i).thens.length b5, .slice B6 (rdStmt xs i).elses.length b6]) (t := 38) ?hg ?hd ?hg2 ?hd2 ?hr ?hr2 ?_; (case hd => rfl); (case hg => rfl); (case hd2 => rfl); (case hg2 => rfl); (case hr => first | (go_simp; done) | (go_simp; rfl)); (case hr2 => first | (go_simp; done) | (go_simp; rfl)); intro g6 hgE_ W1 hbox_ hb_; have GEg6 := Aside0.mk (show w.heap.size ≤ g6 from Nat.le_trans HB.out.size (hgE_)); replace HB := Aside0.mk (below_step HB.out hb_); replace HT := Aside0.mk (Kd.C_below HT.out hb_); replace HE := Aside0.mk (Kd.C_below HE.out hb_); replace HES := Aside0.mk (Kd.C_below HES.out hb_); have BKg6 := Aside0.mk hbox_; have cg6_0 : W1.cell? ⟨g6, 0, none⟩ = some (.int .i64 (rdStmt xs i).does) := (blk_cell BKg6.out 0).trans rfl; have cg6_1 : W1.cell? ⟨g6, 1, none⟩ = some (.int .i64 (rdStmt xs i).pos.line) := (blk_cell BKg6.out 1).trans rfl; have cg6_2 : W1.cell? ⟨g6, 2, none⟩ = some (.int .i64 (rdStmt xs i).pos.col) := (blk_cell BKg6.out 2).trans rfl; have cg6_3 : W1.cell? ⟨g6, 3, none⟩ = some (.string (rdStmt xs i).name) := (blk_cell BKg6.out 3).trans rfl; have cg6_4 : W1.cell? ⟨g6, 4, none⟩ = some (.slice B4 (rdStmt xs i).es.length b4) := (blk_cell BKg6.out 4).trans rfl; have cg6_5 : W1.cell? ⟨g6, 5, none⟩ = some (.slice B5 (rdStmt xs i).thens.length b5) := (blk_cell BKg6.out 5).trans rfl; have cg6_6 : W1.cell? ⟨g6, 6, none⟩ = some (.slice B6 (rdStmt xs i).elses.length b6) := (blk_cell BKg6.out 6).trans rfl; clear hb_ hbox_ hgE_))
        go_ret
        refine ⟨?_, HB.out⟩
        rw [HNO.out (by rw [fewSt_eq, V.out, Bool.false_and, Bool.and_false])]
        rfl
      have c4 : (rdStmt xs i).es.length ≤ 3 := Decidable.not_not.1 c4_
      clear c4_
      have k4 : decide (3 < ((rdStmt xs i).es.length : Int)) = false := by simp; omega
      cases hvt : fewSs (rdStmt xs i).thens (d + 1) with
      | false =>
        have VT := Aside0.mk hvt
        clear hvt c1 c3 c4
        go_wp2_with (first | ((with_reducible refine gate_dst (N := 6) rfl ?_); refine var_event (W1 := ?w1_6) (N := 6) (cs := #[.int .i64 (rdStmt xs i).does, .int .i64 (rdStmt xs i).pos.line, .int .i64 (rdStmt xs i).pos.col, .string (rdStmt xs i).name, .slice B4 (rdStmt xs i).es.length b4, .slice B5 (rdStmt xs i).thens.length b5, .slice B6 (rdStmt xs i).elses.length b6]) (t := 38) ?hg ?hd ?hg2 ?hd2 ?hr ?hr2 ?_; (case hd => rfl); (case hg => rfl); (case hd2 => rfl); (case hg2 => rfl); (case hr => first | (go_simp; done) | (go_simp; rfl)); (case hr2 => first | (go_simp; done) | (go_simp; rfl)); intro g6 hgE_ W1 hbox_ hb_; have GEg6 := Aside0.mk (show w.heap.size ≤ g6 from Nat.le_trans HB.out.size (hgE_)); replace HB := Aside0.mk (below_step HB.out hb_); replace HT := Aside0.mk (Kd.C_below HT.out hb_); replace HE := Aside0.mk (Kd.C_below HE.out hb_); replace HES := Aside0.mk (Kd.C_below HES.out hb_); have BKg6 := Aside0.mk hbox_; have cg6_0 : W1.cell? ⟨g6, 0, none⟩ = some (.int .i64 (rdStmt xs i).does) := (blk_cell BKg6.out 0).trans rfl; have cg6_1 : W1.cell? ⟨g6, 1, none⟩ = some (.int .i64 (rdStmt xs i).pos.line) := (blk_cell BKg6.out 1).trans rfl; have cg6_2 : W1.cell? ⟨g6, 2, none⟩ = some (.int .i64 (rdStmt xs i).pos.col) := (blk_cell BKg6.out 2).trans rfl; have cg6_3 : W1.cell? ⟨g6, 3, none⟩ = some (.string (rdStmt xs i).name) := (blk_cell BKg6.out 3).trans rfl; have cg6_4 : W1.cell? ⟨g6, 4, none⟩ = some (.slice B4 (rdStmt xs i).es.length b4) := (blk_cell BKg6.out 4).trans rfl; have cg6_5 : W1.cell? ⟨g6, 5, none⟩ = some (.slice B5 (rdStmt xs i).thens.length b5) := (blk_cell BKg6.out 5).trans rfl; have cg6_6 : W1.cell? ⟨g6, 6, none⟩ = some (.slice B6 (rdStmt xs i).elses.length b6) := (blk_cell BKg6.out 6).trans rfl; clear hb_ hbox_ hgE_) | (go_at_call 14; (with_reducible refine ((ihT' _ hms _ _ _ HT.out)).mono ?_); rintro e W2 ⟨rfl, hb_⟩; rw [VT.out]; replace HB := Aside0.mk (below_step HB.out hb_); replace BKg6 := Aside0.mk (blk_below BKg6.out hb_); replace cg6_0 : W2.cell? ⟨g6, 0, none⟩ = some (.int .i64 (rdStmt xs i).does) := (blk_cell BKg6.out 0).trans rfl; replace cg6_1 : W2.cell? ⟨g6, 1, none⟩ = some (.int .i64 (rdStmt xs i).pos.line) := (blk_cell BKg6.out 1).trans rfl; replace cg6_2 : W2.cell? ⟨g6, 2, none⟩ = some (.int .i64 (rdStmt xs i).pos.col) := (blk_cell BKg6.out 2).trans rfl; replace cg6_3 : W2.cell? ⟨g6, 3, none⟩ = some (.string (rdStmt xs i).name) := (blk_cell BKg6.out 3).trans rfl; replace cg6_4 : W2.cell? ⟨g6, 4, none⟩ = some (.slice B4 (rdStmt xs i).es.length b4) := (blk_cell BKg6.out 4).trans rfl; replace cg6_5 : W2.cell? ⟨g6, 5, none⟩ = some (.slice B5 (rdStmt xs i).thens.length b5) := (blk_cell BKg6.out 5).trans rfl; replace cg6_6 : W2.cell? ⟨g6, 6, none⟩ = some (.slice B6 (rdStmt xs i).elses.length b6) := (blk_cell BKg6.out 6).trans rfl; replace HT := Aside0.mk (Kd.C_below HT.out hb_); replace HE := Aside0.mk (Kd.C_below HE.out hb_); replace HES := Aside0.mk (Kd.C_below HES.out hb_); clear hb_ ))
        go_ret
        refine ⟨?_, HB.out⟩
        rw [HNO.out (by rw [fewSt_eq, VT.out]; simp)]
        rfl
      | true =>
      have VT := Aside0.mk hvt
      clear hvt
      cases hve : fewSs (rdStmt xs i).elses (d + 1) with
      | false =>
        have VE := Aside0.mk hve
        clear hve c1 c3 c4
        go_wp2_with (first | ((with_reducible refine gate_dst (N := 6) rfl ?_); refine var_event (W1 := ?w1_6) (N := 6) (cs := #[.int .i64 (rdStmt xs i).does, .int .i64 (rdStmt xs i).pos.line, .int .i64 (rdStmt xs i).pos.col, .string (rdStmt xs i).name, .slice B4 (rdStmt xs i).es.length b4, .slice B5 (rdStmt xs i).thens.length b5, .slice B6 (rdStmt xs i).elses.length b6]) (t := 38) ?hg ?hd ?hg2 ?hd2 ?hr ?hr2 ?_; (case hd => rfl); (case hg => rfl); (case hd2 => rfl); (case hg2 => rfl); (case hr => first | (go_simp; done) | (go_simp; rfl)); (case hr2 => first | (go_simp; done) | (go_simp; rfl)); intro g6 hgE_ W1 hbox_ hb_; have GEg6 := Aside0.mk (show w.heap.size ≤ g6 from Nat.le_trans HB.out.size (hgE_)); replace HB := Aside0.mk (below_step HB.out hb_); replace HT := Aside0.mk (Kd.C_below HT.out hb_); replace HE := Aside0.mk (Kd.C_below HE.out hb_); replace HES := Aside0.mk (Kd.C_below HES.out hb_); have BKg6 := Aside0.mk hbox_; have cg6_0 : W1.cell? ⟨g6, 0, none⟩ = some (.int .i64 (rdStmt xs i).does) := (blk_cell BKg6.out 0).trans rfl; have cg6_1 : W1.cell? ⟨g6, 1, none⟩ = some (.int .i64 (rdStmt xs i).pos.line) := (blk_cell BKg6.out 1).trans rfl; have cg6_2 : W1.cell? ⟨g6, 2, none⟩ = some (.int .i64 (rdStmt xs i).pos.col) := (blk_cell BKg6.out 2).trans rfl; have cg6_3 : W1.cell? ⟨g6, 3, none⟩ = some (.string (rdStmt xs i).name) := (blk_cell BKg6.out 3).trans rfl; have cg6_4 : W1.cell? ⟨g6, 4, none⟩ = some (.slice B4 (rdStmt xs i).es.length b4) := (blk_cell BKg6.out 4).trans rfl; have cg6_5 : W1.cell? ⟨g6, 5, none⟩ = some (.slice B5 (rdStmt xs i).thens.length b5) := (blk_cell BKg6.out 5).trans rfl; have cg6_6 : W1.cell? ⟨g6, 6, none⟩ = some (.slice B6 (rdStmt xs i).elses.length b6) := (blk_cell BKg6.out 6).trans rfl; clear hb_ hbox_ hgE_) | (go_at_call 14; (with_reducible refine ((ihT' _ hms _ _ _ HT.out)).mono ?_); rintro e W2 ⟨rfl, hb_⟩; rw [VT.out]; replace HB := Aside0.mk (below_step HB.out hb_); replace BKg6 := Aside0.mk (blk_below BKg6.out hb_); replace cg6_0 : W2.cell? ⟨g6, 0, none⟩ = some (.int .i64 (rdStmt xs i).does) := (blk_cell BKg6.out 0).trans rfl; replace cg6_1 : W2.cell? ⟨g6, 1, none⟩ = some (.int .i64 (rdStmt xs i).pos.line) := (blk_cell BKg6.out 1).trans rfl; replace cg6_2 : W2.cell? ⟨g6, 2, none⟩ = some (.int .i64 (rdStmt xs i).pos.col) := (blk_cell BKg6.out 2).trans rfl; replace cg6_3 : W2.cell? ⟨g6, 3, none⟩ = some (.string (rdStmt xs i).name) := (blk_cell BKg6.out 3).trans rfl; replace cg6_4 : W2.cell? ⟨g6, 4, none⟩ = some (.slice B4 (rdStmt xs i).es.length b4) := (blk_cell BKg6.out 4).trans rfl; replace cg6_5 : W2.cell? ⟨g6, 5, none⟩ = some (.slice B5 (rdStmt xs i).thens.length b5) := (blk_cell BKg6.out 5).trans rfl; replace cg6_6 : W2.cell? ⟨g6, 6, none⟩ = some (.slice B6 (rdStmt xs i).elses.length b6) := (blk_cell BKg6.out 6).trans rfl; replace HT := Aside0.mk (Kd.C_below HT.out hb_); replace HE := Aside0.mk (Kd.C_below HE.out hb_); replace HES := Aside0.mk (Kd.C_below HES.out hb_); clear hb_ ) | (go_at_call 14; (with_reducible refine ((ihE' _ hms _ _ _ HE.out)).mono ?_); rintro e W3 ⟨rfl, hb_⟩; rw [VE.out]; replace HB := Aside0.mk (below_step HB.out hb_); replace BKg6 := Aside0.mk (blk_below BKg6.out hb_); replace cg6_0 : W3.cell? ⟨g6, 0, none⟩ = some (.int .i64 (rdStmt xs i).does) := (blk_cell BKg6.out 0).trans rfl; replace cg6_1 : W3.cell? ⟨g6, 1, none⟩ = some (.int .i64 (rdStmt xs i).pos.line) := (blk_cell BKg6.out 1).trans rfl; replace cg6_2 : W3.cell? ⟨g6, 2, none⟩ = some (.int .i64 (rdStmt xs i).pos.col) := (blk_cell BKg6.out 2).trans rfl; replace cg6_3 : W3.cell? ⟨g6, 3, none⟩ = some (.string (rdStmt xs i).name) := (blk_cell BKg6.out 3).trans rfl; replace cg6_4 : W3.cell? ⟨g6, 4, none⟩ = some (.slice B4 (rdStmt xs i).es.length b4) := (blk_cell BKg6.out 4).trans rfl; replace cg6_5 : W3.cell? ⟨g6, 5, none⟩ = some (.slice B5 (rdStmt xs i).thens.length b5) := (blk_cell BKg6.out 5).trans rfl; replace cg6_6 : W3.cell? ⟨g6, 6, none⟩ = some (.slice B6 (rdStmt xs i).elses.length b6) := (blk_cell BKg6.out 6).trans rfl; replace HT := Aside0.mk (Kd.C_below HT.out hb_); replace HE := Aside0.mk (Kd.C_below HE.out hb_); replace HES := Aside0.mk (Kd.C_below HES.out hb_); clear hb_ ))
        go_ret
        refine ⟨?_, HB.out⟩
        rw [HNO.out (by rw [fewSt_eq, VE.out]; simp)]
        rfl
      | true =>
      have VE := Aside0.mk hve
      clear hve
      have hst : fewSt (rdStmt xs i) d = (rdStmt xs i).es.all (fewE · 0) := by rw [fewSt_eq, VT.out, VE.out, decide_eq_true c3, decide_eq_true c4, Bool.true_and, Bool.true_and, Bool.true_and, Bool.true_and]
      have HST := Aside0.mk hst
      have hme : (rdStmt xs i).es.length ≤ 9223372036854775807 := HES.out.2.1
      clear hst c1 c3 c4
      go_wp2_with (first | ((with_reducible refine gate_dst (N := 6) rfl ?_); refine var_event (W1 := ?w1_6) (N := 6) (cs := #[.int .i64 (rdStmt xs i).does, .int .i64 (rdStmt xs i).pos.line, .int .i64 (rdStmt xs i).pos.col, .string (rdStmt xs i).name, .slice B4 (rdStmt xs i).es.length b4, .slice B5 (rdStmt xs i).thens.length b5, .slice B6 (rdStmt xs i).elses.length b6]) (t := 38) ?hg ?hd ?hg2 ?hd2 ?hr ?hr2 ?_; (case hd => rfl); (case hg => rfl); (case hd2 => rfl); (case hg2 => rfl); (case hr => first | (go_simp; done) | (go_simp; rfl)); (case hr2 => first | (go_simp; done) | (go_simp; rfl)); intro g6 hgE_ W1 hbox_ hb_; have GEg6 := Aside0.mk (show w.heap.size ≤ g6 from Nat.le_trans HB.out.size (hgE_)); replace HB := Aside0.mk (below_step HB.out hb_); replace HT := Aside0.mk (Kd.C_below HT.out hb_); replace HE := Aside0.mk (Kd.C_below HE.out hb_); replace HES := Aside0.mk (Kd.C_below HES.out hb_); have BKg6 := Aside0.mk hbox_; have cg6_0 : W1.cell? ⟨g6, 0, none⟩ = some (.int .i64 (rdStmt xs i).does) := (blk_cell BKg6.out 0).trans rfl; have cg6_1 : W1.cell? ⟨g6, 1, none⟩ = some (.int .i64 (rdStmt xs i).pos.line) := (blk_cell BKg6.out 1).trans rfl; have cg6_2 : W1.cell? ⟨g6, 2, none⟩ = some (.int .i64 (rdStmt xs i).pos.col) := (blk_cell BKg6.out 2).trans rfl; have cg6_3 : W1.cell? ⟨g6, 3, none⟩ = some (.string (rdStmt xs i).name) := (blk_cell BKg6.out 3).trans rfl; have cg6_4 : W1.cell? ⟨g6, 4, none⟩ = some (.slice B4 (rdStmt xs i).es.length b4) := (blk_cell BKg6.out 4).trans rfl; have cg6_5 : W1.cell? ⟨g6, 5, none⟩ = some (.slice B5 (rdStmt xs i).thens.length b5) := (blk_cell BKg6.out 5).trans rfl; have cg6_6 : W1.cell? ⟨g6, 6, none⟩ = some (.slice B6 (rdStmt xs i).elses.length b6) := (blk_cell BKg6.out 6).trans rfl; clear hb_ hbox_ hgE_) | (go_at_call 14; (with_reducible refine ((ihT' _ hms _ _ _ HT.out)).mono ?_); rintro e W2 ⟨rfl, hb_⟩; rw [VT.out]; replace HB := Aside0.mk (below_step HB.out hb_); replace BKg6 := Aside0.mk (blk_below BKg6.out hb_); replace cg6_0 : W2.cell? ⟨g6, 0, none⟩ = some (.int .i64 (rdStmt xs i).does) := (blk_cell BKg6.out 0).trans rfl; replace cg6_1 : W2.cell? ⟨g6, 1, none⟩ = some (.int .i64 (rdStmt xs i).pos.line) := (blk_cell BKg6.out 1).trans rfl; replace cg6_2 : W2.cell? ⟨g6, 2, none⟩ = some (.int .i64 (rdStmt xs i).pos.col) := (blk_cell BKg6.out 2).trans rfl; replace cg6_3 : W2.cell? ⟨g6, 3, none⟩ = some (.string (rdStmt xs i).name) := (blk_cell BKg6.out 3).trans rfl; replace cg6_4 : W2.cell? ⟨g6, 4, none⟩ = some (.slice B4 (rdStmt xs i).es.length b4) := (blk_cell BKg6.out 4).trans rfl; replace cg6_5 : W2.cell? ⟨g6, 5, none⟩ = some (.slice B5 (rdStmt xs i).thens.length b5) := (blk_cell BKg6.out 5).trans rfl; replace cg6_6 : W2.cell? ⟨g6, 6, none⟩ = some (.slice B6 (rdStmt xs i).elses.length b6) := (blk_cell BKg6.out 6).trans rfl; replace HT := Aside0.mk (Kd.C_below HT.out hb_); replace HE := Aside0.mk (Kd.C_below HE.out hb_); replace HES := Aside0.mk (Kd.C_below HES.out hb_); clear hb_ ) | (go_at_call 14; (with_reducible refine ((ihE' _ hms _ _ _ HE.out)).mono ?_); rintro e W3 ⟨rfl, hb_⟩; rw [VE.out]; replace HB := Aside0.mk (below_step HB.out hb_); replace BKg6 := Aside0.mk (blk_below BKg6.out hb_); replace cg6_0 : W3.cell? ⟨g6, 0, none⟩ = some (.int .i64 (rdStmt xs i).does) := (blk_cell BKg6.out 0).trans rfl; replace cg6_1 : W3.cell? ⟨g6, 1, none⟩ = some (.int .i64 (rdStmt xs i).pos.line) := (blk_cell BKg6.out 1).trans rfl; replace cg6_2 : W3.cell? ⟨g6, 2, none⟩ = some (.int .i64 (rdStmt xs i).pos.col) := (blk_cell BKg6.out 2).trans rfl; replace cg6_3 : W3.cell? ⟨g6, 3, none⟩ = some (.string (rdStmt xs i).name) := (blk_cell BKg6.out 3).trans rfl; replace cg6_4 : W3.cell? ⟨g6, 4, none⟩ = some (.slice B4 (rdStmt xs i).es.length b4) := (blk_cell BKg6.out 4).trans rfl; replace cg6_5 : W3.cell? ⟨g6, 5, none⟩ = some (.slice B5 (rdStmt xs i).thens.length b5) := (blk_cell BKg6.out 5).trans rfl; replace cg6_6 : W3.cell? ⟨g6, 6, none⟩ = some (.slice B6 (rdStmt xs i).elses.length b6) := (blk_cell BKg6.out 6).trans rfl; replace HT := Aside0.mk (Kd.C_below HT.out hb_); replace HE := Aside0.mk (Kd.C_below HE.out hb_); replace HES := Aside0.mk (Kd.C_below HES.out hb_); clear hb_ ))
      clear cg6_0 cg6_1 cg6_2 cg6_3 cg6_4 cg6_5 cg6_6 BKg6 HT HE
      go_loopg [51] (rdStmt xs i).es.length (fun kq v51 w' => ∃ j : Int, v51 = .int .i64 j ∧ 0 ≤ j ∧ kq + j.toNat = (rdStmt xs i).es.length ∧ Aside0 (∀ q, q < j.toNat → fewE ((rdStmt xs i).es.getD q zExpr) 0 = true) ∧ Aside0 (Below W3.heap.size W3 w'))
      case atStart => exact ⟨0, rfl, by omega, by simp, ⟨fun j hj => absurd hj (by simp)⟩, ⟨Below.refl _ _⟩⟩
      case round =>
        obtain ⟨j, rfl, hj0, hkj, HSJ, HBJ⟩ := hrel
        cases gk with
        | zero =>
          have hgj : decide (j < ((rdStmt xs i).es.length : Int)) = false := by simp; omega
          go_wp2_with fail
          go_roundg k1_
          case measure => omega
          case rel =>
            refine ⟨i + 1, rfl, by omega, by omega, ⟨fun q hq => ?_⟩, ⟨below_step HB.out HBJ.out⟩⟩
            by_cases hqi : q < i.toNat
            · exact HS.out q hqi
            · obtain rfl : q = i.toNat := by omega
              exact HST.out.trans (all_true _ zExpr (rdStmt xs i).es (fun q hq => HSJ.out q (by omega)))
        | succ k2_ =>
          have hj1 : j < ((rdStmt xs i).es.length : Int) := by omega
          have hx2 := Kd.C_below HES.out HBJ.out
          obtain ⟨bd, D6, d6, fa, f0, f1, f2, f3, f4, f5, f6, fm0, fl6, fg6⟩ := atExpr hx2 j hj0 hj1
          obtain rfl := fa
          have K0 := Aside0.mk (show kExpr.K wr (rdExpr (rdStmt xs i).es j) [.int .i64 (rdExpr (rdStmt xs i).es j).kind, .int .i64 (rdExpr (rdStmt xs i).es j).pos.line, .int .i64 (rdExpr (rdStmt xs i).es j).pos.col, .int .i64 (rdExpr (rdStmt xs i).es j).num, .string (rdExpr (rdStmt xs i).es j).name, .int .i64 (rdExpr (rdStmt xs i).es j).op, .slice D6 (rdExpr (rdStmt xs i).es j).kids.length d6] from kExpr_mk wr _ fm0 fl6 fg6)
          clear fm0 fl6 fg6 hx2
          have HB2 := Aside0.mk (fun o => (Below.refl _ _).alloc (Nat.le_refl _) o : ∀ o, Below wr.heap.size wr (wr.alloc o))
          cases hv : fewE (rdExpr (rdStmt xs i).es j) 0 with
          | true =>
            have Hv := Aside0.mk hv
            clear hv
            go_wp2_with (first | (go_at_call 9; (with_reducible refine (few_any (rdExpr (rdStmt xs i).es j) 0 _ _ (kExpr.K_below (HB2.out _) K0.out) (by omega) (by omega)).mono ?_); rintro e w1 ⟨rfl, hb1_⟩; rw [Hv.out]; have HB1 := Aside0.mk (below_step (below_step HBJ.out (HB2.out _)) hb1_); clear hb1_))
            go_roundg k2_
            case measure => omega
            case rel =>
              refine ⟨j + 1, rfl, by omega, by omega, ⟨fun q hq => ?_⟩, HB1⟩
              by_cases hqj : q < j.toNat
              · exact HSJ.out q hqj
              · obtain rfl : q = j.toNat := by omega
                exact Hv.out
          | false =>
            have Hv := Aside0.mk hv
            clear hv
            go_wp2_with (first | (go_at_call 9; (with_reducible refine (few_any (rdExpr (rdStmt xs i).es j) 0 _ _ (kExpr.K_below (HB2.out _) K0.out) (by omega) (by omega)).mono ?_); rintro e w1 ⟨rfl, hb1_⟩; rw [Hv.out]; have HB1 := Aside0.mk (below_step (below_step HBJ.out (HB2.out _)) hb1_); clear hb1_))
            go_ret
            refine ⟨?_, below_step HB.out HB1.out⟩
            rw [HNO.out (by exact HST.out.trans (all_false (fewE · 0) zExpr (rdStmt xs i).es j.toNat (by omega) Hv.out))]
            rfl

theorem stmt_size {s : Stmt} {t : Stmt} (h : t ∈ s.thens) : SizeOf.sizeOf t < SizeOf.sizeOf s := by
  cases s
  have := List.sizeOf_lt_of_mem h
  simp at this ⊢
  omega
theorem stmts_size (xs : List Stmt) : ∀ s, s ∈ xs → SizeOf.sizeOf s.thens < SizeOf.sizeOf xs ∧ SizeOf.sizeOf s.elses < SizeOf.sizeOf xs := by
  intro s hs
  have := List.sizeOf_lt_of_mem hs
  cases s
  simp at this ⊢
  omega
/-- WHAT FewStmts COMPUTES. -/
theorem fews_calls (m : Nat) : ∀ (xs : List Stmt), SizeOf.sizeOf xs ≤ m → ∀ (d : Int) (A : Option Addr) (n c : Nat) (w : World), kStmt.C w A n xs → 0 ≤ d → d ≤ 1000 → Calls Tryd.prog 14 #[.slice A n c, .int .i64 d] w fun e w' => e = .returned (.bool (fewSs xs d)) ∧ Below w.heap.size w w' := by
  induction m with
  | zero =>
    intro xs hx
    cases xs <;> simp at hx
  | succ m ih =>
    intro xs hx d A n c w h h0 h1
    refine fews_step xs d A n c w h h0 h1 (fun s hs A c w h6 hC => ?_) (fun s hs A c w h6 hC => ?_)
    · exact ih s.thens (by have := stmts_size xs s hs; omega) (d + 1) A _ c w hC (by omega) (by omega)
    · exact ih s.elses (by have := stmts_size xs s hs; omega) (d + 1) A _ c w hC (by omega) (by omega)
theorem fews_any (xs : List Stmt) (d : Int) (A : Option Addr) (n c : Nat) (w : World) (h : kStmt.C w A n xs) (h0 : 0 ≤ d) (h1 : d ≤ 1000) : Calls Tryd.prog 14 #[.slice A n c, .int .i64 d] w fun e w' => e = .returned (.bool (fewSs xs d)) ∧ Below w.heap.size w w' := fews_calls _ xs (Nat.le_refl _) d A n c w h h0 h1
end Go.Proofs.YtpbeplepcbhamaaDoor
