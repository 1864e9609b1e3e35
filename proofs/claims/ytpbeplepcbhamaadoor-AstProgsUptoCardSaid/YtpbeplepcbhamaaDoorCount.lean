/- count: what it computes. -/
import Derived.Test.YtpbeplepcbhamaaDoorFew
import Derived.Test.YtpbeplepcbhamaaDoorMem
namespace Go.Proofs.YtpbeplepcbhamaaDoor
open Go.RowKit Go.Proofs.YtpbeplepcbhamaaDoorW.PrintWords Go.Proofs.YtpbeplepcbhamaaDoorW.PrintLast Go.Proofs.YtpbeplepcbhamaaDoorW.PrintMore
set_option linter.unusedVariables false
set_option linter.unusedSimpArgs false

mutual
/-- How many lines a statement has. -/
def cnt : Stmt → Nat
  | ⟨does, _, _, _, thens, elses⟩ => (if does = 4 ∨ does = 5 then 2 + cnts thens else 1) + (if does = 4 ∧ elses ≠ [] then 1 + cnts elses else 0)
def cnts : List Stmt → Nat
  | [] => 0
  | s :: r => cnt s + cnts r
end
theorem kid_stmt {s p : Stmt} (h : p ∈ s.thens ∨ p ∈ s.elses) : SizeOf.sizeOf p < SizeOf.sizeOf s := by
  cases s
  rcases h with h | h
  · have := List.sizeOf_lt_of_mem h
    simp at this ⊢
    omega
  · have := List.sizeOf_lt_of_mem h
    simp at this ⊢
    omega
theorem cnt_eq (s : Stmt) : cnt s = (if s.does = 4 ∨ s.does = 5 then 2 + cnts s.thens else 1) + (if s.does = 4 ∧ s.elses ≠ [] then 1 + cnts s.elses else 0) := by
  cases s
  rw [cnt]
theorem cnts_sum : ∀ xs, cnts xs = (xs.map cnt).sum
  | [] => by simp [cnts]
  | s :: r => by rw [cnts, cnts_sum r, List.map_cons, List.sum_cons]
theorem cnts_take (xs : List Stmt) (i : Int) (h0 : 0 ≤ i) (h1 : i < xs.length) : cnts (xs.take (i + 1).toNat) = cnts (xs.take i.toNat) + cnt (rdStmt xs i) := by
  have hlt : i.toNat < xs.length := by omega
  rw [show (i + 1).toNat = i.toNat + 1 by omega, List.take_succ_eq_append_getElem hlt, cnts_sum, cnts_sum, List.map_append, List.sum_append]
  congr 1
  simp [rdStmt, List.getD_eq_getElem?_getD, hlt]
theorem cnts_le (xs : List Stmt) (k : Nat) : cnts (xs.take k) ≤ cnts xs := by
  have h : xs = xs.take k ++ xs.drop k := (List.take_append_drop k xs).symm
  rw [cnts_sum, cnts_sum]
  conv => rhs; rw [h, List.map_append, List.sum_append]
  omega
theorem cnt_le (xs : List Stmt) (s : Stmt) (h : s ∈ xs) : cnt s ≤ cnts xs := by
  rw [cnts_sum]
  induction xs with
  | nil => simp at h
  | cons a r ih =>
    rw [List.map_cons, List.sum_cons]
    rcases List.mem_cons.1 h with rfl | h
    · omega
    · have := ih h
      omega

set_option maxRecDepth 100000 in
set_option maxHeartbeats 1600000 in
theorem cnt_one (s : Stmt) (cs : List Value) (w : World) (hs : kStmt.K w s cs) (hb : cnt s ≤ 1000000000000) (ih : ∀ p, (p ∈ s.thens ∨ p ∈ s.elses) → cnt p ≤ 1000000000000 → ∀ cs w, kStmt.K w p cs → Calls Tryd.prog 17 #[.agg cs.toArray] w fun e w' => e = .returned (.int .i64 (cnt p)) ∧ Below w.heap.size w w') (h4 : s.does ≠ 4) (h5 : s.does ≠ 5) :
    Calls Tryd.prog 17 #[.agg cs.toArray] w fun e w' => e = .returned (.int .i64 (cnt s)) ∧ Below w.heap.size w w' := by
  obtain ⟨A4, a4, A5, a5, A6, a6, rfl, el4, eg4, el5, eg5, el6, eg6⟩ := kStmt_open hs
  have HC5 := Aside0.mk eg5
  have HC6 := Aside0.mk eg6
  have hm5 := eg5.2.1
  have hm6 := eg6.2.1
  clear el4 eg4 el5 eg5 el6 eg6 hs
  have k4 : (s.does == 4) = false := beq_eq_false_iff_ne.2 h4
  have k5 : (s.does == 5) = false := beq_eq_false_iff_ne.2 h5
  have hv : cnt s = 1 := by rw [cnt_eq, if_neg (by omega), if_neg (by omega)]
  have HV := Aside0.mk hv
  clear hv h4 h5 hb
  go_enter Tryd.func17, Tryd.ntmps17
  go_wp2_with (first | ((with_reducible refine gate_dst (N := 1) rfl ?_); refine box_event ?hg (N := 1) ?hd (cs := #[.int .i64 s.does, .int .i64 s.pos.line, .int .i64 s.pos.col, .string s.name, .slice A4 s.es.length a4, .slice A5 s.thens.length a5, .slice A6 s.elses.length a6]) (t := 38) ?hr ?_; (case hd => rfl); (case hg => rfl); (case hr => first | (go_simp; done) | (go_simp; rfl)); intro g1 hgE_ W1 hbox_ hb_; have GEg1 := Aside0.mk (show w.heap.size ≤ g1 from Nat.le_of_eq hgE_.symm); have HB := Aside0.mk hb_; have BKg1 := Aside0.mk hbox_; have cg1_0 : W1.cell? ⟨g1, 0, none⟩ = some (.int .i64 s.does) := (blk_cell BKg1.out 0).trans rfl; have cg1_5 : W1.cell? ⟨g1, 5, none⟩ = some (.slice A5 s.thens.length a5) := (blk_cell BKg1.out 5).trans rfl; have cg1_6 : W1.cell? ⟨g1, 6, none⟩ = some (.slice A6 s.elses.length a6) := (blk_cell BKg1.out 6).trans rfl; clear hb_ hbox_ hgE_))
  go_ret
  refine ⟨?_, HB.out⟩
  rw [HV.out]
  rfl

set_option maxRecDepth 100000 in
set_option maxHeartbeats 1600000 in
theorem cnt_while (s : Stmt) (cs : List Value) (w : World) (hs : kStmt.K w s cs) (hb : cnt s ≤ 1000000000000) (ih : ∀ p, (p ∈ s.thens ∨ p ∈ s.elses) → cnt p ≤ 1000000000000 → ∀ cs w, kStmt.K w p cs → Calls Tryd.prog 17 #[.agg cs.toArray] w fun e w' => e = .returned (.int .i64 (cnt p)) ∧ Below w.heap.size w w') (h5 : s.does = 5) :
    Calls Tryd.prog 17 #[.agg cs.toArray] w fun e w' => e = .returned (.int .i64 (cnt s)) ∧ Below w.heap.size w w' := by
  obtain ⟨A4, a4, A5, a5, A6, a6, rfl, el4, eg4, el5, eg5, el6, eg6⟩ := kStmt_open hs
  have HC5 := Aside0.mk eg5
  have HC6 := Aside0.mk eg6
  have hm5 := eg5.2.1
  have hm6 := eg6.2.1
  clear el4 eg4 el5 eg5 el6 eg6 hs
  have k4 : (s.does == 4) = false := by rw [h5]; rfl
  have k5 : (s.does == 5) = true := by rw [h5]; rfl
  have hv : cnt s = 2 + cnts s.thens := by rw [cnt_eq, if_pos (Or.inr h5), if_neg (by omega)]; rfl
  have HV := Aside0.mk hv
  rw [hv] at hb
  clear hv h5
  have HM1 : ∀ p, p ∈ s.thens → (p ∈ s.thens ∨ p ∈ s.elses) := fun p hp => Or.inl hp
  go_enter Tryd.func17, Tryd.ntmps17
  go_wp2_with (first | ((with_reducible refine gate_dst (N := 1) rfl ?_); refine box_event ?hg (N := 1) ?hd (cs := #[.int .i64 s.does, .int .i64 s.pos.line, .int .i64 s.pos.col, .string s.name, .slice A4 s.es.length a4, .slice A5 s.thens.length a5, .slice A6 s.elses.length a6]) (t := 38) ?hr ?_; (case hd => rfl); (case hg => rfl); (case hr => first | (go_simp; done) | (go_simp; rfl)); intro g1 hgE_ W1 hbox_ hb_; have GEg1 := Aside0.mk (show w.heap.size ≤ g1 from Nat.le_of_eq hgE_.symm); have HB := Aside0.mk hb_; have BKg1 := Aside0.mk hbox_; have cg1_0 : W1.cell? ⟨g1, 0, none⟩ = some (.int .i64 s.does) := (blk_cell BKg1.out 0).trans rfl; have cg1_5 : W1.cell? ⟨g1, 5, none⟩ = some (.slice A5 s.thens.length a5) := (blk_cell BKg1.out 5).trans rfl; have cg1_6 : W1.cell? ⟨g1, 6, none⟩ = some (.slice A6 s.elses.length a6) := (blk_cell BKg1.out 6).trans rfl; clear hb_ hbox_ hgE_))
  replace HC5 := Aside0.mk (Kd.C_below HC5.out HB.out)
  have HL1 := HB
  go_loopg [3, 19] s.thens.length (fun kq v3 vi w' => ∃ i : Int, vi = .int .i64 i ∧ v3 = .int .i64 (2 + (cnts (s.thens.take i.toNat) : Int)) ∧ 0 ≤ i ∧ kq + i.toNat = s.thens.length ∧ Aside0 (Below w.heap.size w w') ∧ Aside0 (Below W1.heap.size W1 w'))
  case atStart => exact ⟨0, rfl, by simp [cnts], by omega, by simp, HB, ⟨Below.refl _ _⟩⟩
  case round =>
    clear HB HL1
    obtain ⟨i, rfl, rfl, hi0, hk, HB, HBL⟩ := hrel
    cases gk with
    | succ k1_ =>
      have hi1 : i < (s.thens.length : Int) := by omega
      have hx1 := Kd.C_below HC5.out HBL.out
      obtain ⟨ad, B4, b4, B5, b5, B6, b6, ea, e0, e1, e2, e3, e4, e5, e6, el4, eg4, el5, eg5, el6, eg6⟩ := atStmt hx1 i hi0 hi1
      obtain rfl := ea
      have hms : rdStmt s.thens i ∈ s.thens := rdStmt_mem _ _ hi0 hi1
      have KS := Aside0.mk (show kStmt.K wr (rdStmt s.thens i) [.int .i64 (rdStmt s.thens i).does, .int .i64 (rdStmt s.thens i).pos.line, .int .i64 (rdStmt s.thens i).pos.col, .string (rdStmt s.thens i).name, .slice B4 (rdStmt s.thens i).es.length b4, .slice B5 (rdStmt s.thens i).thens.length b5, .slice B6 (rdStmt s.thens i).elses.length b6] from kStmt_mk wr _ el4 eg4 el5 eg5 el6 eg6)
      have htk := cnts_take s.thens i hi0 hi1
      have hle := cnts_le s.thens (i + 1).toNat
      have HTK := Aside0.mk htk
      have HCB := Aside0.mk (show cnt (rdStmt s.thens i) ≤ 1000000000000 from by have := cnt_le _ _ hms; omega)
      have hsum : ((2 + (cnts (s.thens.take i.toNat) : Int)) + (cnt (rdStmt s.thens i) : Int)) ≤ 9223372036854775807 := by omega
      clear el4 eg4 el5 eg5 el6 eg6 hx1 hle
      go_wp2_with (first | ((with_reducible refine gate_dst (N := 5) rfl ?_); refine var_event (W1 := ?w1_5) (N := 5) (cs := #[.int .i64 (rdStmt s.thens i).does, .int .i64 (rdStmt s.thens i).pos.line, .int .i64 (rdStmt s.thens i).pos.col, .string (rdStmt s.thens i).name, .slice B4 (rdStmt s.thens i).es.length b4, .slice B5 (rdStmt s.thens i).thens.length b5, .slice B6 (rdStmt s.thens i).elses.length b6]) (t := 38) ?hg ?hd ?hg2 ?hd2 ?hr ?hr2 ?_; (case hd => rfl); (case hg => rfl); (case hd2 => rfl); (case hg2 => rfl); (case hr => first | (go_simp; done) | (go_simp; rfl)); (case hr2 => first | (go_simp; done) | (go_simp; rfl)); intro q1 hgE_ L1W1 hbox_ hb_; have GEq1 := Aside0.mk (show w.heap.size ≤ q1 from Nat.le_trans HB.out.size (hgE_)); replace HB := Aside0.mk (below_step HB.out hb_); replace HBL := Aside0.mk (below_step HBL.out hb_); replace KS := Aside0.mk (kStmt.K_below hb_ KS.out); have BKq1 := Aside0.mk hbox_; have cq1_0 : L1W1.cell? ⟨q1, 0, none⟩ = some (.int .i64 (rdStmt s.thens i).does) := (blk_cell BKq1.out 0).trans rfl; have cq1_1 : L1W1.cell? ⟨q1, 1, none⟩ = some (.int .i64 (rdStmt s.thens i).pos.line) := (blk_cell BKq1.out 1).trans rfl; have cq1_2 : L1W1.cell? ⟨q1, 2, none⟩ = some (.int .i64 (rdStmt s.thens i).pos.col) := (blk_cell BKq1.out 2).trans rfl; have cq1_3 : L1W1.cell? ⟨q1, 3, none⟩ = some (.string (rdStmt s.thens i).name) := (blk_cell BKq1.out 3).trans rfl; have cq1_4 : L1W1.cell? ⟨q1, 4, none⟩ = some (.slice B4 (rdStmt s.thens i).es.length b4) := (blk_cell BKq1.out 4).trans rfl; have cq1_5 : L1W1.cell? ⟨q1, 5, none⟩ = some (.slice B5 (rdStmt s.thens i).thens.length b5) := (blk_cell BKq1.out 5).trans rfl; have cq1_6 : L1W1.cell? ⟨q1, 6, none⟩ = some (.slice B6 (rdStmt s.thens i).elses.length b6) := (blk_cell BKq1.out 6).trans rfl; clear hb_ hbox_ hgE_) | (go_at_call 17; (with_reducible refine (ih _ (HM1 _ hms) HCB.out _ _ KS.out).mono ?_); rintro e L1W2 ⟨rfl, hb_⟩; replace HB := Aside0.mk (below_step HB.out hb_); replace BKq1 := Aside0.mk (blk_below BKq1.out hb_); replace cq1_0 : L1W2.cell? ⟨q1, 0, none⟩ = some (.int .i64 (rdStmt s.thens i).does) := (blk_cell BKq1.out 0).trans rfl; replace cq1_1 : L1W2.cell? ⟨q1, 1, none⟩ = some (.int .i64 (rdStmt s.thens i).pos.line) := (blk_cell BKq1.out 1).trans rfl; replace cq1_2 : L1W2.cell? ⟨q1, 2, none⟩ = some (.int .i64 (rdStmt s.thens i).pos.col) := (blk_cell BKq1.out 2).trans rfl; replace cq1_3 : L1W2.cell? ⟨q1, 3, none⟩ = some (.string (rdStmt s.thens i).name) := (blk_cell BKq1.out 3).trans rfl; replace cq1_4 : L1W2.cell? ⟨q1, 4, none⟩ = some (.slice B4 (rdStmt s.thens i).es.length b4) := (blk_cell BKq1.out 4).trans rfl; replace cq1_5 : L1W2.cell? ⟨q1, 5, none⟩ = some (.slice B5 (rdStmt s.thens i).thens.length b5) := (blk_cell BKq1.out 5).trans rfl; replace cq1_6 : L1W2.cell? ⟨q1, 6, none⟩ = some (.slice B6 (rdStmt s.thens i).elses.length b6) := (blk_cell BKq1.out 6).trans rfl; replace HBL := Aside0.mk (below_step HBL.out hb_); replace KS := Aside0.mk (kStmt.K_below hb_ KS.out); clear hb_ ))
      go_roundg k1_
      case measure => omega
      case rel =>
        refine ⟨i + 1, rfl, ?_, by omega, by omega, HB, HBL⟩
        rw [HTK.out, Int.natCast_add, ← Int.add_assoc]
    | zero =>
      have hge : decide (i < (s.thens.length : Int)) = false := by simp; omega
      have hall : s.thens.take i.toNat = s.thens := List.take_of_length_le (by omega)
      rw [hall]
      clear hall hk
      replace BKg1 := Aside0.mk (blk_below BKg1.out HBL.out)
      replace cg1_0 : wr.cell? ⟨g1, 0, none⟩ = some (.int .i64 s.does) := (blk_cell BKg1.out 0).trans rfl
      replace cg1_5 : wr.cell? ⟨g1, 5, none⟩ = some (.slice A5 s.thens.length a5) := (blk_cell BKg1.out 5).trans rfl
      replace cg1_6 : wr.cell? ⟨g1, 6, none⟩ = some (.slice A6 s.elses.length a6) := (blk_cell BKg1.out 6).trans rfl
      go_wp2_with fail
      go_ret
      refine ⟨?_, HB.out⟩
      rw [HV.out, Int.natCast_add]
      rfl

set_option maxRecDepth 100000 in
set_option maxHeartbeats 1600000 in
theorem cnt_if (s : Stmt) (cs : List Value) (w : World) (hs : kStmt.K w s cs) (hb : cnt s ≤ 1000000000000) (ih : ∀ p, (p ∈ s.thens ∨ p ∈ s.elses) → cnt p ≤ 1000000000000 → ∀ cs w, kStmt.K w p cs → Calls Tryd.prog 17 #[.agg cs.toArray] w fun e w' => e = .returned (.int .i64 (cnt p)) ∧ Below w.heap.size w w') (h4 : s.does = 4) (he : s.elses = []) :
    Calls Tryd.prog 17 #[.agg cs.toArray] w fun e w' => e = .returned (.int .i64 (cnt s)) ∧ Below w.heap.size w w' := by
  obtain ⟨A4, a4, A5, a5, A6, a6, rfl, el4, eg4, el5, eg5, el6, eg6⟩ := kStmt_open hs
  have HC5 := Aside0.mk eg5
  have HC6 := Aside0.mk eg6
  have hm5 := eg5.2.1
  have hm6 := eg6.2.1
  clear el4 eg4 el5 eg5 el6 eg6 hs
  have k4 : (s.does == 4) = true := by rw [h4]; rfl
  have kel : ¬ 0 < s.elses.length := by rw [he]; decide
  have hv : cnt s = 2 + cnts s.thens := by rw [cnt_eq, if_pos (Or.inl h4), if_neg (fun h => h.2 he), Nat.add_zero]
  have HV := Aside0.mk hv
  rw [hv] at hb
  clear hv h4 he
  have HM1 : ∀ p, p ∈ s.thens → (p ∈ s.thens ∨ p ∈ s.elses) := fun p hp => Or.inl hp
  go_enter Tryd.func17, Tryd.ntmps17
  go_wp2_with (first | ((with_reducible refine gate_dst (N := 1) rfl ?_); refine box_event ?hg (N := 1) ?hd (cs := #[.int .i64 s.does, .int .i64 s.pos.line, .int .i64 s.pos.col, .string s.name, .slice A4 s.es.length a4, .slice A5 s.thens.length a5, .slice A6 s.elses.length a6]) (t := 38) ?hr ?_; (case hd => rfl); (case hg => rfl); (case hr => first | (go_simp; done) | (go_simp; rfl)); intro g1 hgE_ W1 hbox_ hb_; have GEg1 := Aside0.mk (show w.heap.size ≤ g1 from Nat.le_of_eq hgE_.symm); have HB := Aside0.mk hb_; have BKg1 := Aside0.mk hbox_; have cg1_0 : W1.cell? ⟨g1, 0, none⟩ = some (.int .i64 s.does) := (blk_cell BKg1.out 0).trans rfl; have cg1_5 : W1.cell? ⟨g1, 5, none⟩ = some (.slice A5 s.thens.length a5) := (blk_cell BKg1.out 5).trans rfl; have cg1_6 : W1.cell? ⟨g1, 6, none⟩ = some (.slice A6 s.elses.length a6) := (blk_cell BKg1.out 6).trans rfl; clear hb_ hbox_ hgE_))
  replace HC5 := Aside0.mk (Kd.C_below HC5.out HB.out)
  have HC6w := HC6
  have HL1 := HB
  go_loopg [3, 19] s.thens.length (fun kq v3 vi w' => ∃ i : Int, vi = .int .i64 i ∧ v3 = .int .i64 (2 + (cnts (s.thens.take i.toNat) : Int)) ∧ 0 ≤ i ∧ kq + i.toNat = s.thens.length ∧ Aside0 (Below w.heap.size w w') ∧ Aside0 (Below W1.heap.size W1 w'))
  case atStart => exact ⟨0, rfl, by simp [cnts], by omega, by simp, HB, ⟨Below.refl _ _⟩⟩
  case round =>
    clear HB HL1
    obtain ⟨i, rfl, rfl, hi0, hk, HB, HBL⟩ := hrel
    cases gk with
    | succ k1_ =>
      have hi1 : i < (s.thens.length : Int) := by omega
      have hx1 := Kd.C_below HC5.out HBL.out
      obtain ⟨ad, B4, b4, B5, b5, B6, b6, ea, e0, e1, e2, e3, e4, e5, e6, el4, eg4, el5, eg5, el6, eg6⟩ := atStmt hx1 i hi0 hi1
      obtain rfl := ea
      have hms : rdStmt s.thens i ∈ s.thens := rdStmt_mem _ _ hi0 hi1
      have KS := Aside0.mk (show kStmt.K wr (rdStmt s.thens i) [.int .i64 (rdStmt s.thens i).does, .int .i64 (rdStmt s.thens i).pos.line, .int .i64 (rdStmt s.thens i).pos.col, .string (rdStmt s.thens i).name, .slice B4 (rdStmt s.thens i).es.length b4, .slice B5 (rdStmt s.thens i).thens.length b5, .slice B6 (rdStmt s.thens i).elses.length b6] from kStmt_mk wr _ el4 eg4 el5 eg5 el6 eg6)
      have htk := cnts_take s.thens i hi0 hi1
      have hle := cnts_le s.thens (i + 1).toNat
      have HTK := Aside0.mk htk
      have HCB := Aside0.mk (show cnt (rdStmt s.thens i) ≤ 1000000000000 from by have := cnt_le _ _ hms; omega)
      have hsum : ((2 + (cnts (s.thens.take i.toNat) : Int)) + (cnt (rdStmt s.thens i) : Int)) ≤ 9223372036854775807 := by omega
      clear el4 eg4 el5 eg5 el6 eg6 hx1 hle
      go_wp2_with (first | ((with_reducible refine gate_dst (N := 5) rfl ?_); refine var_event (W1 := ?w1_5) (N := 5) (cs := #[.int .i64 (rdStmt s.thens i).does, .int .i64 (rdStmt s.thens i).pos.line, .int .i64 (rdStmt s.thens i).pos.col, .string (rdStmt s.thens i).name, .slice B4 (rdStmt s.thens i).es.length b4, .slice B5 (rdStmt s.thens i).thens.length b5, .slice B6 (rdStmt s.thens i).elses.length b6]) (t := 38) ?hg ?hd ?hg2 ?hd2 ?hr ?hr2 ?_; (case hd => rfl); (case hg => rfl); (case hd2 => rfl); (case hg2 => rfl); (case hr => first | (go_simp; done) | (go_simp; rfl)); (case hr2 => first | (go_simp; done) | (go_simp; rfl)); intro q1 hgE_ L1W1 hbox_ hb_; have GEq1 := Aside0.mk (show w.heap.size ≤ q1 from Nat.le_trans HB.out.size (hgE_)); replace HB := Aside0.mk (below_step HB.out hb_); replace HBL := Aside0.mk (below_step HBL.out hb_); replace KS := Aside0.mk (kStmt.K_below hb_ KS.out); have BKq1 := Aside0.mk hbox_; have cq1_0 : L1W1.cell? ⟨q1, 0, none⟩ = some (.int .i64 (rdStmt s.thens i).does) := (blk_cell BKq1.out 0).trans rfl; have cq1_1 : L1W1.cell? ⟨q1, 1, none⟩ = some (.int .i64 (rdStmt s.thens i).pos.line) := (blk_cell BKq1.out 1).trans rfl; have cq1_2 : L1W1.cell? ⟨q1, 2, none⟩ = some (.int .i64 (rdStmt s.thens i).pos.col) := (blk_cell BKq1.out 2).trans rfl; have cq1_3 : L1W1.cell? ⟨q1, 3, none⟩ = some (.string (rdStmt s.thens i).name) := (blk_cell BKq1.out 3).trans rfl; have cq1_4 : L1W1.cell? ⟨q1, 4, none⟩ = some (.slice B4 (rdStmt s.thens i).es.length b4) := (blk_cell BKq1.out 4).trans rfl; have cq1_5 : L1W1.cell? ⟨q1, 5, none⟩ = some (.slice B5 (rdStmt s.thens i).thens.length b5) := (blk_cell BKq1.out 5).trans rfl; have cq1_6 : L1W1.cell? ⟨q1, 6, none⟩ = some (.slice B6 (rdStmt s.thens i).elses.length b6) := (blk_cell BKq1.out 6).trans rfl; clear hb_ hbox_ hgE_) | (go_at_call 17; (with_reducible refine (ih _ (HM1 _ hms) HCB.out _ _ KS.out).mono ?_); rintro e L1W2 ⟨rfl, hb_⟩; replace HB := Aside0.mk (below_step HB.out hb_); replace BKq1 := Aside0.mk (blk_below BKq1.out hb_); replace cq1_0 : L1W2.cell? ⟨q1, 0, none⟩ = some (.int .i64 (rdStmt s.thens i).does) := (blk_cell BKq1.out 0).trans rfl; replace cq1_1 : L1W2.cell? ⟨q1, 1, none⟩ = some (.int .i64 (rdStmt s.thens i).pos.line) := (blk_cell BKq1.out 1).trans rfl; replace cq1_2 : L1W2.cell? ⟨q1, 2, none⟩ = some (.int .i64 (rdStmt s.thens i).pos.col) := (blk_cell BKq1.out 2).trans rfl; replace cq1_3 : L1W2.cell? ⟨q1, 3, none⟩ = some (.string (rdStmt s.thens i).name) := (blk_cell BKq1.out 3).trans rfl; replace cq1_4 : L1W2.cell? ⟨q1, 4, none⟩ = some (.slice B4 (rdStmt s.thens i).es.length b4) := (blk_cell BKq1.out 4).trans rfl; replace cq1_5 : L1W2.cell? ⟨q1, 5, none⟩ = some (.slice B5 (rdStmt s.thens i).thens.length b5) := (blk_cell BKq1.out 5).trans rfl; replace cq1_6 : L1W2.cell? ⟨q1, 6, none⟩ = some (.slice B6 (rdStmt s.thens i).elses.length b6) := (blk_cell BKq1.out 6).trans rfl; replace HBL := Aside0.mk (below_step HBL.out hb_); replace KS := Aside0.mk (kStmt.K_below hb_ KS.out); clear hb_ ))
      go_roundg k1_
      case measure => omega
      case rel =>
        refine ⟨i + 1, rfl, ?_, by omega, by omega, HB, HBL⟩
        rw [HTK.out, Int.natCast_add, ← Int.add_assoc]
    | zero =>
      have hge : decide (i < (s.thens.length : Int)) = false := by simp; omega
      have hall : s.thens.take i.toNat = s.thens := List.take_of_length_le (by omega)
      rw [hall]
      clear hall hk
      replace BKg1 := Aside0.mk (blk_below BKg1.out HBL.out)
      replace cg1_0 : wr.cell? ⟨g1, 0, none⟩ = some (.int .i64 s.does) := (blk_cell BKg1.out 0).trans rfl
      replace cg1_5 : wr.cell? ⟨g1, 5, none⟩ = some (.slice A5 s.thens.length a5) := (blk_cell BKg1.out 5).trans rfl
      replace cg1_6 : wr.cell? ⟨g1, 6, none⟩ = some (.slice A6 s.elses.length a6) := (blk_cell BKg1.out 6).trans rfl
      go_wp2_with fail
      go_ret
      refine ⟨?_, HB.out⟩
      rw [HV.out, Int.natCast_add]
      rfl

set_option maxRecDepth 100000 in
set_option maxHeartbeats 1600000 in
theorem cnt_else (s : Stmt) (cs : List Value) (w : World) (hs : kStmt.K w s cs) (hb : cnt s ≤ 1000000000000) (ih : ∀ p, (p ∈ s.thens ∨ p ∈ s.elses) → cnt p ≤ 1000000000000 → ∀ cs w, kStmt.K w p cs → Calls Tryd.prog 17 #[.agg cs.toArray] w fun e w' => e = .returned (.int .i64 (cnt p)) ∧ Below w.heap.size w w') (h4 : s.does = 4) (he : s.elses ≠ []) :
    Calls Tryd.prog 17 #[.agg cs.toArray] w fun e w' => e = .returned (.int .i64 (cnt s)) ∧ Below w.heap.size w w' := by
  obtain ⟨A4, a4, A5, a5, A6, a6, rfl, el4, eg4, el5, eg5, el6, eg6⟩ := kStmt_open hs
  have HC5 := Aside0.mk eg5
  have HC6 := Aside0.mk eg6
  have hm5 := eg5.2.1
  have hm6 := eg6.2.1
  clear el4 eg4 el5 eg5 el6 eg6 hs
  have k4 : (s.does == 4) = true := by rw [h4]; rfl
  have kel : 0 < s.elses.length := List.length_pos_iff.2 he
  have hv : cnt s = (2 + cnts s.thens) + (1 + cnts s.elses) := by rw [cnt_eq, if_pos (Or.inl h4), if_pos ⟨h4, he⟩]
  have HV := Aside0.mk hv
  rw [hv] at hb
  clear hv h4 he
  have HM1 : ∀ p, p ∈ s.thens → (p ∈ s.thens ∨ p ∈ s.elses) := fun p hp => Or.inl hp
  have HM2 : ∀ p, p ∈ s.elses → (p ∈ s.thens ∨ p ∈ s.elses) := fun p hp => Or.inr hp
  go_enter Tryd.func17, Tryd.ntmps17
  go_wp2_with (first | ((with_reducible refine gate_dst (N := 1) rfl ?_); refine box_event ?hg (N := 1) ?hd (cs := #[.int .i64 s.does, .int .i64 s.pos.line, .int .i64 s.pos.col, .string s.name, .slice A4 s.es.length a4, .slice A5 s.thens.length a5, .slice A6 s.elses.length a6]) (t := 38) ?hr ?_; (case hd => rfl); (case hg => rfl); (case hr => first | (go_simp; done) | (go_simp; rfl)); intro g1 hgE_ W1 hbox_ hb_; have GEg1 := Aside0.mk (show w.heap.size ≤ g1 from Nat.le_of_eq hgE_.symm); have HB := Aside0.mk hb_; have BKg1 := Aside0.mk hbox_; have cg1_0 : W1.cell? ⟨g1, 0, none⟩ = some (.int .i64 s.does) := (blk_cell BKg1.out 0).trans rfl; have cg1_5 : W1.cell? ⟨g1, 5, none⟩ = some (.slice A5 s.thens.length a5) := (blk_cell BKg1.out 5).trans rfl; have cg1_6 : W1.cell? ⟨g1, 6, none⟩ = some (.slice A6 s.elses.length a6) := (blk_cell BKg1.out 6).trans rfl; clear hb_ hbox_ hgE_))
  replace HC5 := Aside0.mk (Kd.C_below HC5.out HB.out)
  have HC6w := HC6
  have HL1 := HB
  go_loopg [3, 19] s.thens.length (fun kq v3 vi w' => ∃ i : Int, vi = .int .i64 i ∧ v3 = .int .i64 (2 + (cnts (s.thens.take i.toNat) : Int)) ∧ 0 ≤ i ∧ kq + i.toNat = s.thens.length ∧ Aside0 (Below w.heap.size w w') ∧ Aside0 (Below W1.heap.size W1 w'))
  case atStart => exact ⟨0, rfl, by simp [cnts], by omega, by simp, HB, ⟨Below.refl _ _⟩⟩
  case round =>
    clear HB HL1
    obtain ⟨i, rfl, rfl, hi0, hk, HB, HBL⟩ := hrel
    cases gk with
    | succ k1_ =>
      have hi1 : i < (s.thens.length : Int) := by omega
      have hx1 := Kd.C_below HC5.out HBL.out
      obtain ⟨ad, B4, b4, B5, b5, B6, b6, ea, e0, e1, e2, e3, e4, e5, e6, el4, eg4, el5, eg5, el6, eg6⟩ := atStmt hx1 i hi0 hi1
      obtain rfl := ea
      have hms : rdStmt s.thens i ∈ s.thens := rdStmt_mem _ _ hi0 hi1
      have KS := Aside0.mk (show kStmt.K wr (rdStmt s.thens i) [.int .i64 (rdStmt s.thens i).does, .int .i64 (rdStmt s.thens i).pos.line, .int .i64 (rdStmt s.thens i).pos.col, .string (rdStmt s.thens i).name, .slice B4 (rdStmt s.thens i).es.length b4, .slice B5 (rdStmt s.thens i).thens.length b5, .slice B6 (rdStmt s.thens i).elses.length b6] from kStmt_mk wr _ el4 eg4 el5 eg5 el6 eg6)
      have htk := cnts_take s.thens i hi0 hi1
      have hle := cnts_le s.thens (i + 1).toNat
      have HTK := Aside0.mk htk
      have HCB := Aside0.mk (show cnt (rdStmt s.thens i) ≤ 1000000000000 from by have := cnt_le _ _ hms; omega)
      have hsum : ((2 + (cnts (s.thens.take i.toNat) : Int)) + (cnt (rdStmt s.thens i) : Int)) ≤ 9223372036854775807 := by omega
      clear el4 eg4 el5 eg5 el6 eg6 hx1 hle
      go_wp2_with (first | ((with_reducible refine gate_dst (N := 5) rfl ?_); refine var_event (W1 := ?w1_5) (N := 5) (cs := #[.int .i64 (rdStmt s.thens i).does, .int .i64 (rdStmt s.thens i).pos.line, .int .i64 (rdStmt s.thens i).pos.col, .string (rdStmt s.thens i).name, .slice B4 (rdStmt s.thens i).es.length b4, .slice B5 (rdStmt s.thens i).thens.length b5, .slice B6 (rdStmt s.thens i).elses.length b6]) (t := 38) ?hg ?hd ?hg2 ?hd2 ?hr ?hr2 ?_; (case hd => rfl); (case hg => rfl); (case hd2 => rfl); (case hg2 => rfl); (case hr => first | (go_simp; done) | (go_simp; rfl)); (case hr2 => first | (go_simp; done) | (go_simp; rfl)); intro q1 hgE_ L1W1 hbox_ hb_; have GEq1 := Aside0.mk (show w.heap.size ≤ q1 from Nat.le_trans HB.out.size (hgE_)); replace HB := Aside0.mk (below_step HB.out hb_); replace HBL := Aside0.mk (below_step HBL.out hb_); replace KS := Aside0.mk (kStmt.K_below hb_ KS.out); have BKq1 := Aside0.mk hbox_; have cq1_0 : L1W1.cell? ⟨q1, 0, none⟩ = some (.int .i64 (rdStmt s.thens i).does) := (blk_cell BKq1.out 0).trans rfl; have cq1_1 : L1W1.cell? ⟨q1, 1, none⟩ = some (.int .i64 (rdStmt s.thens i).pos.line) := (blk_cell BKq1.out 1).trans rfl; have cq1_2 : L1W1.cell? ⟨q1, 2, none⟩ = some (.int .i64 (rdStmt s.thens i).pos.col) := (blk_cell BKq1.out 2).trans rfl; have cq1_3 : L1W1.cell? ⟨q1, 3, none⟩ = some (.string (rdStmt s.thens i).name) := (blk_cell BKq1.out 3).trans rfl; have cq1_4 : L1W1.cell? ⟨q1, 4, none⟩ = some (.slice B4 (rdStmt s.thens i).es.length b4) := (blk_cell BKq1.out 4).trans rfl; have cq1_5 : L1W1.cell? ⟨q1, 5, none⟩ = some (.slice B5 (rdStmt s.thens i).thens.length b5) := (blk_cell BKq1.out 5).trans rfl; have cq1_6 : L1W1.cell? ⟨q1, 6, none⟩ = some (.slice B6 (rdStmt s.thens i).elses.length b6) := (blk_cell BKq1.out 6).trans rfl; clear hb_ hbox_ hgE_) | (go_at_call 17; (with_reducible refine (ih _ (HM1 _ hms) HCB.out _ _ KS.out).mono ?_); rintro e L1W2 ⟨rfl, hb_⟩; replace HB := Aside0.mk (below_step HB.out hb_); replace BKq1 := Aside0.mk (blk_below BKq1.out hb_); replace cq1_0 : L1W2.cell? ⟨q1, 0, none⟩ = some (.int .i64 (rdStmt s.thens i).does) := (blk_cell BKq1.out 0).trans rfl; replace cq1_1 : L1W2.cell? ⟨q1, 1, none⟩ = some (.int .i64 (rdStmt s.thens i).pos.line) := (blk_cell BKq1.out 1).trans rfl; replace cq1_2 : L1W2.cell? ⟨q1, 2, none⟩ = some (.int .i64 (rdStmt s.thens i).pos.col) := (blk_cell BKq1.out 2).trans rfl; replace cq1_3 : L1W2.cell? ⟨q1, 3, none⟩ = some (.string (rdStmt s.thens i).name) := (blk_cell BKq1.out 3).trans rfl; replace cq1_4 : L1W2.cell? ⟨q1, 4, none⟩ = some (.slice B4 (rdStmt s.thens i).es.length b4) := (blk_cell BKq1.out 4).trans rfl; replace cq1_5 : L1W2.cell? ⟨q1, 5, none⟩ = some (.slice B5 (rdStmt s.thens i).thens.length b5) := (blk_cell BKq1.out 5).trans rfl; replace cq1_6 : L1W2.cell? ⟨q1, 6, none⟩ = some (.slice B6 (rdStmt s.thens i).elses.length b6) := (blk_cell BKq1.out 6).trans rfl; replace HBL := Aside0.mk (below_step HBL.out hb_); replace KS := Aside0.mk (kStmt.K_below hb_ KS.out); clear hb_ ))
      go_roundg k1_
      case measure => omega
      case rel =>
        refine ⟨i + 1, rfl, ?_, by omega, by omega, HB, HBL⟩
        rw [HTK.out, Int.natCast_add, ← Int.add_assoc]
    | zero =>
      have hge : decide (i < (s.thens.length : Int)) = false := by simp; omega
      have hall : s.thens.take i.toNat = s.thens := List.take_of_length_le (by omega)
      rw [hall]
      clear hall hk
      replace BKg1 := Aside0.mk (blk_below BKg1.out HBL.out)
      replace cg1_0 : wr.cell? ⟨g1, 0, none⟩ = some (.int .i64 s.does) := (blk_cell BKg1.out 0).trans rfl
      replace cg1_5 : wr.cell? ⟨g1, 5, none⟩ = some (.slice A5 s.thens.length a5) := (blk_cell BKg1.out 5).trans rfl
      replace cg1_6 : wr.cell? ⟨g1, 6, none⟩ = some (.slice A6 s.elses.length a6) := (blk_cell BKg1.out 6).trans rfl
      have HC62 := Aside0.mk (Kd.C_below HC6.out HB.out)
      clear HBL
      go_wp2_with fail
      have HL2 := HB
      go_loopg [3, 42] s.elses.length (fun kq v3 vi w' => ∃ i : Int, vi = .int .i64 i ∧ v3 = .int .i64 ((2 + (cnts s.thens : Int) + 1) + (cnts (s.elses.take i.toNat) : Int)) ∧ 0 ≤ i ∧ kq + i.toNat = s.elses.length ∧ Aside0 (Below w.heap.size w w') ∧ Aside0 (Below wr.heap.size wr w'))
      case atStart => exact ⟨0, rfl, by simp [cnts], by omega, by simp, HB, ⟨Below.refl _ _⟩⟩
      case round =>
        clear HB HL2
        obtain ⟨i, rfl, rfl, hi0, hk, HB, HBL⟩ := hrel
        cases gk with
        | succ k1_ =>
          have hi1 : i < (s.elses.length : Int) := by omega
          have hx1 := Kd.C_below HC62.out HBL.out
          obtain ⟨ad, B4, b4, B5, b5, B6, b6, ea, e0, e1, e2, e3, e4, e5, e6, el4, eg4, el5, eg5, el6, eg6⟩ := atStmt hx1 i hi0 hi1
          obtain rfl := ea
          have hms : rdStmt s.elses i ∈ s.elses := rdStmt_mem _ _ hi0 hi1
          have KS := Aside0.mk (show kStmt.K wr (rdStmt s.elses i) [.int .i64 (rdStmt s.elses i).does, .int .i64 (rdStmt s.elses i).pos.line, .int .i64 (rdStmt s.elses i).pos.col, .string (rdStmt s.elses i).name, .slice B4 (rdStmt s.elses i).es.length b4, .slice B5 (rdStmt s.elses i).thens.length b5, .slice B6 (rdStmt s.elses i).elses.length b6] from kStmt_mk wr _ el4 eg4 el5 eg5 el6 eg6)
          have htk := cnts_take s.elses i hi0 hi1
          have hle := cnts_le s.elses (i + 1).toNat
          have HTK := Aside0.mk htk
          have HCB := Aside0.mk (show cnt (rdStmt s.elses i) ≤ 1000000000000 from by have := cnt_le _ _ hms; omega)
          have hsum : (((2 + (cnts s.thens : Int) + 1) + (cnts (s.elses.take i.toNat) : Int)) + (cnt (rdStmt s.elses i) : Int)) ≤ 9223372036854775807 := by omega
          clear el4 eg4 el5 eg5 el6 eg6 hx1 hle
          go_wp2_with (first | ((with_reducible refine gate_dst (N := 7) rfl ?_); refine var_event (W1 := ?w1_7) (N := 7) (cs := #[.int .i64 (rdStmt s.elses i).does, .int .i64 (rdStmt s.elses i).pos.line, .int .i64 (rdStmt s.elses i).pos.col, .string (rdStmt s.elses i).name, .slice B4 (rdStmt s.elses i).es.length b4, .slice B5 (rdStmt s.elses i).thens.length b5, .slice B6 (rdStmt s.elses i).elses.length b6]) (t := 38) ?hg ?hd ?hg2 ?hd2 ?hr ?hr2 ?_; (case hd => rfl); (case hg => rfl); (case hd2 => rfl); (case hg2 => rfl); (case hr => first | (go_simp; done) | (go_simp; rfl)); (case hr2 => first | (go_simp; done) | (go_simp; rfl)); intro q2 hgE_ L2W1 hbox_ hb_; have GEq2 := Aside0.mk (show w.heap.size ≤ q2 from Nat.le_trans HB.out.size (hgE_)); replace HB := Aside0.mk (below_step HB.out hb_); replace HBL := Aside0.mk (below_step HBL.out hb_); replace KS := Aside0.mk (kStmt.K_below hb_ KS.out); have BKq2 := Aside0.mk hbox_; have cq2_0 : L2W1.cell? ⟨q2, 0, none⟩ = some (.int .i64 (rdStmt s.elses i).does) := (blk_cell BKq2.out 0).trans rfl; have cq2_1 : L2W1.cell? ⟨q2, 1, none⟩ = some (.int .i64 (rdStmt s.elses i).pos.line) := (blk_cell BKq2.out 1).trans rfl; have cq2_2 : L2W1.cell? ⟨q2, 2, none⟩ = some (.int .i64 (rdStmt s.elses i).pos.col) := (blk_cell BKq2.out 2).trans rfl; have cq2_3 : L2W1.cell? ⟨q2, 3, none⟩ = some (.string (rdStmt s.elses i).name) := (blk_cell BKq2.out 3).trans rfl; have cq2_4 : L2W1.cell? ⟨q2, 4, none⟩ = some (.slice B4 (rdStmt s.elses i).es.length b4) := (blk_cell BKq2.out 4).trans rfl; have cq2_5 : L2W1.cell? ⟨q2, 5, none⟩ = some (.slice B5 (rdStmt s.elses i).thens.length b5) := (blk_cell BKq2.out 5).trans rfl; have cq2_6 : L2W1.cell? ⟨q2, 6, none⟩ = some (.slice B6 (rdStmt s.elses i).elses.length b6) := (blk_cell BKq2.out 6).trans rfl; clear hb_ hbox_ hgE_) | (go_at_call 17; (with_reducible refine (ih _ (HM2 _ hms) HCB.out _ _ KS.out).mono ?_); rintro e L2W2 ⟨rfl, hb_⟩; replace HB := Aside0.mk (below_step HB.out hb_); replace BKq2 := Aside0.mk (blk_below BKq2.out hb_); replace cq2_0 : L2W2.cell? ⟨q2, 0, none⟩ = some (.int .i64 (rdStmt s.elses i).does) := (blk_cell BKq2.out 0).trans rfl; replace cq2_1 : L2W2.cell? ⟨q2, 1, none⟩ = some (.int .i64 (rdStmt s.elses i).pos.line) := (blk_cell BKq2.out 1).trans rfl; replace cq2_2 : L2W2.cell? ⟨q2, 2, none⟩ = some (.int .i64 (rdStmt s.elses i).pos.col) := (blk_cell BKq2.out 2).trans rfl; replace cq2_3 : L2W2.cell? ⟨q2, 3, none⟩ = some (.string (rdStmt s.elses i).name) := (blk_cell BKq2.out 3).trans rfl; replace cq2_4 : L2W2.cell? ⟨q2, 4, none⟩ = some (.slice B4 (rdStmt s.elses i).es.length b4) := (blk_cell BKq2.out 4).trans rfl; replace cq2_5 : L2W2.cell? ⟨q2, 5, none⟩ = some (.slice B5 (rdStmt s.elses i).thens.length b5) := (blk_cell BKq2.out 5).trans rfl; replace cq2_6 : L2W2.cell? ⟨q2, 6, none⟩ = some (.slice B6 (rdStmt s.elses i).elses.length b6) := (blk_cell BKq2.out 6).trans rfl; replace HBL := Aside0.mk (below_step HBL.out hb_); replace KS := Aside0.mk (kStmt.K_below hb_ KS.out); clear hb_ ))
          go_roundg k1_
          case measure => omega
          case rel =>
            refine ⟨i + 1, rfl, ?_, by omega, by omega, HB, HBL⟩
            rw [HTK.out, Int.natCast_add, ← Int.add_assoc]
        | zero =>
          have hge : decide (i < (s.elses.length : Int)) = false := by simp; omega
          have hall : s.elses.take i.toNat = s.elses := List.take_of_length_le (by omega)
          rw [hall]
          clear hall hk
          go_wp2_with fail
          go_ret
          refine ⟨?_, HB.out⟩
          have e : (cnt s : Int) = 2 + (cnts s.thens : Int) + 1 + (cnts s.elses : Int) := by have := HV.out; omega
          rw [e]
          rfl

/-- WHAT count COMPUTES. -/
theorem cnt_calls (n : Nat) : ∀ (s : Stmt), SizeOf.sizeOf s ≤ n → cnt s ≤ 1000000000000 → ∀ (cs : List Value) (w : World), kStmt.K w s cs → Calls Tryd.prog 17 #[.agg cs.toArray] w fun e w' => e = .returned (.int .i64 (cnt s)) ∧ Below w.heap.size w w' := by
  induction n with
  | zero =>
    intro s hs
    cases s
    simp at hs
  | succ n ih =>
    intro s hs hb cs w h
    by_cases h4 : s.does = 4
    · have e := cnt_eq s
      rw [if_pos (Or.inl h4)] at e
      by_cases he : s.elses = []
      · rw [if_neg (fun h => h.2 he)] at e
        exact cnt_if s cs w h hb (fun p hp hc cs w hK => ih p (by have := kid_stmt hp; omega) hc cs w hK) h4 he
      · rw [if_pos ⟨h4, he⟩] at e
        exact cnt_else s cs w h hb (fun p hp hc cs w hK => ih p (by have := kid_stmt hp; omega) hc cs w hK) h4 he
    by_cases h5 : s.does = 5
    · exact cnt_while s cs w h hb (fun p hp hc cs w hK => ih p (by have := kid_stmt hp; omega) hc cs w hK) h5
    · exact cnt_one s cs w h hb (fun p hp hc cs w hK => ih p (by have := kid_stmt hp; omega) hc cs w hK) h4 h5
end Go.Proofs.YtpbeplepcbhamaaDoor
