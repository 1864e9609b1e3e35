/- Statements as text: the walk of Stmt.Text. -/
import Derived.Test.YtpbeplepcbhamaaDoorStext
namespace Go.Proofs.YtpbeplepcbhamaaDoor
open Go.RowKit Go.Proofs.YtpbeplepcbhamaaDoorW.PrintWords Go.Proofs.YtpbeplepcbhamaaDoorW.PrintLast Go.Proofs.YtpbeplepcbhamaaDoorW.PrintMore
set_option linter.unusedVariables false
set_option linter.unusedSimpArgs false

theorem tabs_length (k : Nat) : (tabs k).length = k := by
  rw [tabs, Lib.repeatL_length]
  simp
theorem tabs_calls (k : Nat) (w : World) (hk : k ≤ 1000000) : Calls Tryd.prog 31 #[.string ⟨#[9]⟩, .int .i64 k] w fun e w' => e = .returned (.string (bs (tabs k))) ∧ Below w.heap.size w w' :=
  Tryd.strings_Repeat ⟨#[9]⟩ k w (by omega) (by show 1 * k ≤ _; omega)
set_option maxRecDepth 100000 in
set_option maxHeartbeats 3200000 in
theorem st_ret (s : Stmt) (d : Int) (cs : List Value) (w : World) (hs : kStmt.K w s cs) (hg : Glob w) (hf : SFit s d.toNat) (hc : s.does = 6) :
    Calls Tryd.prog 16 #[.agg cs.toArray, .int .i64 d] w fun e w' => e = .returned (.string (bs (stext s d.toNat))) ∧ Below w.heap.size w w' := by
  have KS := Aside0.mk hs
  obtain ⟨A4, a4, A5, a5, A6, a6, rfl, el4, eg4, el5, eg5, el6, eg6⟩ := kStmt_open hs
  have k1 : (s.does == 1) = false := by rw [hc]; rfl
  have k2 : (s.does == 2) = false := by rw [hc]; rfl
  have k3 : (s.does == 3) = false := by rw [hc]; rfl
  have k4 : (s.does == 4) = false := by rw [hc]; rfl
  have k5 : (s.does == 5) = false := by rw [hc]; rfl
  have k6 : (s.does == 6) = true := by rw [hc]; rfl
  obtain ⟨k, hk⟩ : ∃ k : Nat, k = d.toNat := ⟨_, rfl⟩
  have hmax : max 0 d = (k : Int) := by omega
  rw [← hk] at hf ⊢
  clear hk hs
  obtain ⟨hl, hd, hes, hT, hE⟩ := hf.open
  have hst : stext s k = tabs k ++ [114, 101, 116, 117, 114, 110, 32] ++ atL s.es 0 ++ [59, 10] := by rw [stext_eq, if_neg (by rw [hc]; decide), if_neg (by rw [hc]; decide), if_neg (by rw [hc]; decide), if_neg (by rw [hc]; decide), if_neg (by rw [hc]; decide), if_pos hc]
  rw [hst] at hl
  simp only [List.length_append, List.length_cons, List.length_nil, size_toList] at hl
  obtain ⟨T, hT_⟩ : ∃ T, T = bs (tabs k) := ⟨_, rfl⟩
  have sT : T.size = (tabs k).length := by rw [hT_, bs_size]
  obtain ⟨Z0, hZ0_⟩ : ∃ T, T = bs (atL s.es 0) := ⟨_, rfl⟩
  have sZ0 : Z0.size = (atL s.es 0).length := by rw [hZ0_, bs_size]
  have hz0 : ¬ 9223372036854775807 < T.size + 7 := by omega
  have hz1 : ¬ 9223372036854775807 < T.size + 7 + Z0.size := by omega
  have hz2 : ¬ 9223372036854775807 < T.size + 7 + Z0.size + 2 := by omega
  have HST := Lib.hid hst
  have HT := Lib.hid hT_
  have HZ0 := Lib.hid hZ0_
  have HF := Aside0.mk hes
  have HC5 := Aside0.mk eg5
  have HC6 := Aside0.mk eg6
  clear hst hT_ hes hl hT hE hf el4 eg4 el5 eg5 el6 eg6 sT hZ0_ sZ0 hc
  go_enter Tryd.func16, Tryd.ntmps16
  go_wp2_with (first | ((with_reducible refine gate_dst (N := 2) rfl ?_); refine box_event ?hg (N := 2) ?hd (cs := #[.int .i64 s.does, .int .i64 s.pos.line, .int .i64 s.pos.col, .string s.name, .slice A4 s.es.length a4, .slice A5 s.thens.length a5, .slice A6 s.elses.length a6]) (t := 38) ?hr ?_; (case hd => rfl); (case hg => rfl); (case hr => first | (go_simp; done) | (go_simp; rfl)); intro g2 hgE_ W1 hbox_ hb_; have GEg2 := Aside0.mk (show w.heap.size ≤ g2 from Nat.le_of_eq hgE_.symm); have HB := Aside0.mk hb_; have BKg2 := Aside0.mk hbox_; have cg2_0 : W1.cell? ⟨g2, 0, none⟩ = some (.int .i64 s.does) := (blk_cell BKg2.out 0).trans rfl; have cg2_1 : W1.cell? ⟨g2, 1, none⟩ = some (.int .i64 s.pos.line) := (blk_cell BKg2.out 1).trans rfl; have cg2_2 : W1.cell? ⟨g2, 2, none⟩ = some (.int .i64 s.pos.col) := (blk_cell BKg2.out 2).trans rfl; have cg2_3 : W1.cell? ⟨g2, 3, none⟩ = some (.string s.name) := (blk_cell BKg2.out 3).trans rfl; have cg2_4 : W1.cell? ⟨g2, 4, none⟩ = some (.slice A4 s.es.length a4) := (blk_cell BKg2.out 4).trans rfl; have cg2_5 : W1.cell? ⟨g2, 5, none⟩ = some (.slice A5 s.thens.length a5) := (blk_cell BKg2.out 5).trans rfl; have cg2_6 : W1.cell? ⟨g2, 6, none⟩ = some (.slice A6 s.elses.length a6) := (blk_cell BKg2.out 6).trans rfl; clear hb_ hbox_ hgE_) | (go_at_call 31; (with_reducible refine (tabs_calls k _ (by omega)).mono ?_); rintro e W2 ⟨rfl, hb_⟩; rw [← HT.out]; replace HB := Aside0.mk (below_step HB.out hb_); replace BKg2 := Aside0.mk (blk_below BKg2.out hb_); replace cg2_0 : W2.cell? ⟨g2, 0, none⟩ = some (.int .i64 s.does) := (blk_cell BKg2.out 0).trans rfl; replace cg2_1 : W2.cell? ⟨g2, 1, none⟩ = some (.int .i64 s.pos.line) := (blk_cell BKg2.out 1).trans rfl; replace cg2_2 : W2.cell? ⟨g2, 2, none⟩ = some (.int .i64 s.pos.col) := (blk_cell BKg2.out 2).trans rfl; replace cg2_3 : W2.cell? ⟨g2, 3, none⟩ = some (.string s.name) := (blk_cell BKg2.out 3).trans rfl; replace cg2_4 : W2.cell? ⟨g2, 4, none⟩ = some (.slice A4 s.es.length a4) := (blk_cell BKg2.out 4).trans rfl; replace cg2_5 : W2.cell? ⟨g2, 5, none⟩ = some (.slice A5 s.thens.length a5) := (blk_cell BKg2.out 5).trans rfl; replace cg2_6 : W2.cell? ⟨g2, 6, none⟩ = some (.slice A6 s.elses.length a6) := (blk_cell BKg2.out 6).trans rfl; clear hb_ ) | (go_at_call 32; (with_reducible refine (at_calls s 0 _ _ (kStmt.K_below HB.out KS.out) (hg.below hg.size HB.out) (by decide) HF.out).mono ?_); rintro e W3 ⟨rfl, hb_⟩; rw [← HZ0.out]; replace HB := Aside0.mk (below_step HB.out hb_); replace BKg2 := Aside0.mk (blk_below BKg2.out hb_); replace cg2_0 : W3.cell? ⟨g2, 0, none⟩ = some (.int .i64 s.does) := (blk_cell BKg2.out 0).trans rfl; replace cg2_1 : W3.cell? ⟨g2, 1, none⟩ = some (.int .i64 s.pos.line) := (blk_cell BKg2.out 1).trans rfl; replace cg2_2 : W3.cell? ⟨g2, 2, none⟩ = some (.int .i64 s.pos.col) := (blk_cell BKg2.out 2).trans rfl; replace cg2_3 : W3.cell? ⟨g2, 3, none⟩ = some (.string s.name) := (blk_cell BKg2.out 3).trans rfl; replace cg2_4 : W3.cell? ⟨g2, 4, none⟩ = some (.slice A4 s.es.length a4) := (blk_cell BKg2.out 4).trans rfl; replace cg2_5 : W3.cell? ⟨g2, 5, none⟩ = some (.slice A5 s.thens.length a5) := (blk_cell BKg2.out 5).trans rfl; replace cg2_6 : W3.cell? ⟨g2, 6, none⟩ = some (.slice A6 s.elses.length a6) := (blk_cell BKg2.out 6).trans rfl; clear hb_ ))
  go_ret
  refine ⟨ret_str ?_, HB.out⟩
  rw [HST.out]
  simp only [← bs_add, ← bs_of, ← HT.out, ← HZ0.out]
  rfl
set_option maxRecDepth 100000 in
set_option maxHeartbeats 3200000 in
theorem st_run (s : Stmt) (d : Int) (cs : List Value) (w : World) (hs : kStmt.K w s cs) (hg : Glob w) (hf : SFit s d.toNat) (hc1 : s.does ≠ 1) (hc2 : s.does ≠ 2) (hc3 : s.does ≠ 3) (hc4 : s.does ≠ 4) (hc5 : s.does ≠ 5) (hc6 : s.does ≠ 6) :
    Calls Tryd.prog 16 #[.agg cs.toArray, .int .i64 d] w fun e w' => e = .returned (.string (bs (stext s d.toNat))) ∧ Below w.heap.size w w' := by
  have KS := Aside0.mk hs
  obtain ⟨A4, a4, A5, a5, A6, a6, rfl, el4, eg4, el5, eg5, el6, eg6⟩ := kStmt_open hs
  have k1 : (s.does == 1) = false := beq_eq_false_iff_ne.2 hc1
  have k2 : (s.does == 2) = false := beq_eq_false_iff_ne.2 hc2
  have k3 : (s.does == 3) = false := beq_eq_false_iff_ne.2 hc3
  have k4 : (s.does == 4) = false := beq_eq_false_iff_ne.2 hc4
  have k5 : (s.does == 5) = false := beq_eq_false_iff_ne.2 hc5
  have k6 : (s.does == 6) = false := beq_eq_false_iff_ne.2 hc6
  obtain ⟨k, hk⟩ : ∃ k : Nat, k = d.toNat := ⟨_, rfl⟩
  have hmax : max 0 d = (k : Int) := by omega
  rw [← hk] at hf ⊢
  clear hk hs
  obtain ⟨hl, hd, hes, hT, hE⟩ := hf.open
  have hst : stext s k = tabs k ++ atL s.es 0 ++ [59, 10] := by rw [stext_eq, if_neg hc1, if_neg hc2, if_neg hc3, if_neg hc4, if_neg hc5, if_neg hc6]
  rw [hst] at hl
  simp only [List.length_append, List.length_cons, List.length_nil, size_toList] at hl
  obtain ⟨T, hT_⟩ : ∃ T, T = bs (tabs k) := ⟨_, rfl⟩
  have sT : T.size = (tabs k).length := by rw [hT_, bs_size]
  obtain ⟨Z0, hZ0_⟩ : ∃ T, T = bs (atL s.es 0) := ⟨_, rfl⟩
  have sZ0 : Z0.size = (atL s.es 0).length := by rw [hZ0_, bs_size]
  have hz0 : ¬ 9223372036854775807 < T.size + Z0.size := by omega
  have hz1 : ¬ 9223372036854775807 < T.size + Z0.size + 2 := by omega
  have HST := Lib.hid hst
  have HT := Lib.hid hT_
  have HZ0 := Lib.hid hZ0_
  have HF := Aside0.mk hes
  have HC5 := Aside0.mk eg5
  have HC6 := Aside0.mk eg6
  clear hst hT_ hes hl hT hE hf el4 eg4 el5 eg5 el6 eg6 sT hZ0_ sZ0 hc1 hc2 hc3 hc4 hc5 hc6
  go_enter Tryd.func16, Tryd.ntmps16
  go_wp2_with (first | ((with_reducible refine gate_dst (N := 2) rfl ?_); refine box_event ?hg (N := 2) ?hd (cs := #[.int .i64 s.does, .int .i64 s.pos.line, .int .i64 s.pos.col, .string s.name, .slice A4 s.es.length a4, .slice A5 s.thens.length a5, .slice A6 s.elses.length a6]) (t := 38) ?hr ?_; (case hd => rfl); (case hg => rfl); (case hr => first | (go_simp; done) | (go_simp; rfl)); intro g2 hgE_ W1 hbox_ hb_; have GEg2 := Aside0.mk (show w.heap.size ≤ g2 from Nat.le_of_eq hgE_.symm); have HB := Aside0.mk hb_; have BKg2 := Aside0.mk hbox_; have cg2_0 : W1.cell? ⟨g2, 0, none⟩ = some (.int .i64 s.does) := (blk_cell BKg2.out 0).trans rfl; have cg2_1 : W1.cell? ⟨g2, 1, none⟩ = some (.int .i64 s.pos.line) := (blk_cell BKg2.out 1).trans rfl; have cg2_2 : W1.cell? ⟨g2, 2, none⟩ = some (.int .i64 s.pos.col) := (blk_cell BKg2.out 2).trans rfl; have cg2_3 : W1.cell? ⟨g2, 3, none⟩ = some (.string s.name) := (blk_cell BKg2.out 3).trans rfl; have cg2_4 : W1.cell? ⟨g2, 4, none⟩ = some (.slice A4 s.es.length a4) := (blk_cell BKg2.out 4).trans rfl; have cg2_5 : W1.cell? ⟨g2, 5, none⟩ = some (.slice A5 s.thens.length a5) := (blk_cell BKg2.out 5).trans rfl; have cg2_6 : W1.cell? ⟨g2, 6, none⟩ = some (.slice A6 s.elses.length a6) := (blk_cell BKg2.out 6).trans rfl; clear hb_ hbox_ hgE_) | (go_at_call 31; (with_reducible refine (tabs_calls k _ (by omega)).mono ?_); rintro e W2 ⟨rfl, hb_⟩; rw [← HT.out]; replace HB := Aside0.mk (below_step HB.out hb_); replace BKg2 := Aside0.mk (blk_below BKg2.out hb_); replace cg2_0 : W2.cell? ⟨g2, 0, none⟩ = some (.int .i64 s.does) := (blk_cell BKg2.out 0).trans rfl; replace cg2_1 : W2.cell? ⟨g2, 1, none⟩ = some (.int .i64 s.pos.line) := (blk_cell BKg2.out 1).trans rfl; replace cg2_2 : W2.cell? ⟨g2, 2, none⟩ = some (.int .i64 s.pos.col) := (blk_cell BKg2.out 2).trans rfl; replace cg2_3 : W2.cell? ⟨g2, 3, none⟩ = some (.string s.name) := (blk_cell BKg2.out 3).trans rfl; replace cg2_4 : W2.cell? ⟨g2, 4, none⟩ = some (.slice A4 s.es.length a4) := (blk_cell BKg2.out 4).trans rfl; replace cg2_5 : W2.cell? ⟨g2, 5, none⟩ = some (.slice A5 s.thens.length a5) := (blk_cell BKg2.out 5).trans rfl; replace cg2_6 : W2.cell? ⟨g2, 6, none⟩ = some (.slice A6 s.elses.length a6) := (blk_cell BKg2.out 6).trans rfl; clear hb_ ) | (go_at_call 32; (with_reducible refine (at_calls s 0 _ _ (kStmt.K_below HB.out KS.out) (hg.below hg.size HB.out) (by decide) HF.out).mono ?_); rintro e W3 ⟨rfl, hb_⟩; rw [← HZ0.out]; replace HB := Aside0.mk (below_step HB.out hb_); replace BKg2 := Aside0.mk (blk_below BKg2.out hb_); replace cg2_0 : W3.cell? ⟨g2, 0, none⟩ = some (.int .i64 s.does) := (blk_cell BKg2.out 0).trans rfl; replace cg2_1 : W3.cell? ⟨g2, 1, none⟩ = some (.int .i64 s.pos.line) := (blk_cell BKg2.out 1).trans rfl; replace cg2_2 : W3.cell? ⟨g2, 2, none⟩ = some (.int .i64 s.pos.col) := (blk_cell BKg2.out 2).trans rfl; replace cg2_3 : W3.cell? ⟨g2, 3, none⟩ = some (.string s.name) := (blk_cell BKg2.out 3).trans rfl; replace cg2_4 : W3.cell? ⟨g2, 4, none⟩ = some (.slice A4 s.es.length a4) := (blk_cell BKg2.out 4).trans rfl; replace cg2_5 : W3.cell? ⟨g2, 5, none⟩ = some (.slice A5 s.thens.length a5) := (blk_cell BKg2.out 5).trans rfl; replace cg2_6 : W3.cell? ⟨g2, 6, none⟩ = some (.slice A6 s.elses.length a6) := (blk_cell BKg2.out 6).trans rfl; clear hb_ ))
  go_ret
  refine ⟨ret_str ?_, HB.out⟩
  rw [HST.out]
  simp only [← bs_add, ← bs_of, ← HT.out, ← HZ0.out]
  rfl
set_option maxRecDepth 100000 in
set_option maxHeartbeats 3200000 in
theorem st_let (s : Stmt) (d : Int) (cs : List Value) (w : World) (hs : kStmt.K w s cs) (hg : Glob w) (hf : SFit s d.toNat) (hc : s.does = 1) :
    Calls Tryd.prog 16 #[.agg cs.toArray, .int .i64 d] w fun e w' => e = .returned (.string (bs (stext s d.toNat))) ∧ Below w.heap.size w w' := by
  have KS := Aside0.mk hs
  obtain ⟨A4, a4, A5, a5, A6, a6, rfl, el4, eg4, el5, eg5, el6, eg6⟩ := kStmt_open hs
  have k1 : (s.does == 1) = true := by rw [hc]; rfl
  obtain ⟨k, hk⟩ : ∃ k : Nat, k = d.toNat := ⟨_, rfl⟩
  have hmax : max 0 d = (k : Int) := by omega
  rw [← hk] at hf ⊢
  clear hk hs
  obtain ⟨hl, hd, hes, hT, hE⟩ := hf.open
  have hst : stext s k = tabs k ++ [108, 101, 116, 32] ++ s.name.data.toList ++ [32, 61, 32] ++ atL s.es 0 ++ [59, 10] := by rw [stext_eq, if_pos hc]
  rw [hst] at hl
  simp only [List.length_append, List.length_cons, List.length_nil, size_toList] at hl
  obtain ⟨T, hT_⟩ : ∃ T, T = bs (tabs k) := ⟨_, rfl⟩
  have sT : T.size = (tabs k).length := by rw [hT_, bs_size]
  obtain ⟨Z0, hZ0_⟩ : ∃ T, T = bs (atL s.es 0) := ⟨_, rfl⟩
  have sZ0 : Z0.size = (atL s.es 0).length := by rw [hZ0_, bs_size]
  have hz0 : ¬ 9223372036854775807 < T.size + 4 := by omega
  have hz1 : ¬ 9223372036854775807 < T.size + 4 + s.name.size := by omega
  have hz2 : ¬ 9223372036854775807 < T.size + 4 + s.name.size + 3 := by omega
  have hz3 : ¬ 9223372036854775807 < T.size + 4 + s.name.size + 3 + Z0.size := by omega
  have hz4 : ¬ 9223372036854775807 < T.size + 4 + s.name.size + 3 + Z0.size + 2 := by omega
  have HST := Lib.hid hst
  have HT := Lib.hid hT_
  have HZ0 := Lib.hid hZ0_
  have HF := Aside0.mk hes
  have HC5 := Aside0.mk eg5
  have HC6 := Aside0.mk eg6
  clear hst hT_ hes hl hT hE hf el4 eg4 el5 eg5 el6 eg6 sT hZ0_ sZ0 hc
  go_enter Tryd.func16, Tryd.ntmps16
  go_wp2_with (first | ((with_reducible refine gate_dst (N := 2) rfl ?_); refine box_event ?hg (N := 2) ?hd (cs := #[.int .i64 s.does, .int .i64 s.pos.line, .int .i64 s.pos.col, .string s.name, .slice A4 s.es.length a4, .slice A5 s.thens.length a5, .slice A6 s.elses.length a6]) (t := 38) ?hr ?_; (case hd => rfl); (case hg => rfl); (case hr => first | (go_simp; done) | (go_simp; rfl)); intro g2 hgE_ W1 hbox_ hb_; have GEg2 := Aside0.mk (show w.heap.size ≤ g2 from Nat.le_of_eq hgE_.symm); have HB := Aside0.mk hb_; have BKg2 := Aside0.mk hbox_; have cg2_0 : W1.cell? ⟨g2, 0, none⟩ = some (.int .i64 s.does) := (blk_cell BKg2.out 0).trans rfl; have cg2_1 : W1.cell? ⟨g2, 1, none⟩ = some (.int .i64 s.pos.line) := (blk_cell BKg2.out 1).trans rfl; have cg2_2 : W1.cell? ⟨g2, 2, none⟩ = some (.int .i64 s.pos.col) := (blk_cell BKg2.out 2).trans rfl; have cg2_3 : W1.cell? ⟨g2, 3, none⟩ = some (.string s.name) := (blk_cell BKg2.out 3).trans rfl; have cg2_4 : W1.cell? ⟨g2, 4, none⟩ = some (.slice A4 s.es.length a4) := (blk_cell BKg2.out 4).trans rfl; have cg2_5 : W1.cell? ⟨g2, 5, none⟩ = some (.slice A5 s.thens.length a5) := (blk_cell BKg2.out 5).trans rfl; have cg2_6 : W1.cell? ⟨g2, 6, none⟩ = some (.slice A6 s.elses.length a6) := (blk_cell BKg2.out 6).trans rfl; clear hb_ hbox_ hgE_) | (go_at_call 31; (with_reducible refine (tabs_calls k _ (by omega)).mono ?_); rintro e W2 ⟨rfl, hb_⟩; rw [← HT.out]; replace HB := Aside0.mk (below_step HB.out hb_); replace BKg2 := Aside0.mk (blk_below BKg2.out hb_); replace cg2_0 : W2.cell? ⟨g2, 0, none⟩ = some (.int .i64 s.does) := (blk_cell BKg2.out 0).trans rfl; replace cg2_1 : W2.cell? ⟨g2, 1, none⟩ = some (.int .i64 s.pos.line) := (blk_cell BKg2.out 1).trans rfl; replace cg2_2 : W2.cell? ⟨g2, 2, none⟩ = some (.int .i64 s.pos.col) := (blk_cell BKg2.out 2).trans rfl; replace cg2_3 : W2.cell? ⟨g2, 3, none⟩ = some (.string s.name) := (blk_cell BKg2.out 3).trans rfl; replace cg2_4 : W2.cell? ⟨g2, 4, none⟩ = some (.slice A4 s.es.length a4) := (blk_cell BKg2.out 4).trans rfl; replace cg2_5 : W2.cell? ⟨g2, 5, none⟩ = some (.slice A5 s.thens.length a5) := (blk_cell BKg2.out 5).trans rfl; replace cg2_6 : W2.cell? ⟨g2, 6, none⟩ = some (.slice A6 s.elses.length a6) := (blk_cell BKg2.out 6).trans rfl; clear hb_ ))
  have KS2 := Aside0.mk (kStmt.K_below HB.out KS.out)
  have hgW := Aside0.mk (hg.below hg.size HB.out)
  have HC52 := Aside0.mk (Kd.C_below HC5.out HB.out)
  have HC62 := Aside0.mk (Kd.C_below HC6.out HB.out)
  have c_0 := cg2_0
  have c_1 := cg2_1
  have c_2 := cg2_2
  have c_3 := cg2_3
  have c_4 := cg2_4
  have c_5 := cg2_5
  have c_6 := cg2_6
  clear cg2_0 cg2_1 cg2_2 cg2_3 cg2_4 cg2_5 cg2_6 KS HC5 HC6
  refine start_ (n := 11) (S := fun w' => w'.cell? ⟨g2, 0, none⟩ = some (.int .i64 s.does) ∧ w'.cell? ⟨g2, 1, none⟩ = some (.int .i64 s.pos.line) ∧ w'.cell? ⟨g2, 2, none⟩ = some (.int .i64 s.pos.col) ∧ w'.cell? ⟨g2, 3, none⟩ = some (.string s.name) ∧ w'.cell? ⟨g2, 4, none⟩ = some (.slice A4 s.es.length a4) ∧ w'.cell? ⟨g2, 5, none⟩ = some (.slice A5 s.thens.length a5) ∧ w'.cell? ⟨g2, 6, none⟩ = some (.slice A6 s.elses.length a6)) (ds := []) #[false, false, false, false, false, false, false, false, false, false, false] (by kernel_rfl) rfl rfl ⟨c_0, c_1, c_2, c_3, c_4, c_5, c_6⟩ (fun hHeld => ?_)
  refine pure_ (i := 0) (N := some 15) (v := ?_) (a' := ?_) #[true, false, false, false, false, false, false, false, false, false, false] rfl rfl (by kernel_rfl) (fun _ _ _ h => h) (Or.inl ⟨by rfl, ?_⟩) ?_ ?_
  rotate_left
  · intro w'
    go_simp
    with_reducible rfl
  rotate_left
  · simp only [Act.put, List.setIfInBounds_toArray, List.set_cons_zero, List.set_cons_succ, i64_w, i32_w]
    rfl
  refine pure_ (i := 1) (N := some 16) (v := ?_) (a' := ?_) #[true, true, false, false, false, false, false, false, false, false, false] rfl rfl (by kernel_rfl) (fun _ _ _ h => h) (Or.inl ⟨by rfl, ?_⟩) ?_ ?_
  rotate_left
  · intro w'
    go_simp
    with_reducible rfl
  rotate_left
  · simp only [Act.put, List.setIfInBounds_toArray, List.set_cons_zero, List.set_cons_succ, i64_w, i32_w]
    rfl
  refine pure_ (i := 2) (N := some 17) (v := ?_) (a' := ?_) #[true, true, true, false, false, false, false, false, false, false, false] rfl rfl (by kernel_rfl) (fun _ _ _ h => h) (Or.inl ⟨by rfl, ?_⟩) ?_ ?_
  rotate_left
  · intro w'
    go_simp
    with_reducible rfl
  rotate_left
  · simp only [Act.put, List.setIfInBounds_toArray, List.set_cons_zero, List.set_cons_succ, i64_w, i32_w]
    rfl
  refine take_ (i := 3) (N := some 18) (v := ?_) (a' := ?_) #[true, true, true, true, false, false, false, false, false, false, false] rfl rfl (by kernel_rfl) (fun _ _ _ h => h) (Or.inl ⟨by rfl, ?_⟩) hHeld ?_ ?_
  rotate_left
  · rintro w' ⟨s0, s1, s2, s3, s4, s5, s6⟩
    go_simp
    with_reducible rfl
  rotate_left
  · simp only [Act.put, List.setIfInBounds_toArray, List.set_cons_zero, List.set_cons_succ, i64_w, i32_w]
    rfl
  refine pure_ (i := 4) (N := some 19) (v := ?_) (a' := ?_) #[true, true, true, true, true, false, false, false, false, false, false] rfl rfl (by kernel_rfl) (fun _ _ _ h => h) (Or.inl ⟨by rfl, ?_⟩) ?_ ?_
  rotate_left
  · intro w'
    go_simp
    with_reducible rfl
  rotate_left
  · simp only [Act.put, List.setIfInBounds_toArray, List.set_cons_zero, List.set_cons_succ, i64_w, i32_w]
    rfl
  refine pure_ (i := 5) (N := some 20) (v := ?_) (a' := ?_) #[true, true, true, true, true, true, false, false, false, false, false] rfl rfl (by kernel_rfl) (fun _ _ _ h => h) (Or.inl ⟨by rfl, ?_⟩) ?_ ?_
  rotate_left
  · intro w'
    go_simp
    with_reducible rfl
  rotate_left
  · simp only [Act.put, List.setIfInBounds_toArray, List.set_cons_zero, List.set_cons_succ, i64_w, i32_w]
    rfl
  refine take_ (i := 6) (N := some 21) (v := ?_) (a' := ?_) #[true, true, true, true, true, true, true, false, false, false, false] rfl rfl (by kernel_rfl) (fun _ _ _ h => h) (Or.inl ⟨by rfl, ?_⟩) hHeld ?_ ?_
  rotate_left
  · rintro w' ⟨s0, s1, s2, s3, s4, s5, s6⟩
    go_simp
    with_reducible rfl
  rotate_left
  · simp only [Act.put, List.setIfInBounds_toArray, List.set_cons_zero, List.set_cons_succ, i64_w, i32_w]
    rfl
  refine one_ (i := 7) (N := some 22) #[true, true, true, true, true, true, true, true, false, false, false] rfl rfl (by kernel_rfl) (by decide) (fun K hK => ?_)
  refine goes_ Tryd.func32 (by kernel_rfl) rfl #[.agg #[.int .i64 s.does, .int .i64 s.pos.line, .int .i64 s.pos.col, .string s.name, .slice A4 s.es.length a4, .slice A5 s.thens.length a5, .slice A6 s.elses.length a6], .int .i64 0] (by rfl) rfl rfl (by simp only [List.map_toArray, List.map_cons, List.map_nil]; rfl) ?_
  with_reducible refine (at_calls s 0 _ _ (kStmt.K_below (below_drew1 (Below.refl _ _)) KS2.out) (hgW.out.below (Glob.size hgW.out) (below_drew1 (Below.refl _ _))) (by decide) HF.out).mono ?_
  rintro e w3 ⟨rfl, hb3⟩
  refine ⟨_, rfl, ?_⟩
  rw [← HZ0.out]
  have hc1 := Lib.hid hb3
  refine hK.out _ _ ⟨below_cell hb3 (Nat.le_refl _) (hHeld.1), below_cell hb3 (Nat.le_refl _) (hHeld.2.1), below_cell hb3 (Nat.le_refl _) (hHeld.2.2.1), below_cell hb3 (Nat.le_refl _) (hHeld.2.2.2.1), below_cell hb3 (Nat.le_refl _) (hHeld.2.2.2.2.1), below_cell hb3 (Nat.le_refl _) (hHeld.2.2.2.2.2.1), below_cell hb3 (Nat.le_refl _) (hHeld.2.2.2.2.2.2)⟩ (fun hHeld => ?_)
  clear hK K
  refine norm_ (a' := ?_) ?_ ?_
  rotate_left
  · show Act.put _ (some 22) _ = _
    simp only [Act.put, List.setIfInBounds_toArray, List.set_cons_zero, List.set_cons_succ, i64_w, i32_w]
    rfl
  refine pure_ (i := 8) (N := some 23) (v := ?_) (a' := ?_) #[true, true, true, true, true, true, true, true, true, false, false] rfl rfl (by kernel_rfl) (fun _ _ _ h => h) (Or.inl ⟨by rfl, ?_⟩) ?_ ?_
  rotate_left
  · intro w'
    go_simp
    with_reducible rfl
  rotate_left
  · simp only [Act.put, List.setIfInBounds_toArray, List.set_cons_zero, List.set_cons_succ, i64_w, i32_w]
    rfl
  refine pure_ (i := 9) (N := some 24) (v := ?_) (a' := ?_) #[true, true, true, true, true, true, true, true, true, true, false] rfl rfl (by kernel_rfl) (fun _ _ _ h => h) (Or.inl ⟨by rfl, ?_⟩) ?_ ?_
  rotate_left
  · intro w'
    go_simp
    with_reducible rfl
  rotate_left
  · simp only [Act.put, List.setIfInBounds_toArray, List.set_cons_zero, List.set_cons_succ, i64_w, i32_w]
    rfl
  refine pure_ (i := 10) (N := some 4) (v := ?_) (a' := ?_) #[true, true, true, true, true, true, true, true, true, true, true] rfl rfl (by kernel_rfl) (fun _ _ _ h => h) (Or.inl ⟨by rfl, ?_⟩) ?_ ?_
  rotate_left
  · intro w'
    go_simp
    with_reducible rfl
  rotate_left
  · simp only [Act.put, List.setIfInBounds_toArray, List.set_cons_zero, List.set_cons_succ, i64_w, i32_w]
    rfl
  refine done_ (by kernel_rfl) ?_
  replace HB := Aside0.mk (below_step HB.out (below_undrew hc1.out))
  go_wp2
  go_ret
  refine ⟨ret_str ?_, HB.out⟩
  rw [HST.out]
  simp only [← bs_add, ← bs_of, ← HT.out, ← HZ0.out]
  rfl
set_option maxRecDepth 100000 in
set_option maxHeartbeats 3200000 in
theorem st_set (s : Stmt) (d : Int) (cs : List Value) (w : World) (hs : kStmt.K w s cs) (hg : Glob w) (hf : SFit s d.toNat) (hc : s.does = 2) :
    Calls Tryd.prog 16 #[.agg cs.toArray, .int .i64 d] w fun e w' => e = .returned (.string (bs (stext s d.toNat))) ∧ Below w.heap.size w w' := by
  have KS := Aside0.mk hs
  obtain ⟨A4, a4, A5, a5, A6, a6, rfl, el4, eg4, el5, eg5, el6, eg6⟩ := kStmt_open hs
  have k1 : (s.does == 1) = false := by rw [hc]; rfl
  have k2 : (s.does == 2) = true := by rw [hc]; rfl
  obtain ⟨k, hk⟩ : ∃ k : Nat, k = d.toNat := ⟨_, rfl⟩
  have hmax : max 0 d = (k : Int) := by omega
  rw [← hk] at hf ⊢
  clear hk hs
  obtain ⟨hl, hd, hes, hT, hE⟩ := hf.open
  have hst : stext s k = tabs k ++ s.name.data.toList ++ [32, 61, 32] ++ atL s.es 0 ++ [59, 10] := by rw [stext_eq, if_neg (by rw [hc]; decide), if_pos hc]
  rw [hst] at hl
  simp only [List.length_append, List.length_cons, List.length_nil, size_toList] at hl
  obtain ⟨T, hT_⟩ : ∃ T, T = bs (tabs k) := ⟨_, rfl⟩
  have sT : T.size = (tabs k).length := by rw [hT_, bs_size]
  obtain ⟨Z0, hZ0_⟩ : ∃ T, T = bs (atL s.es 0) := ⟨_, rfl⟩
  have sZ0 : Z0.size = (atL s.es 0).length := by rw [hZ0_, bs_size]
  have hz0 : ¬ 9223372036854775807 < T.size + s.name.size := by omega
  have hz1 : ¬ 9223372036854775807 < T.size + s.name.size + 3 := by omega
  have hz2 : ¬ 9223372036854775807 < T.size + s.name.size + 3 + Z0.size := by omega
  have hz3 : ¬ 9223372036854775807 < T.size + s.name.size + 3 + Z0.size + 2 := by omega
  have HST := Lib.hid hst
  have HT := Lib.hid hT_
  have HZ0 := Lib.hid hZ0_
  have HF := Aside0.mk hes
  have HC5 := Aside0.mk eg5
  have HC6 := Aside0.mk eg6
  clear hst hT_ hes hl hT hE hf el4 eg4 el5 eg5 el6 eg6 sT hZ0_ sZ0 hc
  go_enter Tryd.func16, Tryd.ntmps16
  go_wp2_with (first | ((with_reducible refine gate_dst (N := 2) rfl ?_); refine box_event ?hg (N := 2) ?hd (cs := #[.int .i64 s.does, .int .i64 s.pos.line, .int .i64 s.pos.col, .string s.name, .slice A4 s.es.length a4, .slice A5 s.thens.length a5, .slice A6 s.elses.length a6]) (t := 38) ?hr ?_; (case hd => rfl); (case hg => rfl); (case hr => first | (go_simp; done) | (go_simp; rfl)); intro g2 hgE_ W1 hbox_ hb_; have GEg2 := Aside0.mk (show w.heap.size ≤ g2 from Nat.le_of_eq hgE_.symm); have HB := Aside0.mk hb_; have BKg2 := Aside0.mk hbox_; have cg2_0 : W1.cell? ⟨g2, 0, none⟩ = some (.int .i64 s.does) := (blk_cell BKg2.out 0).trans rfl; have cg2_1 : W1.cell? ⟨g2, 1, none⟩ = some (.int .i64 s.pos.line) := (blk_cell BKg2.out 1).trans rfl; have cg2_2 : W1.cell? ⟨g2, 2, none⟩ = some (.int .i64 s.pos.col) := (blk_cell BKg2.out 2).trans rfl; have cg2_3 : W1.cell? ⟨g2, 3, none⟩ = some (.string s.name) := (blk_cell BKg2.out 3).trans rfl; have cg2_4 : W1.cell? ⟨g2, 4, none⟩ = some (.slice A4 s.es.length a4) := (blk_cell BKg2.out 4).trans rfl; have cg2_5 : W1.cell? ⟨g2, 5, none⟩ = some (.slice A5 s.thens.length a5) := (blk_cell BKg2.out 5).trans rfl; have cg2_6 : W1.cell? ⟨g2, 6, none⟩ = some (.slice A6 s.elses.length a6) := (blk_cell BKg2.out 6).trans rfl; clear hb_ hbox_ hgE_) | (go_at_call 31; (with_reducible refine (tabs_calls k _ (by omega)).mono ?_); rintro e W2 ⟨rfl, hb_⟩; rw [← HT.out]; replace HB := Aside0.mk (below_step HB.out hb_); replace BKg2 := Aside0.mk (blk_below BKg2.out hb_); replace cg2_0 : W2.cell? ⟨g2, 0, none⟩ = some (.int .i64 s.does) := (blk_cell BKg2.out 0).trans rfl; replace cg2_1 : W2.cell? ⟨g2, 1, none⟩ = some (.int .i64 s.pos.line) := (blk_cell BKg2.out 1).trans rfl; replace cg2_2 : W2.cell? ⟨g2, 2, none⟩ = some (.int .i64 s.pos.col) := (blk_cell BKg2.out 2).trans rfl; replace cg2_3 : W2.cell? ⟨g2, 3, none⟩ = some (.string s.name) := (blk_cell BKg2.out 3).trans rfl; replace cg2_4 : W2.cell? ⟨g2, 4, none⟩ = some (.slice A4 s.es.length a4) := (blk_cell BKg2.out 4).trans rfl; replace cg2_5 : W2.cell? ⟨g2, 5, none⟩ = some (.slice A5 s.thens.length a5) := (blk_cell BKg2.out 5).trans rfl; replace cg2_6 : W2.cell? ⟨g2, 6, none⟩ = some (.slice A6 s.elses.length a6) := (blk_cell BKg2.out 6).trans rfl; clear hb_ ))
  have KS2 := Aside0.mk (kStmt.K_below HB.out KS.out)
  have hgW := Aside0.mk (hg.below hg.size HB.out)
  have HC52 := Aside0.mk (Kd.C_below HC5.out HB.out)
  have HC62 := Aside0.mk (Kd.C_below HC6.out HB.out)
  have c_0 := cg2_0
  have c_1 := cg2_1
  have c_2 := cg2_2
  have c_3 := cg2_3
  have c_4 := cg2_4
  have c_5 := cg2_5
  have c_6 := cg2_6
  clear cg2_0 cg2_1 cg2_2 cg2_3 cg2_4 cg2_5 cg2_6 KS HC5 HC6
  refine start_ (n := 10) (S := fun w' => w'.cell? ⟨g2, 0, none⟩ = some (.int .i64 s.does) ∧ w'.cell? ⟨g2, 1, none⟩ = some (.int .i64 s.pos.line) ∧ w'.cell? ⟨g2, 2, none⟩ = some (.int .i64 s.pos.col) ∧ w'.cell? ⟨g2, 3, none⟩ = some (.string s.name) ∧ w'.cell? ⟨g2, 4, none⟩ = some (.slice A4 s.es.length a4) ∧ w'.cell? ⟨g2, 5, none⟩ = some (.slice A5 s.thens.length a5) ∧ w'.cell? ⟨g2, 6, none⟩ = some (.slice A6 s.elses.length a6)) (ds := []) #[false, false, false, false, false, false, false, false, false, false] (by kernel_rfl) rfl rfl ⟨c_0, c_1, c_2, c_3, c_4, c_5, c_6⟩ (fun hHeld => ?_)
  refine pure_ (i := 0) (N := some 27) (v := ?_) (a' := ?_) #[true, false, false, false, false, false, false, false, false, false] rfl rfl (by kernel_rfl) (fun _ _ _ h => h) (Or.inl ⟨by rfl, ?_⟩) ?_ ?_
  rotate_left
  · intro w'
    go_simp
    with_reducible rfl
  rotate_left
  · simp only [Act.put, List.setIfInBounds_toArray, List.set_cons_zero, List.set_cons_succ, i64_w, i32_w]
    rfl
  refine pure_ (i := 1) (N := some 28) (v := ?_) (a' := ?_) #[true, true, false, false, false, false, false, false, false, false] rfl rfl (by kernel_rfl) (fun _ _ _ h => h) (Or.inl ⟨by rfl, ?_⟩) ?_ ?_
  rotate_left
  · intro w'
    go_simp
    with_reducible rfl
  rotate_left
  · simp only [Act.put, List.setIfInBounds_toArray, List.set_cons_zero, List.set_cons_succ, i64_w, i32_w]
    rfl
  refine take_ (i := 2) (N := some 29) (v := ?_) (a' := ?_) #[true, true, true, false, false, false, false, false, false, false] rfl rfl (by kernel_rfl) (fun _ _ _ h => h) (Or.inl ⟨by rfl, ?_⟩) hHeld ?_ ?_
  rotate_left
  · rintro w' ⟨s0, s1, s2, s3, s4, s5, s6⟩
    go_simp
    with_reducible rfl
  rotate_left
  · simp only [Act.put, List.setIfInBounds_toArray, List.set_cons_zero, List.set_cons_succ, i64_w, i32_w]
    rfl
  refine pure_ (i := 3) (N := some 30) (v := ?_) (a' := ?_) #[true, true, true, true, false, false, false, false, false, false] rfl rfl (by kernel_rfl) (fun _ _ _ h => h) (Or.inl ⟨by rfl, ?_⟩) ?_ ?_
  rotate_left
  · intro w'
    go_simp
    with_reducible rfl
  rotate_left
  · simp only [Act.put, List.setIfInBounds_toArray, List.set_cons_zero, List.set_cons_succ, i64_w, i32_w]
    rfl
  refine pure_ (i := 4) (N := some 31) (v := ?_) (a' := ?_) #[true, true, true, true, true, false, false, false, false, false] rfl rfl (by kernel_rfl) (fun _ _ _ h => h) (Or.inl ⟨by rfl, ?_⟩) ?_ ?_
  rotate_left
  · intro w'
    go_simp
    with_reducible rfl
  rotate_left
  · simp only [Act.put, List.setIfInBounds_toArray, List.set_cons_zero, List.set_cons_succ, i64_w, i32_w]
    rfl
  refine take_ (i := 5) (N := some 32) (v := ?_) (a' := ?_) #[true, true, true, true, true, true, false, false, false, false] rfl rfl (by kernel_rfl) (fun _ _ _ h => h) (Or.inl ⟨by rfl, ?_⟩) hHeld ?_ ?_
  rotate_left
  · rintro w' ⟨s0, s1, s2, s3, s4, s5, s6⟩
    go_simp
    with_reducible rfl
  rotate_left
  · simp only [Act.put, List.setIfInBounds_toArray, List.set_cons_zero, List.set_cons_succ, i64_w, i32_w]
    rfl
  refine one_ (i := 6) (N := some 33) #[true, true, true, true, true, true, true, false, false, false] rfl rfl (by kernel_rfl) (by decide) (fun K hK => ?_)
  refine goes_ Tryd.func32 (by kernel_rfl) rfl #[.agg #[.int .i64 s.does, .int .i64 s.pos.line, .int .i64 s.pos.col, .string s.name, .slice A4 s.es.length a4, .slice A5 s.thens.length a5, .slice A6 s.elses.length a6], .int .i64 0] (by rfl) rfl rfl (by simp only [List.map_toArray, List.map_cons, List.map_nil]; rfl) ?_
  with_reducible refine (at_calls s 0 _ _ (kStmt.K_below (below_drew1 (Below.refl _ _)) KS2.out) (hgW.out.below (Glob.size hgW.out) (below_drew1 (Below.refl _ _))) (by decide) HF.out).mono ?_
  rintro e w3 ⟨rfl, hb3⟩
  refine ⟨_, rfl, ?_⟩
  rw [← HZ0.out]
  have hc1 := Lib.hid hb3
  refine hK.out _ _ ⟨below_cell hb3 (Nat.le_refl _) (hHeld.1), below_cell hb3 (Nat.le_refl _) (hHeld.2.1), below_cell hb3 (Nat.le_refl _) (hHeld.2.2.1), below_cell hb3 (Nat.le_refl _) (hHeld.2.2.2.1), below_cell hb3 (Nat.le_refl _) (hHeld.2.2.2.2.1), below_cell hb3 (Nat.le_refl _) (hHeld.2.2.2.2.2.1), below_cell hb3 (Nat.le_refl _) (hHeld.2.2.2.2.2.2)⟩ (fun hHeld => ?_)
  clear hK K
  refine norm_ (a' := ?_) ?_ ?_
  rotate_left
  · show Act.put _ (some 33) _ = _
    simp only [Act.put, List.setIfInBounds_toArray, List.set_cons_zero, List.set_cons_succ, i64_w, i32_w]
    rfl
  refine pure_ (i := 7) (N := some 34) (v := ?_) (a' := ?_) #[true, true, true, true, true, true, true, true, false, false] rfl rfl (by kernel_rfl) (fun _ _ _ h => h) (Or.inl ⟨by rfl, ?_⟩) ?_ ?_
  rotate_left
  · intro w'
    go_simp
    with_reducible rfl
  rotate_left
  · simp only [Act.put, List.setIfInBounds_toArray, List.set_cons_zero, List.set_cons_succ, i64_w, i32_w]
    rfl
  refine pure_ (i := 8) (N := some 35) (v := ?_) (a' := ?_) #[true, true, true, true, true, true, true, true, true, false] rfl rfl (by kernel_rfl) (fun _ _ _ h => h) (Or.inl ⟨by rfl, ?_⟩) ?_ ?_
  rotate_left
  · intro w'
    go_simp
    with_reducible rfl
  rotate_left
  · simp only [Act.put, List.setIfInBounds_toArray, List.set_cons_zero, List.set_cons_succ, i64_w, i32_w]
    rfl
  refine pure_ (i := 9) (N := some 4) (v := ?_) (a' := ?_) #[true, true, true, true, true, true, true, true, true, true] rfl rfl (by kernel_rfl) (fun _ _ _ h => h) (Or.inl ⟨by rfl, ?_⟩) ?_ ?_
  rotate_left
  · intro w'
    go_simp
    with_reducible rfl
  rotate_left
  · simp only [Act.put, List.setIfInBounds_toArray, List.set_cons_zero, List.set_cons_succ, i64_w, i32_w]
    rfl
  refine done_ (by kernel_rfl) ?_
  replace HB := Aside0.mk (below_step HB.out (below_undrew hc1.out))
  go_wp2
  go_ret
  refine ⟨ret_str ?_, HB.out⟩
  rw [HST.out]
  simp only [← bs_add, ← bs_of, ← HT.out, ← HZ0.out]
  rfl
set_option maxRecDepth 100000 in
set_option maxHeartbeats 3200000 in
theorem st_put (s : Stmt) (d : Int) (cs : List Value) (w : World) (hs : kStmt.K w s cs) (hg : Glob w) (hf : SFit s d.toNat) (hc : s.does = 3) :
    Calls Tryd.prog 16 #[.agg cs.toArray, .int .i64 d] w fun e w' => e = .returned (.string (bs (stext s d.toNat))) ∧ Below w.heap.size w w' := by
  have KS := Aside0.mk hs
  obtain ⟨A4, a4, A5, a5, A6, a6, rfl, el4, eg4, el5, eg5, el6, eg6⟩ := kStmt_open hs
  have k1 : (s.does == 1) = false := by rw [hc]; rfl
  have k2 : (s.does == 2) = false := by rw [hc]; rfl
  have k3 : (s.does == 3) = true := by rw [hc]; rfl
  obtain ⟨k, hk⟩ : ∃ k : Nat, k = d.toNat := ⟨_, rfl⟩
  have hmax : max 0 d = (k : Int) := by omega
  rw [← hk] at hf ⊢
  clear hk hs
  obtain ⟨hl, hd, hes, hT, hE⟩ := hf.open
  have hst : stext s k = tabs k ++ s.name.data.toList ++ [91] ++ atL s.es 0 ++ [93, 32, 61, 32] ++ atL s.es 1 ++ [59, 10] := by rw [stext_eq, if_neg (by rw [hc]; decide), if_neg (by rw [hc]; decide), if_pos hc]
  rw [hst] at hl
  simp only [List.length_append, List.length_cons, List.length_nil, size_toList] at hl
  obtain ⟨T, hT_⟩ : ∃ T, T = bs (tabs k) := ⟨_, rfl⟩
  have sT : T.size = (tabs k).length := by rw [hT_, bs_size]
  obtain ⟨Z0, hZ0_⟩ : ∃ T, T = bs (atL s.es 0) := ⟨_, rfl⟩
  have sZ0 : Z0.size = (atL s.es 0).length := by rw [hZ0_, bs_size]
  obtain ⟨Z1, hZ1_⟩ : ∃ T, T = bs (atL s.es 1) := ⟨_, rfl⟩
  have sZ1 : Z1.size = (atL s.es 1).length := by rw [hZ1_, bs_size]
  have hz0 : ¬ 9223372036854775807 < T.size + s.name.size := by omega
  have hz1 : ¬ 9223372036854775807 < T.size + s.name.size + 1 := by omega
  have hz2 : ¬ 9223372036854775807 < T.size + s.name.size + 1 + Z0.size := by omega
  have hz3 : ¬ 9223372036854775807 < T.size + s.name.size + 1 + Z0.size + 4 := by omega
  have hz4 : ¬ 9223372036854775807 < T.size + s.name.size + 1 + Z0.size + 4 + Z1.size := by omega
  have hz5 : ¬ 9223372036854775807 < T.size + s.name.size + 1 + Z0.size + 4 + Z1.size + 2 := by omega
  have HST := Lib.hid hst
  have HT := Lib.hid hT_
  have HZ0 := Lib.hid hZ0_
  have HZ1 := Lib.hid hZ1_
  have HF := Aside0.mk hes
  have HC5 := Aside0.mk eg5
  have HC6 := Aside0.mk eg6
  clear hst hT_ hes hl hT hE hf el4 eg4 el5 eg5 el6 eg6 sT hZ0_ sZ0 hZ1_ sZ1 hc
  go_enter Tryd.func16, Tryd.ntmps16
  go_wp2_with (first | ((with_reducible refine gate_dst (N := 2) rfl ?_); refine box_event ?hg (N := 2) ?hd (cs := #[.int .i64 s.does, .int .i64 s.pos.line, .int .i64 s.pos.col, .string s.name, .slice A4 s.es.length a4, .slice A5 s.thens.length a5, .slice A6 s.elses.length a6]) (t := 38) ?hr ?_; (case hd => rfl); (case hg => rfl); (case hr => first | (go_simp; done) | (go_simp; rfl)); intro g2 hgE_ W1 hbox_ hb_; have GEg2 := Aside0.mk (show w.heap.size ≤ g2 from Nat.le_of_eq hgE_.symm); have HB := Aside0.mk hb_; have BKg2 := Aside0.mk hbox_; have cg2_0 : W1.cell? ⟨g2, 0, none⟩ = some (.int .i64 s.does) := (blk_cell BKg2.out 0).trans rfl; have cg2_1 : W1.cell? ⟨g2, 1, none⟩ = some (.int .i64 s.pos.line) := (blk_cell BKg2.out 1).trans rfl; have cg2_2 : W1.cell? ⟨g2, 2, none⟩ = some (.int .i64 s.pos.col) := (blk_cell BKg2.out 2).trans rfl; have cg2_3 : W1.cell? ⟨g2, 3, none⟩ = some (.string s.name) := (blk_cell BKg2.out 3).trans rfl; have cg2_4 : W1.cell? ⟨g2, 4, none⟩ = some (.slice A4 s.es.length a4) := (blk_cell BKg2.out 4).trans rfl; have cg2_5 : W1.cell? ⟨g2, 5, none⟩ = some (.slice A5 s.thens.length a5) := (blk_cell BKg2.out 5).trans rfl; have cg2_6 : W1.cell? ⟨g2, 6, none⟩ = some (.slice A6 s.elses.length a6) := (blk_cell BKg2.out 6).trans rfl; clear hb_ hbox_ hgE_) | (go_at_call 31; (with_reducible refine (tabs_calls k _ (by omega)).mono ?_); rintro e W2 ⟨rfl, hb_⟩; rw [← HT.out]; replace HB := Aside0.mk (below_step HB.out hb_); replace BKg2 := Aside0.mk (blk_below BKg2.out hb_); replace cg2_0 : W2.cell? ⟨g2, 0, none⟩ = some (.int .i64 s.does) := (blk_cell BKg2.out 0).trans rfl; replace cg2_1 : W2.cell? ⟨g2, 1, none⟩ = some (.int .i64 s.pos.line) := (blk_cell BKg2.out 1).trans rfl; replace cg2_2 : W2.cell? ⟨g2, 2, none⟩ = some (.int .i64 s.pos.col) := (blk_cell BKg2.out 2).trans rfl; replace cg2_3 : W2.cell? ⟨g2, 3, none⟩ = some (.string s.name) := (blk_cell BKg2.out 3).trans rfl; replace cg2_4 : W2.cell? ⟨g2, 4, none⟩ = some (.slice A4 s.es.length a4) := (blk_cell BKg2.out 4).trans rfl; replace cg2_5 : W2.cell? ⟨g2, 5, none⟩ = some (.slice A5 s.thens.length a5) := (blk_cell BKg2.out 5).trans rfl; replace cg2_6 : W2.cell? ⟨g2, 6, none⟩ = some (.slice A6 s.elses.length a6) := (blk_cell BKg2.out 6).trans rfl; clear hb_ ))
  have KS2 := Aside0.mk (kStmt.K_below HB.out KS.out)
  have hgW := Aside0.mk (hg.below hg.size HB.out)
  have HC52 := Aside0.mk (Kd.C_below HC5.out HB.out)
  have HC62 := Aside0.mk (Kd.C_below HC6.out HB.out)
  have c_0 := cg2_0
  have c_1 := cg2_1
  have c_2 := cg2_2
  have c_3 := cg2_3
  have c_4 := cg2_4
  have c_5 := cg2_5
  have c_6 := cg2_6
  clear cg2_0 cg2_1 cg2_2 cg2_3 cg2_4 cg2_5 cg2_6 KS HC5 HC6
  refine start_ (n := 14) (S := fun w' => w'.cell? ⟨g2, 0, none⟩ = some (.int .i64 s.does) ∧ w'.cell? ⟨g2, 1, none⟩ = some (.int .i64 s.pos.line) ∧ w'.cell? ⟨g2, 2, none⟩ = some (.int .i64 s.pos.col) ∧ w'.cell? ⟨g2, 3, none⟩ = some (.string s.name) ∧ w'.cell? ⟨g2, 4, none⟩ = some (.slice A4 s.es.length a4) ∧ w'.cell? ⟨g2, 5, none⟩ = some (.slice A5 s.thens.length a5) ∧ w'.cell? ⟨g2, 6, none⟩ = some (.slice A6 s.elses.length a6)) (ds := []) #[false, false, false, false, false, false, false, false, false, false, false, false, false, false] (by kernel_rfl) rfl rfl ⟨c_0, c_1, c_2, c_3, c_4, c_5, c_6⟩ (fun hHeld => ?_)
  refine pure_ (i := 0) (N := some 38) (v := ?_) (a' := ?_) #[true, false, false, false, false, false, false, false, false, false, false, false, false, false] rfl rfl (by kernel_rfl) (fun _ _ _ h => h) (Or.inl ⟨by rfl, ?_⟩) ?_ ?_
  rotate_left
  · intro w'
    go_simp
    with_reducible rfl
  rotate_left
  · simp only [Act.put, List.setIfInBounds_toArray, List.set_cons_zero, List.set_cons_succ, i64_w, i32_w]
    rfl
  refine pure_ (i := 1) (N := some 39) (v := ?_) (a' := ?_) #[true, true, false, false, false, false, false, false, false, false, false, false, false, false] rfl rfl (by kernel_rfl) (fun _ _ _ h => h) (Or.inl ⟨by rfl, ?_⟩) ?_ ?_
  rotate_left
  · intro w'
    go_simp
    with_reducible rfl
  rotate_left
  · simp only [Act.put, List.setIfInBounds_toArray, List.set_cons_zero, List.set_cons_succ, i64_w, i32_w]
    rfl
  refine take_ (i := 2) (N := some 40) (v := ?_) (a' := ?_) #[true, true, true, false, false, false, false, false, false, false, false, false, false, false] rfl rfl (by kernel_rfl) (fun _ _ _ h => h) (Or.inl ⟨by rfl, ?_⟩) hHeld ?_ ?_
  rotate_left
  · rintro w' ⟨s0, s1, s2, s3, s4, s5, s6⟩
    go_simp
    with_reducible rfl
  rotate_left
  · simp only [Act.put, List.setIfInBounds_toArray, List.set_cons_zero, List.set_cons_succ, i64_w, i32_w]
    rfl
  refine pure_ (i := 3) (N := some 41) (v := ?_) (a' := ?_) #[true, true, true, true, false, false, false, false, false, false, false, false, false, false] rfl rfl (by kernel_rfl) (fun _ _ _ h => h) (Or.inl ⟨by rfl, ?_⟩) ?_ ?_
  rotate_left
  · intro w'
    go_simp
    with_reducible rfl
  rotate_left
  · simp only [Act.put, List.setIfInBounds_toArray, List.set_cons_zero, List.set_cons_succ, i64_w, i32_w]
    rfl
  refine pure_ (i := 4) (N := some 42) (v := ?_) (a' := ?_) #[true, true, true, true, true, false, false, false, false, false, false, false, false, false] rfl rfl (by kernel_rfl) (fun _ _ _ h => h) (Or.inl ⟨by rfl, ?_⟩) ?_ ?_
  rotate_left
  · intro w'
    go_simp
    with_reducible rfl
  rotate_left
  · simp only [Act.put, List.setIfInBounds_toArray, List.set_cons_zero, List.set_cons_succ, i64_w, i32_w]
    rfl
  refine take_ (i := 5) (N := some 43) (v := ?_) (a' := ?_) #[true, true, true, true, true, true, false, false, false, false, false, false, false, false] rfl rfl (by kernel_rfl) (fun _ _ _ h => h) (Or.inl ⟨by rfl, ?_⟩) hHeld ?_ ?_
  rotate_left
  · rintro w' ⟨s0, s1, s2, s3, s4, s5, s6⟩
    go_simp
    with_reducible rfl
  rotate_left
  · simp only [Act.put, List.setIfInBounds_toArray, List.set_cons_zero, List.set_cons_succ, i64_w, i32_w]
    rfl
  refine take_ (i := 9) (N := some 47) (v := ?_) (a' := ?_) #[true, true, true, true, true, true, false, false, false, true, false, false, false, false] rfl rfl (by kernel_rfl) (fun _ _ _ h => h) (Or.inl ⟨by rfl, ?_⟩) hHeld ?_ ?_
  rotate_left
  · rintro w' ⟨s0, s1, s2, s3, s4, s5, s6⟩
    go_simp
    with_reducible rfl
  rotate_left
  · simp only [Act.put, List.setIfInBounds_toArray, List.set_cons_zero, List.set_cons_succ, i64_w, i32_w]
    rfl
  refine one_ (i := 6) (N := some 44) #[true, true, true, true, true, true, true, false, false, true, false, false, false, false] rfl rfl (by kernel_rfl) (by decide) (fun K hK => ?_)
  refine goes_ Tryd.func32 (by kernel_rfl) rfl #[.agg #[.int .i64 s.does, .int .i64 s.pos.line, .int .i64 s.pos.col, .string s.name, .slice A4 s.es.length a4, .slice A5 s.thens.length a5, .slice A6 s.elses.length a6], .int .i64 0] (by rfl) rfl rfl (by simp only [List.map_toArray, List.map_cons, List.map_nil]; rfl) ?_
  with_reducible refine (at_calls s 0 _ _ (kStmt.K_below (below_drew1 (Below.refl _ _)) KS2.out) (hgW.out.below (Glob.size hgW.out) (below_drew1 (Below.refl _ _))) (by decide) HF.out).mono ?_
  rintro e w3 ⟨rfl, hb3⟩
  refine ⟨_, rfl, ?_⟩
  rw [← HZ0.out]
  have hc1 := Lib.hid hb3
  refine hK.out _ _ ⟨below_cell hb3 (Nat.le_refl _) (hHeld.1), below_cell hb3 (Nat.le_refl _) (hHeld.2.1), below_cell hb3 (Nat.le_refl _) (hHeld.2.2.1), below_cell hb3 (Nat.le_refl _) (hHeld.2.2.2.1), below_cell hb3 (Nat.le_refl _) (hHeld.2.2.2.2.1), below_cell hb3 (Nat.le_refl _) (hHeld.2.2.2.2.2.1), below_cell hb3 (Nat.le_refl _) (hHeld.2.2.2.2.2.2)⟩ (fun hHeld => ?_)
  clear hK K
  refine norm_ (a' := ?_) ?_ ?_
  rotate_left
  · show Act.put _ (some 44) _ = _
    simp only [Act.put, List.setIfInBounds_toArray, List.set_cons_zero, List.set_cons_succ, i64_w, i32_w]
    rfl
  refine pure_ (i := 7) (N := some 45) (v := ?_) (a' := ?_) #[true, true, true, true, true, true, true, true, false, true, false, false, false, false] rfl rfl (by kernel_rfl) (fun _ _ _ h => h) (Or.inl ⟨by rfl, ?_⟩) ?_ ?_
  rotate_left
  · intro w'
    go_simp
    with_reducible rfl
  rotate_left
  · simp only [Act.put, List.setIfInBounds_toArray, List.set_cons_zero, List.set_cons_succ, i64_w, i32_w]
    rfl
  refine pure_ (i := 8) (N := some 46) (v := ?_) (a' := ?_) #[true, true, true, true, true, true, true, true, true, true, false, false, false, false] rfl rfl (by kernel_rfl) (fun _ _ _ h => h) (Or.inl ⟨by rfl, ?_⟩) ?_ ?_
  rotate_left
  · intro w'
    go_simp
    with_reducible rfl
  rotate_left
  · simp only [Act.put, List.setIfInBounds_toArray, List.set_cons_zero, List.set_cons_succ, i64_w, i32_w]
    rfl
  refine one_ (i := 10) (N := some 48) #[true, true, true, true, true, true, true, true, true, true, true, false, false, false] rfl rfl (by kernel_rfl) (by decide) (fun K hK => ?_)
  refine goes_ Tryd.func32 (by kernel_rfl) rfl #[.agg #[.int .i64 s.does, .int .i64 s.pos.line, .int .i64 s.pos.col, .string s.name, .slice A4 s.es.length a4, .slice A5 s.thens.length a5, .slice A6 s.elses.length a6], .int .i64 1] (by rfl) rfl rfl (by simp only [List.map_toArray, List.map_cons, List.map_nil]; rfl) ?_
  with_reducible refine (at_calls s 1 _ _ (kStmt.K_below (below_step (below_drew1 (Below.refl _ _)) hc1.out) KS2.out) (hgW.out.below (Glob.size hgW.out) (below_step (below_drew1 (Below.refl _ _)) hc1.out)) (by decide) HF.out).mono ?_
  rintro e w3 ⟨rfl, hb3⟩
  refine ⟨_, rfl, ?_⟩
  rw [← HZ1.out]
  have hc2 := Lib.hid hb3
  refine hK.out _ _ ⟨below_cell hb3 (Nat.le_refl _) (hHeld.1), below_cell hb3 (Nat.le_refl _) (hHeld.2.1), below_cell hb3 (Nat.le_refl _) (hHeld.2.2.1), below_cell hb3 (Nat.le_refl _) (hHeld.2.2.2.1), below_cell hb3 (Nat.le_refl _) (hHeld.2.2.2.2.1), below_cell hb3 (Nat.le_refl _) (hHeld.2.2.2.2.2.1), below_cell hb3 (Nat.le_refl _) (hHeld.2.2.2.2.2.2)⟩ (fun hHeld => ?_)
  clear hK K
  refine norm_ (a' := ?_) ?_ ?_
  rotate_left
  · show Act.put _ (some 48) _ = _
    simp only [Act.put, List.setIfInBounds_toArray, List.set_cons_zero, List.set_cons_succ, i64_w, i32_w]
    rfl
  refine pure_ (i := 11) (N := some 49) (v := ?_) (a' := ?_) #[true, true, true, true, true, true, true, true, true, true, true, true, false, false] rfl rfl (by kernel_rfl) (fun _ _ _ h => h) (Or.inl ⟨by rfl, ?_⟩) ?_ ?_
  rotate_left
  · intro w'
    go_simp
    with_reducible rfl
  rotate_left
  · simp only [Act.put, List.setIfInBounds_toArray, List.set_cons_zero, List.set_cons_succ, i64_w, i32_w]
    rfl
  refine pure_ (i := 12) (N := some 50) (v := ?_) (a' := ?_) #[true, true, true, true, true, true, true, true, true, true, true, true, true, false] rfl rfl (by kernel_rfl) (fun _ _ _ h => h) (Or.inl ⟨by rfl, ?_⟩) ?_ ?_
  rotate_left
  · intro w'
    go_simp
    with_reducible rfl
  rotate_left
  · simp only [Act.put, List.setIfInBounds_toArray, List.set_cons_zero, List.set_cons_succ, i64_w, i32_w]
    rfl
  refine pure_ (i := 13) (N := some 4) (v := ?_) (a' := ?_) #[true, true, true, true, true, true, true, true, true, true, true, true, true, true] rfl rfl (by kernel_rfl) (fun _ _ _ h => h) (Or.inl ⟨by rfl, ?_⟩) ?_ ?_
  rotate_left
  · intro w'
    go_simp
    with_reducible rfl
  rotate_left
  · simp only [Act.put, List.setIfInBounds_toArray, List.set_cons_zero, List.set_cons_succ, i64_w, i32_w]
    rfl
  refine done_ (by kernel_rfl) ?_
  replace HB := Aside0.mk (below_step HB.out (below_undrew (below_step hc1.out hc2.out)))
  go_wp2
  go_ret
  refine ⟨ret_str ?_, HB.out⟩
  rw [HST.out]
  simp only [← bs_add, ← bs_of, ← HT.out, ← HZ0.out, ← HZ1.out]
  rfl
set_option maxRecDepth 100000 in
set_option maxHeartbeats 3200000 in
theorem st_while (s : Stmt) (d : Int) (cs : List Value) (w : World) (hs : kStmt.K w s cs) (hg : Glob w) (hf : SFit s d.toNat) (hc : s.does = 5)
    (ihL1 : ∀ A n c w, kStmt.C w A n s.thens → Glob w → Calls Tryd.prog 33 #[.slice A n c, .int .i64 ((d.toNat : Int) + 1)] w fun e w' => e = .returned (.string (bs (slines s.thens (d.toNat + 1)))) ∧ Below w.heap.size w w') :
    Calls Tryd.prog 16 #[.agg cs.toArray, .int .i64 d] w fun e w' => e = .returned (.string (bs (stext s d.toNat))) ∧ Below w.heap.size w w' := by
  have KS := Aside0.mk hs
  obtain ⟨A4, a4, A5, a5, A6, a6, rfl, el4, eg4, el5, eg5, el6, eg6⟩ := kStmt_open hs
  have k1 : (s.does == 1) = false := by rw [hc]; rfl
  have k2 : (s.does == 2) = false := by rw [hc]; rfl
  have k3 : (s.does == 3) = false := by rw [hc]; rfl
  have k4 : (s.does == 4) = false := by rw [hc]; rfl
  have k5 : (s.does == 5) = true := by rw [hc]; rfl
  obtain ⟨k, hk⟩ : ∃ k : Nat, k = d.toNat := ⟨_, rfl⟩
  have hmax : max 0 d = (k : Int) := by omega
  rw [← hk] at hf ihL1 ⊢
  clear hk hs
  obtain ⟨hl, hd, hes, hT, hE⟩ := hf.open
  have hst : stext s k = tabs k ++ [119, 104, 105, 108, 101, 32] ++ atL s.es 0 ++ [32, 123, 10] ++ slines s.thens (k + 1) ++ tabs k ++ [125, 10] := by rw [stext_eq, if_neg (by rw [hc]; decide), if_neg (by rw [hc]; decide), if_neg (by rw [hc]; decide), if_neg (by rw [hc]; decide), if_pos hc]
  rw [hst] at hl
  simp only [List.length_append, List.length_cons, List.length_nil, size_toList] at hl
  obtain ⟨T, hT_⟩ : ∃ T, T = bs (tabs k) := ⟨_, rfl⟩
  have sT : T.size = (tabs k).length := by rw [hT_, bs_size]
  obtain ⟨Z0, hZ0_⟩ : ∃ T, T = bs (atL s.es 0) := ⟨_, rfl⟩
  have sZ0 : Z0.size = (atL s.es 0).length := by rw [hZ0_, bs_size]
  obtain ⟨L1, hL1_⟩ : ∃ T, T = bs (slines s.thens (k + 1)) := ⟨_, rfl⟩
  have sL1 : L1.size = (slines s.thens (k + 1)).length := by rw [hL1_, bs_size]
  have hz0 : ¬ 9223372036854775807 < T.size + 6 := by omega
  have hz1 : ¬ 9223372036854775807 < T.size + 6 + Z0.size := by omega
  have hz2 : ¬ 9223372036854775807 < T.size + 6 + Z0.size + 3 := by omega
  have hz3 : ¬ 9223372036854775807 < T.size + 6 + Z0.size + 3 + L1.size := by omega
  have hz4 : ¬ 9223372036854775807 < T.size + 6 + Z0.size + 3 + L1.size + T.size := by omega
  have hz5 : ¬ 9223372036854775807 < T.size + 6 + Z0.size + 3 + L1.size + T.size + 2 := by omega
  have HST := Lib.hid hst
  have HT := Lib.hid hT_
  have HZ0 := Lib.hid hZ0_
  have HL1 := Lib.hid hL1_
  have HF := Aside0.mk hes
  have HC5 := Aside0.mk eg5
  have HC6 := Aside0.mk eg6
  clear hst hT_ hes hl hT hE hf el4 eg4 el5 eg5 el6 eg6 sT hZ0_ sZ0 hL1_ sL1 hc
  go_enter Tryd.func16, Tryd.ntmps16
  go_wp2_with (first | ((with_reducible refine gate_dst (N := 2) rfl ?_); refine box_event ?hg (N := 2) ?hd (cs := #[.int .i64 s.does, .int .i64 s.pos.line, .int .i64 s.pos.col, .string s.name, .slice A4 s.es.length a4, .slice A5 s.thens.length a5, .slice A6 s.elses.length a6]) (t := 38) ?hr ?_; (case hd => rfl); (case hg => rfl); (case hr => first | (go_simp; done) | (go_simp; rfl)); intro g2 hgE_ W1 hbox_ hb_; have GEg2 := Aside0.mk (show w.heap.size ≤ g2 from Nat.le_of_eq hgE_.symm); have HB := Aside0.mk hb_; have BKg2 := Aside0.mk hbox_; have cg2_0 : W1.cell? ⟨g2, 0, none⟩ = some (.int .i64 s.does) := (blk_cell BKg2.out 0).trans rfl; have cg2_1 : W1.cell? ⟨g2, 1, none⟩ = some (.int .i64 s.pos.line) := (blk_cell BKg2.out 1).trans rfl; have cg2_2 : W1.cell? ⟨g2, 2, none⟩ = some (.int .i64 s.pos.col) := (blk_cell BKg2.out 2).trans rfl; have cg2_3 : W1.cell? ⟨g2, 3, none⟩ = some (.string s.name) := (blk_cell BKg2.out 3).trans rfl; have cg2_4 : W1.cell? ⟨g2, 4, none⟩ = some (.slice A4 s.es.length a4) := (blk_cell BKg2.out 4).trans rfl; have cg2_5 : W1.cell? ⟨g2, 5, none⟩ = some (.slice A5 s.thens.length a5) := (blk_cell BKg2.out 5).trans rfl; have cg2_6 : W1.cell? ⟨g2, 6, none⟩ = some (.slice A6 s.elses.length a6) := (blk_cell BKg2.out 6).trans rfl; clear hb_ hbox_ hgE_) | (go_at_call 31; (with_reducible refine (tabs_calls k _ (by omega)).mono ?_); rintro e W2 ⟨rfl, hb_⟩; rw [← HT.out]; replace HB := Aside0.mk (below_step HB.out hb_); replace BKg2 := Aside0.mk (blk_below BKg2.out hb_); replace cg2_0 : W2.cell? ⟨g2, 0, none⟩ = some (.int .i64 s.does) := (blk_cell BKg2.out 0).trans rfl; replace cg2_1 : W2.cell? ⟨g2, 1, none⟩ = some (.int .i64 s.pos.line) := (blk_cell BKg2.out 1).trans rfl; replace cg2_2 : W2.cell? ⟨g2, 2, none⟩ = some (.int .i64 s.pos.col) := (blk_cell BKg2.out 2).trans rfl; replace cg2_3 : W2.cell? ⟨g2, 3, none⟩ = some (.string s.name) := (blk_cell BKg2.out 3).trans rfl; replace cg2_4 : W2.cell? ⟨g2, 4, none⟩ = some (.slice A4 s.es.length a4) := (blk_cell BKg2.out 4).trans rfl; replace cg2_5 : W2.cell? ⟨g2, 5, none⟩ = some (.slice A5 s.thens.length a5) := (blk_cell BKg2.out 5).trans rfl; replace cg2_6 : W2.cell? ⟨g2, 6, none⟩ = some (.slice A6 s.elses.length a6) := (blk_cell BKg2.out 6).trans rfl; clear hb_ ))
  have KS2 := Aside0.mk (kStmt.K_below HB.out KS.out)
  have hgW := Aside0.mk (hg.below hg.size HB.out)
  have HC52 := Aside0.mk (Kd.C_below HC5.out HB.out)
  have HC62 := Aside0.mk (Kd.C_below HC6.out HB.out)
  have c_0 := cg2_0
  have c_1 := cg2_1
  have c_2 := cg2_2
  have c_3 := cg2_3
  have c_4 := cg2_4
  have c_5 := cg2_5
  have c_6 := cg2_6
  clear cg2_0 cg2_1 cg2_2 cg2_3 cg2_4 cg2_5 cg2_6 KS HC5 HC6
  have hwk : wrap64 ((k : Int) + 1) = (k : Int) + 1 := by unfold wrap64; omega
  rw [← hwk] at ihL1
  clear hwk
  refine start_ (n := 16) (S := fun w' => w'.cell? ⟨g2, 0, none⟩ = some (.int .i64 s.does) ∧ w'.cell? ⟨g2, 1, none⟩ = some (.int .i64 s.pos.line) ∧ w'.cell? ⟨g2, 2, none⟩ = some (.int .i64 s.pos.col) ∧ w'.cell? ⟨g2, 3, none⟩ = some (.string s.name) ∧ w'.cell? ⟨g2, 4, none⟩ = some (.slice A4 s.es.length a4) ∧ w'.cell? ⟨g2, 5, none⟩ = some (.slice A5 s.thens.length a5) ∧ w'.cell? ⟨g2, 6, none⟩ = some (.slice A6 s.elses.length a6)) (ds := []) #[false, false, false, false, false, false, false, false, false, false, false, false, false, false, false, false] (by kernel_rfl) rfl rfl ⟨c_0, c_1, c_2, c_3, c_4, c_5, c_6⟩ (fun hHeld => ?_)
  refine pure_ (i := 0) (N := some 87) (v := ?_) (a' := ?_) #[true, false, false, false, false, false, false, false, false, false, false, false, false, false, false, false] rfl rfl (by kernel_rfl) (fun _ _ _ h => h) (Or.inl ⟨by rfl, ?_⟩) ?_ ?_
  rotate_left
  · intro w'
    go_simp
    with_reducible rfl
  rotate_left
  · simp only [Act.put, List.setIfInBounds_toArray, List.set_cons_zero, List.set_cons_succ, i64_w, i32_w]
    rfl
  refine pure_ (i := 1) (N := some 88) (v := ?_) (a' := ?_) #[true, true, false, false, false, false, false, false, false, false, false, false, false, false, false, false] rfl rfl (by kernel_rfl) (fun _ _ _ h => h) (Or.inl ⟨by rfl, ?_⟩) ?_ ?_
  rotate_left
  · intro w'
    go_simp
    with_reducible rfl
  rotate_left
  · simp only [Act.put, List.setIfInBounds_toArray, List.set_cons_zero, List.set_cons_succ, i64_w, i32_w]
    rfl
  refine pure_ (i := 6) (N := some 93) (v := ?_) (a' := ?_) #[true, true, false, false, false, false, true, false, false, false, false, false, false, false, false, false] rfl rfl (by kernel_rfl) (fun _ _ _ h => h) (Or.inl ⟨by rfl, ?_⟩) ?_ ?_
  rotate_left
  · intro w'
    go_simp
    with_reducible rfl
  rotate_left
  · simp only [Act.put, List.setIfInBounds_toArray, List.set_cons_zero, List.set_cons_succ, i64_w, i32_w]
    rfl
  refine pure_ (i := 8) (N := some 95) (v := ?_) (a' := ?_) #[true, true, false, false, false, false, true, false, true, false, false, false, false, false, false, false] rfl rfl (by kernel_rfl) (fun _ _ _ h => h) (Or.inl ⟨by rfl, ?_⟩) ?_ ?_
  rotate_left
  · intro w'
    go_simp
    with_reducible rfl
  rotate_left
  · simp only [Act.put, List.setIfInBounds_toArray, List.set_cons_zero, List.set_cons_succ, i64_w, i32_w]
    rfl
  refine pure_ (i := 9) (N := some 96) (v := ?_) (a' := ?_) #[true, true, false, false, false, false, true, false, true, true, false, false, false, false, false, false] rfl rfl (by kernel_rfl) (fun _ _ _ h => h) (Or.inl ⟨by rfl, ?_⟩) ?_ ?_
  rotate_left
  · intro w'
    go_simp
    with_reducible rfl
  rotate_left
  · simp only [Act.put, List.setIfInBounds_toArray, List.set_cons_zero, List.set_cons_succ, i64_w, i32_w]
    rfl
  refine pure_ (i := 12) (N := some 99) (v := ?_) (a' := ?_) #[true, true, false, false, false, false, true, false, true, true, false, false, true, false, false, false] rfl rfl (by kernel_rfl) (fun _ _ _ h => h) (Or.inl ⟨by rfl, ?_⟩) ?_ ?_
  rotate_left
  · intro w'
    go_simp
    with_reducible rfl
  rotate_left
  · simp only [Act.put, List.setIfInBounds_toArray, List.set_cons_zero, List.set_cons_succ, i64_w, i32_w]
    rfl
  refine take_ (i := 2) (N := some 89) (v := ?_) (a' := ?_) #[true, true, true, false, false, false, true, false, true, true, false, false, true, false, false, false] rfl rfl (by kernel_rfl) (fun _ _ _ h => h) (Or.inl ⟨by rfl, ?_⟩) hHeld ?_ ?_
  rotate_left
  · rintro w' ⟨s0, s1, s2, s3, s4, s5, s6⟩
    go_simp
    with_reducible rfl
  rotate_left
  · simp only [Act.put, List.setIfInBounds_toArray, List.set_cons_zero, List.set_cons_succ, i64_w, i32_w]
    rfl
  refine take_ (i := 7) (N := some 94) (v := ?_) (a' := ?_) #[true, true, true, false, false, false, true, true, true, true, false, false, true, false, false, false] rfl rfl (by kernel_rfl) (fun _ _ _ h => h) (Or.inl ⟨by rfl, ?_⟩) hHeld ?_ ?_
  rotate_left
  · rintro w' ⟨s0, s1, s2, s3, s4, s5, s6⟩
    go_simp
    with_reducible rfl
  rotate_left
  · simp only [Act.put, List.setIfInBounds_toArray, List.set_cons_zero, List.set_cons_succ, i64_w, i32_w]
    rfl
  refine one_ (i := 3) (N := some 90) #[true, true, true, true, false, false, true, true, true, true, false, false, true, false, false, false] rfl rfl (by kernel_rfl) (by decide) (fun K hK => ?_)
  refine goes_ Tryd.func32 (by kernel_rfl) rfl #[.agg #[.int .i64 s.does, .int .i64 s.pos.line, .int .i64 s.pos.col, .string s.name, .slice A4 s.es.length a4, .slice A5 s.thens.length a5, .slice A6 s.elses.length a6], .int .i64 0] (by rfl) rfl rfl (by simp only [List.map_toArray, List.map_cons, List.map_nil]; rfl) ?_
  with_reducible refine (at_calls s 0 _ _ (kStmt.K_below (below_drew1 (Below.refl _ _)) KS2.out) (hgW.out.below (Glob.size hgW.out) (below_drew1 (Below.refl _ _))) (by decide) HF.out).mono ?_
  rintro e w3 ⟨rfl, hb3⟩
  refine ⟨_, rfl, ?_⟩
  rw [← HZ0.out]
  have hc1 := Lib.hid hb3
  refine hK.out _ _ ⟨below_cell hb3 (Nat.le_refl _) (hHeld.1), below_cell hb3 (Nat.le_refl _) (hHeld.2.1), below_cell hb3 (Nat.le_refl _) (hHeld.2.2.1), below_cell hb3 (Nat.le_refl _) (hHeld.2.2.2.1), below_cell hb3 (Nat.le_refl _) (hHeld.2.2.2.2.1), below_cell hb3 (Nat.le_refl _) (hHeld.2.2.2.2.2.1), below_cell hb3 (Nat.le_refl _) (hHeld.2.2.2.2.2.2)⟩ (fun hHeld => ?_)
  clear hK K
  refine norm_ (a' := ?_) ?_ ?_
  rotate_left
  · show Act.put _ (some 90) _ = _
    simp only [Act.put, List.setIfInBounds_toArray, List.set_cons_zero, List.set_cons_succ, i64_w, i32_w]
    rfl
  refine pure_ (i := 4) (N := some 91) (v := ?_) (a' := ?_) #[true, true, true, true, true, false, true, true, true, true, false, false, true, false, false, false] rfl rfl (by kernel_rfl) (fun _ _ _ h => h) (Or.inl ⟨by rfl, ?_⟩) ?_ ?_
  rotate_left
  · intro w'
    go_simp
    with_reducible rfl
  rotate_left
  · simp only [Act.put, List.setIfInBounds_toArray, List.set_cons_zero, List.set_cons_succ, i64_w, i32_w]
    rfl
  refine pure_ (i := 5) (N := some 92) (v := ?_) (a' := ?_) #[true, true, true, true, true, true, true, true, true, true, false, false, true, false, false, false] rfl rfl (by kernel_rfl) (fun _ _ _ h => h) (Or.inl ⟨by rfl, ?_⟩) ?_ ?_
  rotate_left
  · intro w'
    go_simp
    with_reducible rfl
  rotate_left
  · simp only [Act.put, List.setIfInBounds_toArray, List.set_cons_zero, List.set_cons_succ, i64_w, i32_w]
    rfl
  refine one_ (i := 10) (N := some 97) #[true, true, true, true, true, true, true, true, true, true, true, false, true, false, false, false] rfl rfl (by kernel_rfl) (by decide) (fun K hK => ?_)
  refine goes_ Tryd.func33 (by kernel_rfl) rfl #[.slice A5 s.thens.length a5, .int .i64 (wrap64 ((k : Int) + 1))] (by rfl) rfl rfl (by simp only [List.map_toArray, List.map_cons, List.map_nil]; rfl) ?_
  with_reducible refine (ihL1 _ _ _ _ (Kd.C_below HC52.out (below_step (below_drew1 (Below.refl _ _)) hc1.out)) (hgW.out.below (Glob.size hgW.out) (below_step (below_drew1 (Below.refl _ _)) hc1.out))).mono ?_
  rintro e w3 ⟨rfl, hb3⟩
  refine ⟨_, rfl, ?_⟩
  rw [← HL1.out]
  have hc2 := Lib.hid hb3
  refine hK.out _ _ ⟨below_cell hb3 (Nat.le_refl _) (hHeld.1), below_cell hb3 (Nat.le_refl _) (hHeld.2.1), below_cell hb3 (Nat.le_refl _) (hHeld.2.2.1), below_cell hb3 (Nat.le_refl _) (hHeld.2.2.2.1), below_cell hb3 (Nat.le_refl _) (hHeld.2.2.2.2.1), below_cell hb3 (Nat.le_refl _) (hHeld.2.2.2.2.2.1), below_cell hb3 (Nat.le_refl _) (hHeld.2.2.2.2.2.2)⟩ (fun hHeld => ?_)
  clear hK K
  refine norm_ (a' := ?_) ?_ ?_
  rotate_left
  · show Act.put _ (some 97) _ = _
    simp only [Act.put, List.setIfInBounds_toArray, List.set_cons_zero, List.set_cons_succ, i64_w, i32_w]
    rfl
  refine pure_ (i := 11) (N := some 98) (v := ?_) (a' := ?_) #[true, true, true, true, true, true, true, true, true, true, true, true, true, false, false, false] rfl rfl (by kernel_rfl) (fun _ _ _ h => h) (Or.inl ⟨by rfl, ?_⟩) ?_ ?_
  rotate_left
  · intro w'
    go_simp
    with_reducible rfl
  rotate_left
  · simp only [Act.put, List.setIfInBounds_toArray, List.set_cons_zero, List.set_cons_succ, i64_w, i32_w]
    rfl
  refine pure_ (i := 13) (N := some 100) (v := ?_) (a' := ?_) #[true, true, true, true, true, true, true, true, true, true, true, true, true, true, false, false] rfl rfl (by kernel_rfl) (fun _ _ _ h => h) (Or.inl ⟨by rfl, ?_⟩) ?_ ?_
  rotate_left
  · intro w'
    go_simp
    with_reducible rfl
  rotate_left
  · simp only [Act.put, List.setIfInBounds_toArray, List.set_cons_zero, List.set_cons_succ, i64_w, i32_w]
    rfl
  refine pure_ (i := 14) (N := some 101) (v := ?_) (a' := ?_) #[true, true, true, true, true, true, true, true, true, true, true, true, true, true, true, false] rfl rfl (by kernel_rfl) (fun _ _ _ h => h) (Or.inl ⟨by rfl, ?_⟩) ?_ ?_
  rotate_left
  · intro w'
    go_simp
    with_reducible rfl
  rotate_left
  · simp only [Act.put, List.setIfInBounds_toArray, List.set_cons_zero, List.set_cons_succ, i64_w, i32_w]
    rfl
  refine pure_ (i := 15) (N := some 4) (v := ?_) (a' := ?_) #[true, true, true, true, true, true, true, true, true, true, true, true, true, true, true, true] rfl rfl (by kernel_rfl) (fun _ _ _ h => h) (Or.inl ⟨by rfl, ?_⟩) ?_ ?_
  rotate_left
  · intro w'
    go_simp
    with_reducible rfl
  rotate_left
  · simp only [Act.put, List.setIfInBounds_toArray, List.set_cons_zero, List.set_cons_succ, i64_w, i32_w]
    rfl
  refine done_ (by kernel_rfl) ?_
  replace HB := Aside0.mk (below_step HB.out (below_undrew (below_step hc1.out hc2.out)))
  go_wp2
  go_ret
  refine ⟨ret_str ?_, HB.out⟩
  rw [HST.out]
  simp only [← bs_add, ← bs_of, ← HT.out, ← HZ0.out, ← HL1.out]
  rfl
set_option maxRecDepth 100000 in
set_option maxHeartbeats 3200000 in
theorem st_if (s : Stmt) (d : Int) (cs : List Value) (w : World) (hs : kStmt.K w s cs) (hg : Glob w) (hf : SFit s d.toNat) (hc : s.does = 4) (he : s.elses = [])
    (ihL1 : ∀ A n c w, kStmt.C w A n s.thens → Glob w → Calls Tryd.prog 33 #[.slice A n c, .int .i64 ((d.toNat : Int) + 1)] w fun e w' => e = .returned (.string (bs (slines s.thens (d.toNat + 1)))) ∧ Below w.heap.size w w') :
    Calls Tryd.prog 16 #[.agg cs.toArray, .int .i64 d] w fun e w' => e = .returned (.string (bs (stext s d.toNat))) ∧ Below w.heap.size w w' := by
  have KS := Aside0.mk hs
  obtain ⟨A4, a4, A5, a5, A6, a6, rfl, el4, eg4, el5, eg5, el6, eg6⟩ := kStmt_open hs
  have k1 : (s.does == 1) = false := by rw [hc]; rfl
  have k2 : (s.does == 2) = false := by rw [hc]; rfl
  have k3 : (s.does == 3) = false := by rw [hc]; rfl
  have k4 : (s.does == 4) = true := by rw [hc]; rfl
  obtain ⟨k, hk⟩ : ∃ k : Nat, k = d.toNat := ⟨_, rfl⟩
  have hmax : max 0 d = (k : Int) := by omega
  rw [← hk] at hf ihL1 ⊢
  clear hk hs
  obtain ⟨hl, hd, hes, hT, hE⟩ := hf.open
  have hst : stext s k = tabs k ++ [105, 102, 32] ++ atL s.es 0 ++ [32, 123, 10] ++ slines s.thens (k + 1) ++ tabs k ++ [125] ++ [10] := by rw [stext_eq, if_neg (by rw [hc]; decide), if_neg (by rw [hc]; decide), if_neg (by rw [hc]; decide), if_pos hc, if_pos he]
  rw [hst] at hl
  simp only [List.length_append, List.length_cons, List.length_nil, size_toList] at hl
  obtain ⟨T, hT_⟩ : ∃ T, T = bs (tabs k) := ⟨_, rfl⟩
  have sT : T.size = (tabs k).length := by rw [hT_, bs_size]
  obtain ⟨Z0, hZ0_⟩ : ∃ T, T = bs (atL s.es 0) := ⟨_, rfl⟩
  have sZ0 : Z0.size = (atL s.es 0).length := by rw [hZ0_, bs_size]
  obtain ⟨L1, hL1_⟩ : ∃ T, T = bs (slines s.thens (k + 1)) := ⟨_, rfl⟩
  have sL1 : L1.size = (slines s.thens (k + 1)).length := by rw [hL1_, bs_size]
  have hz0 : ¬ 9223372036854775807 < T.size + 3 := by omega
  have hz1 : ¬ 9223372036854775807 < T.size + 3 + Z0.size := by omega
  have hz2 : ¬ 9223372036854775807 < T.size + 3 + Z0.size + 3 := by omega
  have hz3 : ¬ 9223372036854775807 < T.size + 3 + Z0.size + 3 + L1.size := by omega
  have hz4 : ¬ 9223372036854775807 < T.size + 3 + Z0.size + 3 + L1.size + T.size := by omega
  have hz5 : ¬ 9223372036854775807 < T.size + 3 + Z0.size + 3 + L1.size + T.size + 1 := by omega
  have hz6 : ¬ 9223372036854775807 < T.size + 3 + Z0.size + 3 + L1.size + T.size + 1 + 1 := by omega
  have HST := Lib.hid hst
  have HT := Lib.hid hT_
  have HZ0 := Lib.hid hZ0_
  have HL1 := Lib.hid hL1_
  have HF := Aside0.mk hes
  have HC5 := Aside0.mk eg5
  have HC6 := Aside0.mk eg6
  clear hst hT_ hes hl hT hE hf el4 eg4 el5 eg5 el6 eg6 sT hZ0_ sZ0 hL1_ sL1 hc
  go_enter Tryd.func16, Tryd.ntmps16
  go_wp2_with (first | ((with_reducible refine gate_dst (N := 2) rfl ?_); refine box_event ?hg (N := 2) ?hd (cs := #[.int .i64 s.does, .int .i64 s.pos.line, .int .i64 s.pos.col, .string s.name, .slice A4 s.es.length a4, .slice A5 s.thens.length a5, .slice A6 s.elses.length a6]) (t := 38) ?hr ?_; (case hd => rfl); (case hg => rfl); (case hr => first | (go_simp; done) | (go_simp; rfl)); intro g2 hgE_ W1 hbox_ hb_; have GEg2 := Aside0.mk (show w.heap.size ≤ g2 from Nat.le_of_eq hgE_.symm); have HB := Aside0.mk hb_; have BKg2 := Aside0.mk hbox_; have cg2_0 : W1.cell? ⟨g2, 0, none⟩ = some (.int .i64 s.does) := (blk_cell BKg2.out 0).trans rfl; have cg2_1 : W1.cell? ⟨g2, 1, none⟩ = some (.int .i64 s.pos.line) := (blk_cell BKg2.out 1).trans rfl; have cg2_2 : W1.cell? ⟨g2, 2, none⟩ = some (.int .i64 s.pos.col) := (blk_cell BKg2.out 2).trans rfl; have cg2_3 : W1.cell? ⟨g2, 3, none⟩ = some (.string s.name) := (blk_cell BKg2.out 3).trans rfl; have cg2_4 : W1.cell? ⟨g2, 4, none⟩ = some (.slice A4 s.es.length a4) := (blk_cell BKg2.out 4).trans rfl; have cg2_5 : W1.cell? ⟨g2, 5, none⟩ = some (.slice A5 s.thens.length a5) := (blk_cell BKg2.out 5).trans rfl; have cg2_6 : W1.cell? ⟨g2, 6, none⟩ = some (.slice A6 s.elses.length a6) := (blk_cell BKg2.out 6).trans rfl; clear hb_ hbox_ hgE_) | (go_at_call 31; (with_reducible refine (tabs_calls k _ (by omega)).mono ?_); rintro e W2 ⟨rfl, hb_⟩; rw [← HT.out]; replace HB := Aside0.mk (below_step HB.out hb_); replace BKg2 := Aside0.mk (blk_below BKg2.out hb_); replace cg2_0 : W2.cell? ⟨g2, 0, none⟩ = some (.int .i64 s.does) := (blk_cell BKg2.out 0).trans rfl; replace cg2_1 : W2.cell? ⟨g2, 1, none⟩ = some (.int .i64 s.pos.line) := (blk_cell BKg2.out 1).trans rfl; replace cg2_2 : W2.cell? ⟨g2, 2, none⟩ = some (.int .i64 s.pos.col) := (blk_cell BKg2.out 2).trans rfl; replace cg2_3 : W2.cell? ⟨g2, 3, none⟩ = some (.string s.name) := (blk_cell BKg2.out 3).trans rfl; replace cg2_4 : W2.cell? ⟨g2, 4, none⟩ = some (.slice A4 s.es.length a4) := (blk_cell BKg2.out 4).trans rfl; replace cg2_5 : W2.cell? ⟨g2, 5, none⟩ = some (.slice A5 s.thens.length a5) := (blk_cell BKg2.out 5).trans rfl; replace cg2_6 : W2.cell? ⟨g2, 6, none⟩ = some (.slice A6 s.elses.length a6) := (blk_cell BKg2.out 6).trans rfl; clear hb_ ))
  have KS2 := Aside0.mk (kStmt.K_below HB.out KS.out)
  have hgW := Aside0.mk (hg.below hg.size HB.out)
  have HC52 := Aside0.mk (Kd.C_below HC5.out HB.out)
  have HC62 := Aside0.mk (Kd.C_below HC6.out HB.out)
  have c_0 := cg2_0
  have c_1 := cg2_1
  have c_2 := cg2_2
  have c_3 := cg2_3
  have c_4 := cg2_4
  have c_5 := cg2_5
  have c_6 := cg2_6
  clear cg2_0 cg2_1 cg2_2 cg2_3 cg2_4 cg2_5 cg2_6 KS HC5 HC6
  have hwk : wrap64 ((k : Int) + 1) = (k : Int) + 1 := by unfold wrap64; omega
  rw [← hwk] at ihL1
  clear hwk
  have kel : ¬ 0 < s.elses.length := by rw [he]; decide
  clear he
  refine start_ (n := 16) (S := fun w' => w'.cell? ⟨g2, 0, none⟩ = some (.int .i64 s.does) ∧ w'.cell? ⟨g2, 1, none⟩ = some (.int .i64 s.pos.line) ∧ w'.cell? ⟨g2, 2, none⟩ = some (.int .i64 s.pos.col) ∧ w'.cell? ⟨g2, 3, none⟩ = some (.string s.name) ∧ w'.cell? ⟨g2, 4, none⟩ = some (.slice A4 s.es.length a4) ∧ w'.cell? ⟨g2, 5, none⟩ = some (.slice A5 s.thens.length a5) ∧ w'.cell? ⟨g2, 6, none⟩ = some (.slice A6 s.elses.length a6)) (ds := []) #[false, false, false, false, false, false, false, false, false, false, false, false, false, false, false, false] (by kernel_rfl) rfl rfl ⟨c_0, c_1, c_2, c_3, c_4, c_5, c_6⟩ (fun hHeld => ?_)
  refine pure_ (i := 0) (N := some 53) (v := ?_) (a' := ?_) #[true, false, false, false, false, false, false, false, false, false, false, false, false, false, false, false] rfl rfl (by kernel_rfl) (fun _ _ _ h => h) (Or.inl ⟨by rfl, ?_⟩) ?_ ?_
  rotate_left
  · intro w'
    go_simp
    with_reducible rfl
  rotate_left
  · simp only [Act.put, List.setIfInBounds_toArray, List.set_cons_zero, List.set_cons_succ, i64_w, i32_w]
    rfl
  refine pure_ (i := 1) (N := some 54) (v := ?_) (a' := ?_) #[true, true, false, false, false, false, false, false, false, false, false, false, false, false, false, false] rfl rfl (by kernel_rfl) (fun _ _ _ h => h) (Or.inl ⟨by rfl, ?_⟩) ?_ ?_
  rotate_left
  · intro w'
    go_simp
    with_reducible rfl
  rotate_left
  · simp only [Act.put, List.setIfInBounds_toArray, List.set_cons_zero, List.set_cons_succ, i64_w, i32_w]
    rfl
  refine pure_ (i := 6) (N := some 59) (v := ?_) (a' := ?_) #[true, true, false, false, false, false, true, false, false, false, false, false, false, false, false, false] rfl rfl (by kernel_rfl) (fun _ _ _ h => h) (Or.inl ⟨by rfl, ?_⟩) ?_ ?_
  rotate_left
  · intro w'
    go_simp
    with_reducible rfl
  rotate_left
  · simp only [Act.put, List.setIfInBounds_toArray, List.set_cons_zero, List.set_cons_succ, i64_w, i32_w]
    rfl
  refine pure_ (i := 8) (N := some 61) (v := ?_) (a' := ?_) #[true, true, false, false, false, false, true, false, true, false, false, false, false, false, false, false] rfl rfl (by kernel_rfl) (fun _ _ _ h => h) (Or.inl ⟨by rfl, ?_⟩) ?_ ?_
  rotate_left
  · intro w'
    go_simp
    with_reducible rfl
  rotate_left
  · simp only [Act.put, List.setIfInBounds_toArray, List.set_cons_zero, List.set_cons_succ, i64_w, i32_w]
    rfl
  refine pure_ (i := 9) (N := some 62) (v := ?_) (a' := ?_) #[true, true, false, false, false, false, true, false, true, true, false, false, false, false, false, false] rfl rfl (by kernel_rfl) (fun _ _ _ h => h) (Or.inl ⟨by rfl, ?_⟩) ?_ ?_
  rotate_left
  · intro w'
    go_simp
    with_reducible rfl
  rotate_left
  · simp only [Act.put, List.setIfInBounds_toArray, List.set_cons_zero, List.set_cons_succ, i64_w, i32_w]
    rfl
  refine pure_ (i := 12) (N := some 65) (v := ?_) (a' := ?_) #[true, true, false, false, false, false, true, false, true, true, false, false, true, false, false, false] rfl rfl (by kernel_rfl) (fun _ _ _ h => h) (Or.inl ⟨by rfl, ?_⟩) ?_ ?_
  rotate_left
  · intro w'
    go_simp
    with_reducible rfl
  rotate_left
  · simp only [Act.put, List.setIfInBounds_toArray, List.set_cons_zero, List.set_cons_succ, i64_w, i32_w]
    rfl
  refine take_ (i := 2) (N := some 55) (v := ?_) (a' := ?_) #[true, true, true, false, false, false, true, false, true, true, false, false, true, false, false, false] rfl rfl (by kernel_rfl) (fun _ _ _ h => h) (Or.inl ⟨by rfl, ?_⟩) hHeld ?_ ?_
  rotate_left
  · rintro w' ⟨s0, s1, s2, s3, s4, s5, s6⟩
    go_simp
    with_reducible rfl
  rotate_left
  · simp only [Act.put, List.setIfInBounds_toArray, List.set_cons_zero, List.set_cons_succ, i64_w, i32_w]
    rfl
  refine take_ (i := 7) (N := some 60) (v := ?_) (a' := ?_) #[true, true, true, false, false, false, true, true, true, true, false, false, true, false, false, false] rfl rfl (by kernel_rfl) (fun _ _ _ h => h) (Or.inl ⟨by rfl, ?_⟩) hHeld ?_ ?_
  rotate_left
  · rintro w' ⟨s0, s1, s2, s3, s4, s5, s6⟩
    go_simp
    with_reducible rfl
  rotate_left
  · simp only [Act.put, List.setIfInBounds_toArray, List.set_cons_zero, List.set_cons_succ, i64_w, i32_w]
    rfl
  refine one_ (i := 3) (N := some 56) #[true, true, true, true, false, false, true, true, true, true, false, false, true, false, false, false] rfl rfl (by kernel_rfl) (by decide) (fun K hK => ?_)
  refine goes_ Tryd.func32 (by kernel_rfl) rfl #[.agg #[.int .i64 s.does, .int .i64 s.pos.line, .int .i64 s.pos.col, .string s.name, .slice A4 s.es.length a4, .slice A5 s.thens.length a5, .slice A6 s.elses.length a6], .int .i64 0] (by rfl) rfl rfl (by simp only [List.map_toArray, List.map_cons, List.map_nil]; rfl) ?_
  with_reducible refine (at_calls s 0 _ _ (kStmt.K_below (below_drew1 (Below.refl _ _)) KS2.out) (hgW.out.below (Glob.size hgW.out) (below_drew1 (Below.refl _ _))) (by decide) HF.out).mono ?_
  rintro e w3 ⟨rfl, hb3⟩
  refine ⟨_, rfl, ?_⟩
  rw [← HZ0.out]
  have hc1 := Lib.hid hb3
  refine hK.out _ _ ⟨below_cell hb3 (Nat.le_refl _) (hHeld.1), below_cell hb3 (Nat.le_refl _) (hHeld.2.1), below_cell hb3 (Nat.le_refl _) (hHeld.2.2.1), below_cell hb3 (Nat.le_refl _) (hHeld.2.2.2.1), below_cell hb3 (Nat.le_refl _) (hHeld.2.2.2.2.1), below_cell hb3 (Nat.le_refl _) (hHeld.2.2.2.2.2.1), below_cell hb3 (Nat.le_refl _) (hHeld.2.2.2.2.2.2)⟩ (fun hHeld => ?_)
  clear hK K
  refine norm_ (a' := ?_) ?_ ?_
  rotate_left
  · show Act.put _ (some 56) _ = _
    simp only [Act.put, List.setIfInBounds_toArray, List.set_cons_zero, List.set_cons_succ, i64_w, i32_w]
    rfl
  refine pure_ (i := 4) (N := some 57) (v := ?_) (a' := ?_) #[true, true, true, true, true, false, true, true, true, true, false, false, true, false, false, false] rfl rfl (by kernel_rfl) (fun _ _ _ h => h) (Or.inl ⟨by rfl, ?_⟩) ?_ ?_
  rotate_left
  · intro w'
    go_simp
    with_reducible rfl
  rotate_left
  · simp only [Act.put, List.setIfInBounds_toArray, List.set_cons_zero, List.set_cons_succ, i64_w, i32_w]
    rfl
  refine pure_ (i := 5) (N := some 58) (v := ?_) (a' := ?_) #[true, true, true, true, true, true, true, true, true, true, false, false, true, false, false, false] rfl rfl (by kernel_rfl) (fun _ _ _ h => h) (Or.inl ⟨by rfl, ?_⟩) ?_ ?_
  rotate_left
  · intro w'
    go_simp
    with_reducible rfl
  rotate_left
  · simp only [Act.put, List.setIfInBounds_toArray, List.set_cons_zero, List.set_cons_succ, i64_w, i32_w]
    rfl
  refine one_ (i := 10) (N := some 63) #[true, true, true, true, true, true, true, true, true, true, true, false, true, false, false, false] rfl rfl (by kernel_rfl) (by decide) (fun K hK => ?_)
  refine goes_ Tryd.func33 (by kernel_rfl) rfl #[.slice A5 s.thens.length a5, .int .i64 (wrap64 ((k : Int) + 1))] (by rfl) rfl rfl (by simp only [List.map_toArray, List.map_cons, List.map_nil]; rfl) ?_
  with_reducible refine (ihL1 _ _ _ _ (Kd.C_below HC52.out (below_step (below_drew1 (Below.refl _ _)) hc1.out)) (hgW.out.below (Glob.size hgW.out) (below_step (below_drew1 (Below.refl _ _)) hc1.out))).mono ?_
  rintro e w3 ⟨rfl, hb3⟩
  refine ⟨_, rfl, ?_⟩
  rw [← HL1.out]
  have hc2 := Lib.hid hb3
  refine hK.out _ _ ⟨below_cell hb3 (Nat.le_refl _) (hHeld.1), below_cell hb3 (Nat.le_refl _) (hHeld.2.1), below_cell hb3 (Nat.le_refl _) (hHeld.2.2.1), below_cell hb3 (Nat.le_refl _) (hHeld.2.2.2.1), below_cell hb3 (Nat.le_refl _) (hHeld.2.2.2.2.1), below_cell hb3 (Nat.le_refl _) (hHeld.2.2.2.2.2.1), below_cell hb3 (Nat.le_refl _) (hHeld.2.2.2.2.2.2)⟩ (fun hHeld => ?_)
  clear hK K
  refine norm_ (a' := ?_) ?_ ?_
  rotate_left
  · show Act.put _ (some 63) _ = _
    simp only [Act.put, List.setIfInBounds_toArray, List.set_cons_zero, List.set_cons_succ, i64_w, i32_w]
    rfl
  refine pure_ (i := 11) (N := some 64) (v := ?_) (a' := ?_) #[true, true, true, true, true, true, true, true, true, true, true, true, true, false, false, false] rfl rfl (by kernel_rfl) (fun _ _ _ h => h) (Or.inl ⟨by rfl, ?_⟩) ?_ ?_
  rotate_left
  · intro w'
    go_simp
    with_reducible rfl
  rotate_left
  · simp only [Act.put, List.setIfInBounds_toArray, List.set_cons_zero, List.set_cons_succ, i64_w, i32_w]
    rfl
  refine pure_ (i := 13) (N := some 66) (v := ?_) (a' := ?_) #[true, true, true, true, true, true, true, true, true, true, true, true, true, true, false, false] rfl rfl (by kernel_rfl) (fun _ _ _ h => h) (Or.inl ⟨by rfl, ?_⟩) ?_ ?_
  rotate_left
  · intro w'
    go_simp
    with_reducible rfl
  rotate_left
  · simp only [Act.put, List.setIfInBounds_toArray, List.set_cons_zero, List.set_cons_succ, i64_w, i32_w]
    rfl
  refine pure_ (i := 14) (N := some 67) (v := ?_) (a' := ?_) #[true, true, true, true, true, true, true, true, true, true, true, true, true, true, true, false] rfl rfl (by kernel_rfl) (fun _ _ _ h => h) (Or.inl ⟨by rfl, ?_⟩) ?_ ?_
  rotate_left
  · intro w'
    go_simp
    with_reducible rfl
  rotate_left
  · simp only [Act.put, List.setIfInBounds_toArray, List.set_cons_zero, List.set_cons_succ, i64_w, i32_w]
    rfl
  refine pure_ (i := 15) (N := some 6) (v := ?_) (a' := ?_) #[true, true, true, true, true, true, true, true, true, true, true, true, true, true, true, true] rfl rfl (by kernel_rfl) (fun _ _ _ h => h) (Or.inl ⟨by rfl, ?_⟩) ?_ ?_
  rotate_left
  · intro w'
    go_simp
    with_reducible rfl
  rotate_left
  · simp only [Act.put, List.setIfInBounds_toArray, List.set_cons_zero, List.set_cons_succ, i64_w, i32_w]
    rfl
  refine done_ (by kernel_rfl) ?_
  replace HB := Aside0.mk (below_step HB.out (below_undrew (below_step hc1.out hc2.out)))
  obtain ⟨c_0, c_1, c_2, c_3, c_4, c_5, c_6⟩ := hHeld
  go_wp2
  go_ret
  refine ⟨ret_str ?_, HB.out⟩
  rw [HST.out]
  simp only [← bs_add, ← bs_of, ← HT.out, ← HZ0.out, ← HL1.out]
  rfl
set_option maxRecDepth 100000 in
set_option maxHeartbeats 3200000 in
theorem st_else (s : Stmt) (d : Int) (cs : List Value) (w : World) (hs : kStmt.K w s cs) (hg : Glob w) (hf : SFit s d.toNat) (hc : s.does = 4) (he : s.elses ≠ [])
    (ihL1 : ∀ A n c w, kStmt.C w A n s.thens → Glob w → Calls Tryd.prog 33 #[.slice A n c, .int .i64 ((d.toNat : Int) + 1)] w fun e w' => e = .returned (.string (bs (slines s.thens (d.toNat + 1)))) ∧ Below w.heap.size w w')
    (ihL2 : ∀ A n c w, kStmt.C w A n s.elses → Glob w → Calls Tryd.prog 33 #[.slice A n c, .int .i64 ((d.toNat : Int) + 1)] w fun e w' => e = .returned (.string (bs (slines s.elses (d.toNat + 1)))) ∧ Below w.heap.size w w') :
    Calls Tryd.prog 16 #[.agg cs.toArray, .int .i64 d] w fun e w' => e = .returned (.string (bs (stext s d.toNat))) ∧ Below w.heap.size w w' := by
  have KS := Aside0.mk hs
  obtain ⟨A4, a4, A5, a5, A6, a6, rfl, el4, eg4, el5, eg5, el6, eg6⟩ := kStmt_open hs
  have k1 : (s.does == 1) = false := by rw [hc]; rfl
  have k2 : (s.does == 2) = false := by rw [hc]; rfl
  have k3 : (s.does == 3) = false := by rw [hc]; rfl
  have k4 : (s.does == 4) = true := by rw [hc]; rfl
  obtain ⟨k, hk⟩ : ∃ k : Nat, k = d.toNat := ⟨_, rfl⟩
  have hmax : max 0 d = (k : Int) := by omega
  rw [← hk] at hf ihL1 ihL2 ⊢
  clear hk hs
  obtain ⟨hl, hd, hes, hT, hE⟩ := hf.open
  have hst : stext s k = tabs k ++ [105, 102, 32] ++ atL s.es 0 ++ [32, 123, 10] ++ slines s.thens (k + 1) ++ tabs k ++ [125] ++ ([32, 101, 108, 115, 101, 32, 123, 10] ++ slines s.elses (k + 1) ++ tabs k ++ [125]) ++ [10] := by rw [stext_eq, if_neg (by rw [hc]; decide), if_neg (by rw [hc]; decide), if_neg (by rw [hc]; decide), if_pos hc, if_neg he]
  rw [hst] at hl
  simp only [List.length_append, List.length_cons, List.length_nil, size_toList] at hl
  obtain ⟨T, hT_⟩ : ∃ T, T = bs (tabs k) := ⟨_, rfl⟩
  have sT : T.size = (tabs k).length := by rw [hT_, bs_size]
  obtain ⟨Z0, hZ0_⟩ : ∃ T, T = bs (atL s.es 0) := ⟨_, rfl⟩
  have sZ0 : Z0.size = (atL s.es 0).length := by rw [hZ0_, bs_size]
  obtain ⟨L1, hL1_⟩ : ∃ T, T = bs (slines s.thens (k + 1)) := ⟨_, rfl⟩
  have sL1 : L1.size = (slines s.thens (k + 1)).length := by rw [hL1_, bs_size]
  obtain ⟨L2, hL2_⟩ : ∃ T, T = bs (slines s.elses (k + 1)) := ⟨_, rfl⟩
  have sL2 : L2.size = (slines s.elses (k + 1)).length := by rw [hL2_, bs_size]
  have hz0 : ¬ 9223372036854775807 < T.size + 3 := by omega
  have hz1 : ¬ 9223372036854775807 < T.size + 3 + Z0.size := by omega
  have hz2 : ¬ 9223372036854775807 < T.size + 3 + Z0.size + 3 := by omega
  have hz3 : ¬ 9223372036854775807 < T.size + 3 + Z0.size + 3 + L1.size := by omega
  have hz4 : ¬ 9223372036854775807 < T.size + 3 + Z0.size + 3 + L1.size + T.size := by omega
  have hz5 : ¬ 9223372036854775807 < T.size + 3 + Z0.size + 3 + L1.size + T.size + 1 := by omega
  have hz6 : ¬ 9223372036854775807 < 8 + L2.size := by omega
  have hz7 : ¬ 9223372036854775807 < 8 + L2.size + T.size := by omega
  have hz8 : ¬ 9223372036854775807 < 8 + L2.size + T.size + 1 := by omega
  have hz9 : ¬ 9223372036854775807 < T.size + 3 + Z0.size + 3 + L1.size + T.size + 1 + (8 + L2.size + T.size + 1) := by omega
  have hz10 : ¬ 9223372036854775807 < T.size + 3 + Z0.size + 3 + L1.size + T.size + 1 + (8 + L2.size + T.size + 1) + 1 := by omega
  have HST := Lib.hid hst
  have HT := Lib.hid hT_
  have HZ0 := Lib.hid hZ0_
  have HL1 := Lib.hid hL1_
  have HL2 := Lib.hid hL2_
  have HF := Aside0.mk hes
  have HC5 := Aside0.mk eg5
  have HC6 := Aside0.mk eg6
  clear hst hT_ hes hl hT hE hf el4 eg4 el5 eg5 el6 eg6 sT hZ0_ sZ0 hL1_ sL1 hL2_ sL2 hc
  go_enter Tryd.func16, Tryd.ntmps16
  go_wp2_with (first | ((with_reducible refine gate_dst (N := 2) rfl ?_); refine box_event ?hg (N := 2) ?hd (cs := #[.int .i64 s.does, .int .i64 s.pos.line, .int .i64 s.pos.col, .string s.name, .slice A4 s.es.length a4, .slice A5 s.thens.length a5, .slice A6 s.elses.length a6]) (t := 38) ?hr ?_; (case hd => rfl); (case hg => rfl); (case hr => first | (go_simp; done) | (go_simp; rfl)); intro g2 hgE_ W1 hbox_ hb_; have GEg2 := Aside0.mk (show w.heap.size ≤ g2 from Nat.le_of_eq hgE_.symm); have HB := Aside0.mk hb_; have BKg2 := Aside0.mk hbox_; have cg2_0 : W1.cell? ⟨g2, 0, none⟩ = some (.int .i64 s.does) := (blk_cell BKg2.out 0).trans rfl; have cg2_1 : W1.cell? ⟨g2, 1, none⟩ = some (.int .i64 s.pos.line) := (blk_cell BKg2.out 1).trans rfl; have cg2_2 : W1.cell? ⟨g2, 2, none⟩ = some (.int .i64 s.pos.col) := (blk_cell BKg2.out 2).trans rfl; have cg2_3 : W1.cell? ⟨g2, 3, none⟩ = some (.string s.name) := (blk_cell BKg2.out 3).trans rfl; have cg2_4 : W1.cell? ⟨g2, 4, none⟩ = some (.slice A4 s.es.length a4) := (blk_cell BKg2.out 4).trans rfl; have cg2_5 : W1.cell? ⟨g2, 5, none⟩ = some (.slice A5 s.thens.length a5) := (blk_cell BKg2.out 5).trans rfl; have cg2_6 : W1.cell? ⟨g2, 6, none⟩ = some (.slice A6 s.elses.length a6) := (blk_cell BKg2.out 6).trans rfl; clear hb_ hbox_ hgE_) | (go_at_call 31; (with_reducible refine (tabs_calls k _ (by omega)).mono ?_); rintro e W2 ⟨rfl, hb_⟩; rw [← HT.out]; replace HB := Aside0.mk (below_step HB.out hb_); replace BKg2 := Aside0.mk (blk_below BKg2.out hb_); replace cg2_0 : W2.cell? ⟨g2, 0, none⟩ = some (.int .i64 s.does) := (blk_cell BKg2.out 0).trans rfl; replace cg2_1 : W2.cell? ⟨g2, 1, none⟩ = some (.int .i64 s.pos.line) := (blk_cell BKg2.out 1).trans rfl; replace cg2_2 : W2.cell? ⟨g2, 2, none⟩ = some (.int .i64 s.pos.col) := (blk_cell BKg2.out 2).trans rfl; replace cg2_3 : W2.cell? ⟨g2, 3, none⟩ = some (.string s.name) := (blk_cell BKg2.out 3).trans rfl; replace cg2_4 : W2.cell? ⟨g2, 4, none⟩ = some (.slice A4 s.es.length a4) := (blk_cell BKg2.out 4).trans rfl; replace cg2_5 : W2.cell? ⟨g2, 5, none⟩ = some (.slice A5 s.thens.length a5) := (blk_cell BKg2.out 5).trans rfl; replace cg2_6 : W2.cell? ⟨g2, 6, none⟩ = some (.slice A6 s.elses.length a6) := (blk_cell BKg2.out 6).trans rfl; clear hb_ ))
  have KS2 := Aside0.mk (kStmt.K_below HB.out KS.out)
  have hgW := Aside0.mk (hg.below hg.size HB.out)
  have HC52 := Aside0.mk (Kd.C_below HC5.out HB.out)
  have HC62 := Aside0.mk (Kd.C_below HC6.out HB.out)
  have c_0 := cg2_0
  have c_1 := cg2_1
  have c_2 := cg2_2
  have c_3 := cg2_3
  have c_4 := cg2_4
  have c_5 := cg2_5
  have c_6 := cg2_6
  clear cg2_0 cg2_1 cg2_2 cg2_3 cg2_4 cg2_5 cg2_6 KS HC5 HC6
  have hwk : wrap64 ((k : Int) + 1) = (k : Int) + 1 := by unfold wrap64; omega
  rw [← hwk] at ihL1
  clear hwk
  have kel : 0 < s.elses.length := List.length_pos_iff.2 he
  clear he
  refine start_ (n := 16) (S := fun w' => w'.cell? ⟨g2, 0, none⟩ = some (.int .i64 s.does) ∧ w'.cell? ⟨g2, 1, none⟩ = some (.int .i64 s.pos.line) ∧ w'.cell? ⟨g2, 2, none⟩ = some (.int .i64 s.pos.col) ∧ w'.cell? ⟨g2, 3, none⟩ = some (.string s.name) ∧ w'.cell? ⟨g2, 4, none⟩ = some (.slice A4 s.es.length a4) ∧ w'.cell? ⟨g2, 5, none⟩ = some (.slice A5 s.thens.length a5) ∧ w'.cell? ⟨g2, 6, none⟩ = some (.slice A6 s.elses.length a6)) (ds := []) #[false, false, false, false, false, false, false, false, false, false, false, false, false, false, false, false] (by kernel_rfl) rfl rfl ⟨c_0, c_1, c_2, c_3, c_4, c_5, c_6⟩ (fun hHeld => ?_)
  refine pure_ (i := 0) (N := some 53) (v := ?_) (a' := ?_) #[true, false, false, false, false, false, false, false, false, false, false, false, false, false, false, false] rfl rfl (by kernel_rfl) (fun _ _ _ h => h) (Or.inl ⟨by rfl, ?_⟩) ?_ ?_
  rotate_left
  · intro w'
    go_simp
    with_reducible rfl
  rotate_left
  · simp only [Act.put, List.setIfInBounds_toArray, List.set_cons_zero, List.set_cons_succ, i64_w, i32_w]
    rfl
  refine pure_ (i := 1) (N := some 54) (v := ?_) (a' := ?_) #[true, true, false, false, false, false, false, false, false, false, false, false, false, false, false, false] rfl rfl (by kernel_rfl) (fun _ _ _ h => h) (Or.inl ⟨by rfl, ?_⟩) ?_ ?_
  rotate_left
  · intro w'
    go_simp
    with_reducible rfl
  rotate_left
  · simp only [Act.put, List.setIfInBounds_toArray, List.set_cons_zero, List.set_cons_succ, i64_w, i32_w]
    rfl
  refine pure_ (i := 6) (N := some 59) (v := ?_) (a' := ?_) #[true, true, false, false, false, false, true, false, false, false, false, false, false, false, false, false] rfl rfl (by kernel_rfl) (fun _ _ _ h => h) (Or.inl ⟨by rfl, ?_⟩) ?_ ?_
  rotate_left
  · intro w'
    go_simp
    with_reducible rfl
  rotate_left
  · simp only [Act.put, List.setIfInBounds_toArray, List.set_cons_zero, List.set_cons_succ, i64_w, i32_w]
    rfl
  refine pure_ (i := 8) (N := some 61) (v := ?_) (a' := ?_) #[true, true, false, false, false, false, true, false, true, false, false, false, false, false, false, false] rfl rfl (by kernel_rfl) (fun _ _ _ h => h) (Or.inl ⟨by rfl, ?_⟩) ?_ ?_
  rotate_left
  · intro w'
    go_simp
    with_reducible rfl
  rotate_left
  · simp only [Act.put, List.setIfInBounds_toArray, List.set_cons_zero, List.set_cons_succ, i64_w, i32_w]
    rfl
  refine pure_ (i := 9) (N := some 62) (v := ?_) (a' := ?_) #[true, true, false, false, false, false, true, false, true, true, false, false, false, false, false, false] rfl rfl (by kernel_rfl) (fun _ _ _ h => h) (Or.inl ⟨by rfl, ?_⟩) ?_ ?_
  rotate_left
  · intro w'
    go_simp
    with_reducible rfl
  rotate_left
  · simp only [Act.put, List.setIfInBounds_toArray, List.set_cons_zero, List.set_cons_succ, i64_w, i32_w]
    rfl
  refine pure_ (i := 12) (N := some 65) (v := ?_) (a' := ?_) #[true, true, false, false, false, false, true, false, true, true, false, false, true, false, false, false] rfl rfl (by kernel_rfl) (fun _ _ _ h => h) (Or.inl ⟨by rfl, ?_⟩) ?_ ?_
  rotate_left
  · intro w'
    go_simp
    with_reducible rfl
  rotate_left
  · simp only [Act.put, List.setIfInBounds_toArray, List.set_cons_zero, List.set_cons_succ, i64_w, i32_w]
    rfl
  refine take_ (i := 2) (N := some 55) (v := ?_) (a' := ?_) #[true, true, true, false, false, false, true, false, true, true, false, false, true, false, false, false] rfl rfl (by kernel_rfl) (fun _ _ _ h => h) (Or.inl ⟨by rfl, ?_⟩) hHeld ?_ ?_
  rotate_left
  · rintro w' ⟨s0, s1, s2, s3, s4, s5, s6⟩
    go_simp
    with_reducible rfl
  rotate_left
  · simp only [Act.put, List.setIfInBounds_toArray, List.set_cons_zero, List.set_cons_succ, i64_w, i32_w]
    rfl
  refine take_ (i := 7) (N := some 60) (v := ?_) (a' := ?_) #[true, true, true, false, false, false, true, true, true, true, false, false, true, false, false, false] rfl rfl (by kernel_rfl) (fun _ _ _ h => h) (Or.inl ⟨by rfl, ?_⟩) hHeld ?_ ?_
  rotate_left
  · rintro w' ⟨s0, s1, s2, s3, s4, s5, s6⟩
    go_simp
    with_reducible rfl
  rotate_left
  · simp only [Act.put, List.setIfInBounds_toArray, List.set_cons_zero, List.set_cons_succ, i64_w, i32_w]
    rfl
  refine one_ (i := 3) (N := some 56) #[true, true, true, true, false, false, true, true, true, true, false, false, true, false, false, false] rfl rfl (by kernel_rfl) (by decide) (fun K hK => ?_)
  refine goes_ Tryd.func32 (by kernel_rfl) rfl #[.agg #[.int .i64 s.does, .int .i64 s.pos.line, .int .i64 s.pos.col, .string s.name, .slice A4 s.es.length a4, .slice A5 s.thens.length a5, .slice A6 s.elses.length a6], .int .i64 0] (by rfl) rfl rfl (by simp only [List.map_toArray, List.map_cons, List.map_nil]; rfl) ?_
  with_reducible refine (at_calls s 0 _ _ (kStmt.K_below (below_drew1 (Below.refl _ _)) KS2.out) (hgW.out.below (Glob.size hgW.out) (below_drew1 (Below.refl _ _))) (by decide) HF.out).mono ?_
  rintro e w3 ⟨rfl, hb3⟩
  refine ⟨_, rfl, ?_⟩
  rw [← HZ0.out]
  have hc1 := Lib.hid hb3
  refine hK.out _ _ ⟨below_cell hb3 (Nat.le_refl _) (hHeld.1), below_cell hb3 (Nat.le_refl _) (hHeld.2.1), below_cell hb3 (Nat.le_refl _) (hHeld.2.2.1), below_cell hb3 (Nat.le_refl _) (hHeld.2.2.2.1), below_cell hb3 (Nat.le_refl _) (hHeld.2.2.2.2.1), below_cell hb3 (Nat.le_refl _) (hHeld.2.2.2.2.2.1), below_cell hb3 (Nat.le_refl _) (hHeld.2.2.2.2.2.2)⟩ (fun hHeld => ?_)
  clear hK K
  refine norm_ (a' := ?_) ?_ ?_
  rotate_left
  · show Act.put _ (some 56) _ = _
    simp only [Act.put, List.setIfInBounds_toArray, List.set_cons_zero, List.set_cons_succ, i64_w, i32_w]
    rfl
  refine pure_ (i := 4) (N := some 57) (v := ?_) (a' := ?_) #[true, true, true, true, true, false, true, true, true, true, false, false, true, false, false, false] rfl rfl (by kernel_rfl) (fun _ _ _ h => h) (Or.inl ⟨by rfl, ?_⟩) ?_ ?_
  rotate_left
  · intro w'
    go_simp
    with_reducible rfl
  rotate_left
  · simp only [Act.put, List.setIfInBounds_toArray, List.set_cons_zero, List.set_cons_succ, i64_w, i32_w]
    rfl
  refine pure_ (i := 5) (N := some 58) (v := ?_) (a' := ?_) #[true, true, true, true, true, true, true, true, true, true, false, false, true, false, false, false] rfl rfl (by kernel_rfl) (fun _ _ _ h => h) (Or.inl ⟨by rfl, ?_⟩) ?_ ?_
  rotate_left
  · intro w'
    go_simp
    with_reducible rfl
  rotate_left
  · simp only [Act.put, List.setIfInBounds_toArray, List.set_cons_zero, List.set_cons_succ, i64_w, i32_w]
    rfl
  refine one_ (i := 10) (N := some 63) #[true, true, true, true, true, true, true, true, true, true, true, false, true, false, false, false] rfl rfl (by kernel_rfl) (by decide) (fun K hK => ?_)
  refine goes_ Tryd.func33 (by kernel_rfl) rfl #[.slice A5 s.thens.length a5, .int .i64 (wrap64 ((k : Int) + 1))] (by rfl) rfl rfl (by simp only [List.map_toArray, List.map_cons, List.map_nil]; rfl) ?_
  with_reducible refine (ihL1 _ _ _ _ (Kd.C_below HC52.out (below_step (below_drew1 (Below.refl _ _)) hc1.out)) (hgW.out.below (Glob.size hgW.out) (below_step (below_drew1 (Below.refl _ _)) hc1.out))).mono ?_
  rintro e w3 ⟨rfl, hb3⟩
  refine ⟨_, rfl, ?_⟩
  rw [← HL1.out]
  have hc2 := Lib.hid hb3
  refine hK.out _ _ ⟨below_cell hb3 (Nat.le_refl _) (hHeld.1), below_cell hb3 (Nat.le_refl _) (hHeld.2.1), below_cell hb3 (Nat.le_refl _) (hHeld.2.2.1), below_cell hb3 (Nat.le_refl _) (hHeld.2.2.2.1), below_cell hb3 (Nat.le_refl _) (hHeld.2.2.2.2.1), below_cell hb3 (Nat.le_refl _) (hHeld.2.2.2.2.2.1), below_cell hb3 (Nat.le_refl _) (hHeld.2.2.2.2.2.2)⟩ (fun hHeld => ?_)
  clear hK K
  refine norm_ (a' := ?_) ?_ ?_
  rotate_left
  · show Act.put _ (some 63) _ = _
    simp only [Act.put, List.setIfInBounds_toArray, List.set_cons_zero, List.set_cons_succ, i64_w, i32_w]
    rfl
  refine pure_ (i := 11) (N := some 64) (v := ?_) (a' := ?_) #[true, true, true, true, true, true, true, true, true, true, true, true, true, false, false, false] rfl rfl (by kernel_rfl) (fun _ _ _ h => h) (Or.inl ⟨by rfl, ?_⟩) ?_ ?_
  rotate_left
  · intro w'
    go_simp
    with_reducible rfl
  rotate_left
  · simp only [Act.put, List.setIfInBounds_toArray, List.set_cons_zero, List.set_cons_succ, i64_w, i32_w]
    rfl
  refine pure_ (i := 13) (N := some 66) (v := ?_) (a' := ?_) #[true, true, true, true, true, true, true, true, true, true, true, true, true, true, false, false] rfl rfl (by kernel_rfl) (fun _ _ _ h => h) (Or.inl ⟨by rfl, ?_⟩) ?_ ?_
  rotate_left
  · intro w'
    go_simp
    with_reducible rfl
  rotate_left
  · simp only [Act.put, List.setIfInBounds_toArray, List.set_cons_zero, List.set_cons_succ, i64_w, i32_w]
    rfl
  refine pure_ (i := 14) (N := some 67) (v := ?_) (a' := ?_) #[true, true, true, true, true, true, true, true, true, true, true, true, true, true, true, false] rfl rfl (by kernel_rfl) (fun _ _ _ h => h) (Or.inl ⟨by rfl, ?_⟩) ?_ ?_
  rotate_left
  · intro w'
    go_simp
    with_reducible rfl
  rotate_left
  · simp only [Act.put, List.setIfInBounds_toArray, List.set_cons_zero, List.set_cons_succ, i64_w, i32_w]
    rfl
  refine pure_ (i := 15) (N := some 6) (v := ?_) (a' := ?_) #[true, true, true, true, true, true, true, true, true, true, true, true, true, true, true, true] rfl rfl (by kernel_rfl) (fun _ _ _ h => h) (Or.inl ⟨by rfl, ?_⟩) ?_ ?_
  rotate_left
  · intro w'
    go_simp
    with_reducible rfl
  rotate_left
  · simp only [Act.put, List.setIfInBounds_toArray, List.set_cons_zero, List.set_cons_succ, i64_w, i32_w]
    rfl
  refine done_ (by kernel_rfl) ?_
  replace HB := Aside0.mk (below_step HB.out (below_undrew (below_step hc1.out hc2.out)))
  obtain ⟨c_0, c_1, c_2, c_3, c_4, c_5, c_6⟩ := hHeld
  have HC63 := Aside0.mk (Kd.C_below HC62.out (below_undrew (below_step hc1.out hc2.out)))
  go_wp2_with (first | (go_at_call 33; (with_reducible refine (ihL2 _ _ _ _ HC63.out (hg.below hg.size HB.out)).mono ?_); rintro e w4 ⟨rfl, hb4_⟩; rw [← HL2.out]; replace HB := Aside0.mk (below_step HB.out hb4_); clear hb4_))
  go_ret
  refine ⟨ret_str ?_, HB.out⟩
  rw [HST.out]
  simp only [← bs_add, ← bs_of, ← HT.out, ← HZ0.out, ← HL1.out, ← HL2.out]
  rfl
end Go.Proofs.YtpbeplepcbhamaaDoor
