/- Expressions as text, as the statement writes them: what palingslaw03.expr computes. -/
import Derived.Test.YtpbeplepcbhamaaDoorMem
import Derived.Test.YtpbeplepcbhamaaDoorText
namespace Go.Proofs.YtpbeplepcbhamaaDoor
open Go.RowKit Go.Proofs.YtpbeplepcbhamaaDoorW.PrintWords Go.Proofs.YtpbeplepcbhamaaDoorW.PrintLast Go.Proofs.YtpbeplepcbhamaaDoorW.PrintMore
set_option linter.unusedVariables false
set_option linter.unusedSimpArgs false

theorem join_take (l : List (List UInt8)) (sep : List UInt8) (i : Nat) (y : List UInt8) (h : l[i]? = some y) : Lib.join (l.take (i + 1)) sep = if i = 0 then y else Lib.join (l.take i) sep ++ sep ++ y := by
  cases l with
  | nil => simp at h
  | cons x r =>
    cases i with
    | zero =>
      simp at h
      rw [if_pos rfl, List.take_succ_cons, List.take_zero, Lib.join_one, h]
    | succ k =>
      have h' : r[k]? = some y := by simpa using h
      rw [if_neg (by omega), List.take_succ_cons, List.take_succ_cons, Lib.join_cons, Lib.join_cons, Lib.joinTail_take_succ sep r k y h']
      simp [List.append_assoc]
theorem join_take_le (l : List (List UInt8)) (sep : List UInt8) (i : Nat) : (Lib.join (l.take i) sep).length ≤ (Lib.join l sep).length := by
  cases l with
  | nil => simp
  | cons x r =>
    cases i with
    | zero => simp [Lib.join_nil]
    | succ k =>
      have hr : r = r.take k ++ r.drop k := (List.take_append_drop k r).symm
      have hj : Lib.joinTail sep r = Lib.joinTail sep (r.take k) ++ Lib.joinTail sep (r.drop k) := by
        rw [Lib.joinTail, Lib.joinTail, Lib.joinTail, ← List.flatten_append, ← List.map_append, ← hr]
      rw [List.take_succ_cons, Lib.join_cons, Lib.join_cons, hj]
      simp only [List.length_append]
      omega

set_option maxRecDepth 100000 in
set_option maxHeartbeats 1600000 in
theorem ex_kids (x : Expr) (cs : List Value) (w : World) (hx : kExpr.K w x cs) (hg : Glob w) (n1 : x.kind ≠ 1) (n2 : x.kind ≠ 2) (n3 : x.kind ≠ 3) (n5 : x.kind ≠ 5) (h0 : 0 < x.kids.length) (hm : x.kids.length ≤ 8000000000000) (hf : Fit 140737488355328 x)
    (ih : ∀ y, y ∈ x.kids → ∀ cs w, kExpr.K w y cs → Glob w → Calls Tryd.prog 36 #[.agg cs.toArray] w fun e w' => e = .returned (.string (bs (etext y))) ∧ Below w.heap.size w w') :
    Calls Tryd.prog 36 #[.agg cs.toArray] w fun e w' => e = .returned (.string (bs (etext x))) ∧ Below w.heap.size w w' := by
  obtain ⟨A6, a6, rfl, hn, hl, hc⟩ := kExpr_open hx
  have HC := Aside0.mk hc
  have k1 : (x.kind == 1) = false := beq_eq_false_iff_ne.2 n1
  have k2 : (x.kind == 2) = false := beq_eq_false_iff_ne.2 n2
  have k3 : (x.kind == 3) = false := beq_eq_false_iff_ne.2 n3
  have k5 : (x.kind == 5) = false := beq_eq_false_iff_ne.2 n5
  have kl : ((x.kids.length : Int) == 0) = false := beq_eq_false_iff_ne.2 (by omega)
  have hw := IntWalk.wrap64_in ((x.kids.length : Int) - 1) (by omega)
  have hl1 : (0 : Int) ≤ wrap64 ((x.kids.length : Int) - 1) := by rw [hw]; omega
  have hl2 : wrap64 ((x.kids.length : Int) - 1) < (x.kids.length : Int) := by rw [hw]; omega
  have hl3 : (0 : Int) < (x.kids.length : Int) := by omega
  have HWI := Lib.hid (show (wrap64 ((x.kids.length : Int) - 1)).toNat = x.kids.length - 1 by rw [hw]; omega)
  have hmu0 : rdExpr x.kids 0 ∈ x.kids := rdExpr_mem _ _ (by omega) (by omega)
  have hmu1 : rdExpr x.kids (wrap64 ((x.kids.length : Int) - 1)) ∈ x.kids := rdExpr_mem _ _ hl1 hl2
  obtain ⟨P, hP⟩ : ∃ P, P = bs (etext (rdExpr x.kids 0)) := ⟨_, rfl⟩
  obtain ⟨Q, hQ⟩ : ∃ P, P = bs (etext (rdExpr x.kids (wrap64 ((x.kids.length : Int) - 1)))) := ⟨_, rfl⟩
  obtain ⟨R, hR⟩ : ∃ P, P = signOf x.op := ⟨_, rfl⟩
  have z0 : P.size ≤ 140737488355328 := by rw [hP, bs_size]; exact ((hf.kids.mem) _ hmu0).le
  have z1 : Q.size ≤ 140737488355328 := by rw [hQ, bs_size]; exact ((hf.kids.mem) _ hmu1).le
  have zs : R.size ≤ 2 := by rw [hR]; exact signOf_size x.op
  have t0 := head_text x.kids h0
  have t1 := last_text x.kids h0 (by omega)
  have hne : x.kids ≠ [] := by intro h; rw [h] at h0; simp at h0
  have HU0 := Lib.hid hP
  have HU1 := Lib.hid hQ
  have HSG := Lib.hid hR
  have T0 := Lib.hid t0
  have T1 := Lib.hid t1
  have HF := Lib.hid hf
  have N1 := Lib.hid n1
  have N2 := Lib.hid n2
  have N3 := Lib.hid n3
  have N5 := Lib.hid n5
  have HN := Lib.hid hne
  clear n1 n2 n3 n5 hx hw hP hQ hR t0 t1 hne hf hl hc hn
  by_cases n4 : x.kind = 4
  · have k4 : (x.kind == 4) = true := beq_iff_eq.2 n4
    have zn : x.name.size ≤ 140737488355328 := by
      have := HF.out.le
      rw [etext_eq x, if_neg N1.out, if_neg N2.out, if_neg N3.out, if_neg N5.out, if_neg HN.out, if_pos n4] at this
      simp only [List.length_append, size_toList] at this
      omega
    have N4 := Lib.hid n4
    clear n4
    go_enter Tryd.func36, Tryd.ntmps36
    go_wp2_with (first | ((with_reducible refine gate_dst (N := 1) rfl ?_); refine box_event ?hg (N := 1) ?hd (cs := #[.int .i64 x.kind, .int .i64 x.pos.line, .int .i64 x.pos.col, .int .i64 x.num, .string x.name, .int .i64 x.op, .slice A6 x.kids.length a6]) (t := 31) ?hr ?_; (case hd => rfl); (case hg => rfl); (case hr => first | (go_simp; done) | (go_simp; rfl)); intro gb hgE_ W1 hbox_ hb_; have GEgb := Aside0.mk (show w.heap.size ≤ gb from Nat.le_of_eq hgE_.symm); have HB := Aside0.mk hb_; have BKgb := Aside0.mk hbox_; have cgb_0 : W1.cell? ⟨gb, 0, none⟩ = some (.int .i64 x.kind) := (blk_cell BKgb.out 0).trans rfl; have cgb_3 : W1.cell? ⟨gb, 3, none⟩ = some (.int .i64 x.num) := (blk_cell BKgb.out 3).trans rfl; have cgb_4 : W1.cell? ⟨gb, 4, none⟩ = some (.string x.name) := (blk_cell BKgb.out 4).trans rfl; have cgb_5 : W1.cell? ⟨gb, 5, none⟩ = some (.int .i64 x.op) := (blk_cell BKgb.out 5).trans rfl; have cgb_6 : W1.cell? ⟨gb, 6, none⟩ = some (.slice A6 x.kids.length a6) := (blk_cell BKgb.out 6).trans rfl; clear hb_ hbox_ hgE_; obtain ⟨ad, D6, d6, ea, e0, e1, e2, e3, e4, e5, e6, em0, el6, eg6⟩ := atExpr (Kd.C_below HC.out HB.out) 0 (by omega) (by omega); obtain rfl := ea; rw [show Int.toNat 0 * 7 = 0 from rfl, show ad.add 0 = ad from rfl] at e0 e1 e2 e3 e4 e5 e6; have K0 := Aside0.mk (show kExpr.K W1 (rdExpr x.kids 0) [.int .i64 (rdExpr x.kids 0).kind, .int .i64 (rdExpr x.kids 0).pos.line, .int .i64 (rdExpr x.kids 0).pos.col, .int .i64 (rdExpr x.kids 0).num, .string (rdExpr x.kids 0).name, .int .i64 (rdExpr x.kids 0).op, .slice D6 (rdExpr x.kids 0).kids.length d6] from kExpr_mk W1 _ em0 el6 eg6); clear em0 el6 eg6) | (go_at_call 36; (with_reducible refine (ih _ hmu0 _ _ K0.out (hg.below hg.size HB.out)).mono ?_); rintro e W2 ⟨rfl, hb_⟩; rw [← HU0.out]; replace HB := Aside0.mk (below_step HB.out hb_); replace BKgb := Aside0.mk (blk_below BKgb.out hb_); replace cgb_0 : W2.cell? ⟨gb, 0, none⟩ = some (.int .i64 x.kind) := (blk_cell BKgb.out 0).trans rfl; replace cgb_3 : W2.cell? ⟨gb, 3, none⟩ = some (.int .i64 x.num) := (blk_cell BKgb.out 3).trans rfl; replace cgb_4 : W2.cell? ⟨gb, 4, none⟩ = some (.string x.name) := (blk_cell BKgb.out 4).trans rfl; replace cgb_5 : W2.cell? ⟨gb, 5, none⟩ = some (.int .i64 x.op) := (blk_cell BKgb.out 5).trans rfl; replace cgb_6 : W2.cell? ⟨gb, 6, none⟩ = some (.slice (some ad) x.kids.length a6) := (blk_cell BKgb.out 6).trans rfl; clear hb_ ; clear e0 e1 e2 e3 e4 e5 e6; obtain ⟨ad2, G6, g6, fa, f0, f1, f2, f3, f4, f5, f6, fm0, fl6, fg6⟩ := atExpr (Kd.C_below HC.out HB.out) (wrap64 ((x.kids.length : Int) - 1)) hl1 hl2; obtain rfl := Option.some.inj fa; rw [HWI.out] at f0 f1 f2 f3 f4 f5 f6; have K1 := Aside0.mk (show kExpr.K W2 (rdExpr x.kids (wrap64 ((x.kids.length : Int) - 1))) [.int .i64 (rdExpr x.kids (wrap64 ((x.kids.length : Int) - 1))).kind, .int .i64 (rdExpr x.kids (wrap64 ((x.kids.length : Int) - 1))).pos.line, .int .i64 (rdExpr x.kids (wrap64 ((x.kids.length : Int) - 1))).pos.col, .int .i64 (rdExpr x.kids (wrap64 ((x.kids.length : Int) - 1))).num, .string (rdExpr x.kids (wrap64 ((x.kids.length : Int) - 1))).name, .int .i64 (rdExpr x.kids (wrap64 ((x.kids.length : Int) - 1))).op, .slice G6 (rdExpr x.kids (wrap64 ((x.kids.length : Int) - 1))).kids.length g6] from kExpr_mk W2 _ fm0 fl6 fg6); clear fm0 fl6 fg6) | (go_at_call 36; (with_reducible refine (ih _ hmu1 _ _ K1.out (hg.below hg.size HB.out)).mono ?_); rintro e W3 ⟨rfl, hb_⟩; rw [← HU1.out]; replace HB := Aside0.mk (below_step HB.out hb_); replace BKgb := Aside0.mk (blk_below BKgb.out hb_); replace cgb_0 : W3.cell? ⟨gb, 0, none⟩ = some (.int .i64 x.kind) := (blk_cell BKgb.out 0).trans rfl; replace cgb_3 : W3.cell? ⟨gb, 3, none⟩ = some (.int .i64 x.num) := (blk_cell BKgb.out 3).trans rfl; replace cgb_4 : W3.cell? ⟨gb, 4, none⟩ = some (.string x.name) := (blk_cell BKgb.out 4).trans rfl; replace cgb_5 : W3.cell? ⟨gb, 5, none⟩ = some (.int .i64 x.op) := (blk_cell BKgb.out 5).trans rfl; replace cgb_6 : W3.cell? ⟨gb, 6, none⟩ = some (.slice (some ad) x.kids.length a6) := (blk_cell BKgb.out 6).trans rfl; clear hb_ ) | (go_at_call 8; refine (sign_calls _ _ (hg.below hg.size HB.out)).mono ?_; rintro e w' ⟨rfl, rfl⟩; rw [← HSG.out]))
    go_ret
    refine ⟨ret_str ?_, HB.out⟩
    rw [etext_eq x, if_neg N1.out, if_neg N2.out, if_neg N3.out, if_neg N5.out, if_neg HN.out, if_pos N4.out, T0.out, HU0.out]
    simp only [← bs_add, ← bs_of]; rfl
  · have k4 : (x.kind == 4) = false := beq_eq_false_iff_ne.2 n4
    have N4 := Lib.hid n4
    clear n4
    by_cases n9 : x.kind = 9
    · have k9 : (x.kind == 9) = true := beq_iff_eq.2 n9
      have N9 := Lib.hid n9
      clear n9
      go_enter Tryd.func36, Tryd.ntmps36
      go_wp2_with (first | ((with_reducible refine gate_dst (N := 1) rfl ?_); refine box_event ?hg (N := 1) ?hd (cs := #[.int .i64 x.kind, .int .i64 x.pos.line, .int .i64 x.pos.col, .int .i64 x.num, .string x.name, .int .i64 x.op, .slice A6 x.kids.length a6]) (t := 31) ?hr ?_; (case hd => rfl); (case hg => rfl); (case hr => first | (go_simp; done) | (go_simp; rfl)); intro gb hgE_ W1 hbox_ hb_; have GEgb := Aside0.mk (show w.heap.size ≤ gb from Nat.le_of_eq hgE_.symm); have HB := Aside0.mk hb_; have BKgb := Aside0.mk hbox_; have cgb_0 : W1.cell? ⟨gb, 0, none⟩ = some (.int .i64 x.kind) := (blk_cell BKgb.out 0).trans rfl; have cgb_3 : W1.cell? ⟨gb, 3, none⟩ = some (.int .i64 x.num) := (blk_cell BKgb.out 3).trans rfl; have cgb_4 : W1.cell? ⟨gb, 4, none⟩ = some (.string x.name) := (blk_cell BKgb.out 4).trans rfl; have cgb_5 : W1.cell? ⟨gb, 5, none⟩ = some (.int .i64 x.op) := (blk_cell BKgb.out 5).trans rfl; have cgb_6 : W1.cell? ⟨gb, 6, none⟩ = some (.slice A6 x.kids.length a6) := (blk_cell BKgb.out 6).trans rfl; clear hb_ hbox_ hgE_; obtain ⟨ad, D6, d6, ea, e0, e1, e2, e3, e4, e5, e6, em0, el6, eg6⟩ := atExpr (Kd.C_below HC.out HB.out) 0 (by omega) (by omega); obtain rfl := ea; rw [show Int.toNat 0 * 7 = 0 from rfl, show ad.add 0 = ad from rfl] at e0 e1 e2 e3 e4 e5 e6; have K0 := Aside0.mk (show kExpr.K W1 (rdExpr x.kids 0) [.int .i64 (rdExpr x.kids 0).kind, .int .i64 (rdExpr x.kids 0).pos.line, .int .i64 (rdExpr x.kids 0).pos.col, .int .i64 (rdExpr x.kids 0).num, .string (rdExpr x.kids 0).name, .int .i64 (rdExpr x.kids 0).op, .slice D6 (rdExpr x.kids 0).kids.length d6] from kExpr_mk W1 _ em0 el6 eg6); clear em0 el6 eg6) | (go_at_call 36; (with_reducible refine (ih _ hmu0 _ _ K0.out (hg.below hg.size HB.out)).mono ?_); rintro e W2 ⟨rfl, hb_⟩; rw [← HU0.out]; replace HB := Aside0.mk (below_step HB.out hb_); replace BKgb := Aside0.mk (blk_below BKgb.out hb_); replace cgb_0 : W2.cell? ⟨gb, 0, none⟩ = some (.int .i64 x.kind) := (blk_cell BKgb.out 0).trans rfl; replace cgb_3 : W2.cell? ⟨gb, 3, none⟩ = some (.int .i64 x.num) := (blk_cell BKgb.out 3).trans rfl; replace cgb_4 : W2.cell? ⟨gb, 4, none⟩ = some (.string x.name) := (blk_cell BKgb.out 4).trans rfl; replace cgb_5 : W2.cell? ⟨gb, 5, none⟩ = some (.int .i64 x.op) := (blk_cell BKgb.out 5).trans rfl; replace cgb_6 : W2.cell? ⟨gb, 6, none⟩ = some (.slice (some ad) x.kids.length a6) := (blk_cell BKgb.out 6).trans rfl; clear hb_ ; clear e0 e1 e2 e3 e4 e5 e6; obtain ⟨ad2, G6, g6, fa, f0, f1, f2, f3, f4, f5, f6, fm0, fl6, fg6⟩ := atExpr (Kd.C_below HC.out HB.out) (wrap64 ((x.kids.length : Int) - 1)) hl1 hl2; obtain rfl := Option.some.inj fa; rw [HWI.out] at f0 f1 f2 f3 f4 f5 f6; have K1 := Aside0.mk (show kExpr.K W2 (rdExpr x.kids (wrap64 ((x.kids.length : Int) - 1))) [.int .i64 (rdExpr x.kids (wrap64 ((x.kids.length : Int) - 1))).kind, .int .i64 (rdExpr x.kids (wrap64 ((x.kids.length : Int) - 1))).pos.line, .int .i64 (rdExpr x.kids (wrap64 ((x.kids.length : Int) - 1))).pos.col, .int .i64 (rdExpr x.kids (wrap64 ((x.kids.length : Int) - 1))).num, .string (rdExpr x.kids (wrap64 ((x.kids.length : Int) - 1))).name, .int .i64 (rdExpr x.kids (wrap64 ((x.kids.length : Int) - 1))).op, .slice G6 (rdExpr x.kids (wrap64 ((x.kids.length : Int) - 1))).kids.length g6] from kExpr_mk W2 _ fm0 fl6 fg6); clear fm0 fl6 fg6) | (go_at_call 36; (with_reducible refine (ih _ hmu1 _ _ K1.out (hg.below hg.size HB.out)).mono ?_); rintro e W3 ⟨rfl, hb_⟩; rw [← HU1.out]; replace HB := Aside0.mk (below_step HB.out hb_); replace BKgb := Aside0.mk (blk_below BKgb.out hb_); replace cgb_0 : W3.cell? ⟨gb, 0, none⟩ = some (.int .i64 x.kind) := (blk_cell BKgb.out 0).trans rfl; replace cgb_3 : W3.cell? ⟨gb, 3, none⟩ = some (.int .i64 x.num) := (blk_cell BKgb.out 3).trans rfl; replace cgb_4 : W3.cell? ⟨gb, 4, none⟩ = some (.string x.name) := (blk_cell BKgb.out 4).trans rfl; replace cgb_5 : W3.cell? ⟨gb, 5, none⟩ = some (.int .i64 x.op) := (blk_cell BKgb.out 5).trans rfl; replace cgb_6 : W3.cell? ⟨gb, 6, none⟩ = some (.slice (some ad) x.kids.length a6) := (blk_cell BKgb.out 6).trans rfl; clear hb_ ) | (go_at_call 8; refine (sign_calls _ _ (hg.below hg.size HB.out)).mono ?_; rintro e w' ⟨rfl, rfl⟩; rw [← HSG.out]))
      go_ret
      refine ⟨ret_str ?_, HB.out⟩
      rw [etext_eq x, if_neg N1.out, if_neg N2.out, if_neg N3.out, if_neg N5.out, if_neg HN.out, if_neg N4.out, if_pos N9.out, T0.out, HU0.out]
      simp only [← bs_add]; rfl
    · have k9 : (x.kind == 9) = false := beq_eq_false_iff_ne.2 n9
      have N9 := Lib.hid n9
      clear n9
      by_cases n7 : x.kind = 7
      · have k7 : (x.kind == 7) = true := beq_iff_eq.2 n7
        have N7 := Lib.hid n7
        clear n7
        go_enter Tryd.func36, Tryd.ntmps36
        go_wp2_with (first | ((with_reducible refine gate_dst (N := 1) rfl ?_); refine box_event ?hg (N := 1) ?hd (cs := #[.int .i64 x.kind, .int .i64 x.pos.line, .int .i64 x.pos.col, .int .i64 x.num, .string x.name, .int .i64 x.op, .slice A6 x.kids.length a6]) (t := 31) ?hr ?_; (case hd => rfl); (case hg => rfl); (case hr => first | (go_simp; done) | (go_simp; rfl)); intro gb hgE_ W1 hbox_ hb_; have GEgb := Aside0.mk (show w.heap.size ≤ gb from Nat.le_of_eq hgE_.symm); have HB := Aside0.mk hb_; have BKgb := Aside0.mk hbox_; have cgb_0 : W1.cell? ⟨gb, 0, none⟩ = some (.int .i64 x.kind) := (blk_cell BKgb.out 0).trans rfl; have cgb_3 : W1.cell? ⟨gb, 3, none⟩ = some (.int .i64 x.num) := (blk_cell BKgb.out 3).trans rfl; have cgb_4 : W1.cell? ⟨gb, 4, none⟩ = some (.string x.name) := (blk_cell BKgb.out 4).trans rfl; have cgb_5 : W1.cell? ⟨gb, 5, none⟩ = some (.int .i64 x.op) := (blk_cell BKgb.out 5).trans rfl; have cgb_6 : W1.cell? ⟨gb, 6, none⟩ = some (.slice A6 x.kids.length a6) := (blk_cell BKgb.out 6).trans rfl; clear hb_ hbox_ hgE_; obtain ⟨ad, D6, d6, ea, e0, e1, e2, e3, e4, e5, e6, em0, el6, eg6⟩ := atExpr (Kd.C_below HC.out HB.out) 0 (by omega) (by omega); obtain rfl := ea; rw [show Int.toNat 0 * 7 = 0 from rfl, show ad.add 0 = ad from rfl] at e0 e1 e2 e3 e4 e5 e6; have K0 := Aside0.mk (show kExpr.K W1 (rdExpr x.kids 0) [.int .i64 (rdExpr x.kids 0).kind, .int .i64 (rdExpr x.kids 0).pos.line, .int .i64 (rdExpr x.kids 0).pos.col, .int .i64 (rdExpr x.kids 0).num, .string (rdExpr x.kids 0).name, .int .i64 (rdExpr x.kids 0).op, .slice D6 (rdExpr x.kids 0).kids.length d6] from kExpr_mk W1 _ em0 el6 eg6); clear em0 el6 eg6) | (go_at_call 36; (with_reducible refine (ih _ hmu0 _ _ K0.out (hg.below hg.size HB.out)).mono ?_); rintro e W2 ⟨rfl, hb_⟩; rw [← HU0.out]; replace HB := Aside0.mk (below_step HB.out hb_); replace BKgb := Aside0.mk (blk_below BKgb.out hb_); replace cgb_0 : W2.cell? ⟨gb, 0, none⟩ = some (.int .i64 x.kind) := (blk_cell BKgb.out 0).trans rfl; replace cgb_3 : W2.cell? ⟨gb, 3, none⟩ = some (.int .i64 x.num) := (blk_cell BKgb.out 3).trans rfl; replace cgb_4 : W2.cell? ⟨gb, 4, none⟩ = some (.string x.name) := (blk_cell BKgb.out 4).trans rfl; replace cgb_5 : W2.cell? ⟨gb, 5, none⟩ = some (.int .i64 x.op) := (blk_cell BKgb.out 5).trans rfl; replace cgb_6 : W2.cell? ⟨gb, 6, none⟩ = some (.slice (some ad) x.kids.length a6) := (blk_cell BKgb.out 6).trans rfl; clear hb_ ; clear e0 e1 e2 e3 e4 e5 e6; obtain ⟨ad2, G6, g6, fa, f0, f1, f2, f3, f4, f5, f6, fm0, fl6, fg6⟩ := atExpr (Kd.C_below HC.out HB.out) (wrap64 ((x.kids.length : Int) - 1)) hl1 hl2; obtain rfl := Option.some.inj fa; rw [HWI.out] at f0 f1 f2 f3 f4 f5 f6; have K1 := Aside0.mk (show kExpr.K W2 (rdExpr x.kids (wrap64 ((x.kids.length : Int) - 1))) [.int .i64 (rdExpr x.kids (wrap64 ((x.kids.length : Int) - 1))).kind, .int .i64 (rdExpr x.kids (wrap64 ((x.kids.length : Int) - 1))).pos.line, .int .i64 (rdExpr x.kids (wrap64 ((x.kids.length : Int) - 1))).pos.col, .int .i64 (rdExpr x.kids (wrap64 ((x.kids.length : Int) - 1))).num, .string (rdExpr x.kids (wrap64 ((x.kids.length : Int) - 1))).name, .int .i64 (rdExpr x.kids (wrap64 ((x.kids.length : Int) - 1))).op, .slice G6 (rdExpr x.kids (wrap64 ((x.kids.length : Int) - 1))).kids.length g6] from kExpr_mk W2 _ fm0 fl6 fg6); clear fm0 fl6 fg6) | (go_at_call 36; (with_reducible refine (ih _ hmu1 _ _ K1.out (hg.below hg.size HB.out)).mono ?_); rintro e W3 ⟨rfl, hb_⟩; rw [← HU1.out]; replace HB := Aside0.mk (below_step HB.out hb_); replace BKgb := Aside0.mk (blk_below BKgb.out hb_); replace cgb_0 : W3.cell? ⟨gb, 0, none⟩ = some (.int .i64 x.kind) := (blk_cell BKgb.out 0).trans rfl; replace cgb_3 : W3.cell? ⟨gb, 3, none⟩ = some (.int .i64 x.num) := (blk_cell BKgb.out 3).trans rfl; replace cgb_4 : W3.cell? ⟨gb, 4, none⟩ = some (.string x.name) := (blk_cell BKgb.out 4).trans rfl; replace cgb_5 : W3.cell? ⟨gb, 5, none⟩ = some (.int .i64 x.op) := (blk_cell BKgb.out 5).trans rfl; replace cgb_6 : W3.cell? ⟨gb, 6, none⟩ = some (.slice (some ad) x.kids.length a6) := (blk_cell BKgb.out 6).trans rfl; clear hb_ ) | (go_at_call 8; refine (sign_calls _ _ (hg.below hg.size HB.out)).mono ?_; rintro e w' ⟨rfl, rfl⟩; rw [← HSG.out]))
        go_ret
        refine ⟨ret_str ?_, HB.out⟩
        rw [etext_eq x, if_neg N1.out, if_neg N2.out, if_neg N3.out, if_neg N5.out, if_neg HN.out, if_neg N4.out, if_neg N9.out, if_pos N7.out, T0.out, T1.out, HU0.out, HU1.out]
        rw [show ([32, 38, 38, 32] : List UInt8) = [32] ++ [38, 38] ++ [32] from rfl]
        simp only [← bs_add, ByteArray.append_assoc]; rfl
      · have k7 : (x.kind == 7) = false := beq_eq_false_iff_ne.2 n7
        have N7 := Lib.hid n7
        clear n7
        by_cases n8 : x.kind = 8
        · have k8 : (x.kind == 8) = true := beq_iff_eq.2 n8
          have N8 := Lib.hid n8
          clear n8
          go_enter Tryd.func36, Tryd.ntmps36
          go_wp2_with (first | ((with_reducible refine gate_dst (N := 1) rfl ?_); refine box_event ?hg (N := 1) ?hd (cs := #[.int .i64 x.kind, .int .i64 x.pos.line, .int .i64 x.pos.col, .int .i64 x.num, .string x.name, .int .i64 x.op, .slice A6 x.kids.length a6]) (t := 31) ?hr ?_; (case hd => rfl); (case hg => rfl); (case hr => first | (go_simp; done) | (go_simp; rfl)); intro gb hgE_ W1 hbox_ hb_; have GEgb := Aside0.mk (show w.heap.size ≤ gb from Nat.le_of_eq hgE_.symm); have HB := Aside0.mk hb_; have BKgb := Aside0.mk hbox_; have cgb_0 : W1.cell? ⟨gb, 0, none⟩ = some (.int .i64 x.kind) := (blk_cell BKgb.out 0).trans rfl; have cgb_3 : W1.cell? ⟨gb, 3, none⟩ = some (.int .i64 x.num) := (blk_cell BKgb.out 3).trans rfl; have cgb_4 : W1.cell? ⟨gb, 4, none⟩ = some (.string x.name) := (blk_cell BKgb.out 4).trans rfl; have cgb_5 : W1.cell? ⟨gb, 5, none⟩ = some (.int .i64 x.op) := (blk_cell BKgb.out 5).trans rfl; have cgb_6 : W1.cell? ⟨gb, 6, none⟩ = some (.slice A6 x.kids.length a6) := (blk_cell BKgb.out 6).trans rfl; clear hb_ hbox_ hgE_; obtain ⟨ad, D6, d6, ea, e0, e1, e2, e3, e4, e5, e6, em0, el6, eg6⟩ := atExpr (Kd.C_below HC.out HB.out) 0 (by omega) (by omega); obtain rfl := ea; rw [show Int.toNat 0 * 7 = 0 from rfl, show ad.add 0 = ad from rfl] at e0 e1 e2 e3 e4 e5 e6; have K0 := Aside0.mk (show kExpr.K W1 (rdExpr x.kids 0) [.int .i64 (rdExpr x.kids 0).kind, .int .i64 (rdExpr x.kids 0).pos.line, .int .i64 (rdExpr x.kids 0).pos.col, .int .i64 (rdExpr x.kids 0).num, .string (rdExpr x.kids 0).name, .int .i64 (rdExpr x.kids 0).op, .slice D6 (rdExpr x.kids 0).kids.length d6] from kExpr_mk W1 _ em0 el6 eg6); clear em0 el6 eg6) | (go_at_call 36; (with_reducible refine (ih _ hmu0 _ _ K0.out (hg.below hg.size HB.out)).mono ?_); rintro e W2 ⟨rfl, hb_⟩; rw [← HU0.out]; replace HB := Aside0.mk (below_step HB.out hb_); replace BKgb := Aside0.mk (blk_below BKgb.out hb_); replace cgb_0 : W2.cell? ⟨gb, 0, none⟩ = some (.int .i64 x.kind) := (blk_cell BKgb.out 0).trans rfl; replace cgb_3 : W2.cell? ⟨gb, 3, none⟩ = some (.int .i64 x.num) := (blk_cell BKgb.out 3).trans rfl; replace cgb_4 : W2.cell? ⟨gb, 4, none⟩ = some (.string x.name) := (blk_cell BKgb.out 4).trans rfl; replace cgb_5 : W2.cell? ⟨gb, 5, none⟩ = some (.int .i64 x.op) := (blk_cell BKgb.out 5).trans rfl; replace cgb_6 : W2.cell? ⟨gb, 6, none⟩ = some (.slice (some ad) x.kids.length a6) := (blk_cell BKgb.out 6).trans rfl; clear hb_ ; clear e0 e1 e2 e3 e4 e5 e6; obtain ⟨ad2, G6, g6, fa, f0, f1, f2, f3, f4, f5, f6, fm0, fl6, fg6⟩ := atExpr (Kd.C_below HC.out HB.out) (wrap64 ((x.kids.length : Int) - 1)) hl1 hl2; obtain rfl := Option.some.inj fa; rw [HWI.out] at f0 f1 f2 f3 f4 f5 f6; have K1 := Aside0.mk (show kExpr.K W2 (rdExpr x.kids (wrap64 ((x.kids.length : Int) - 1))) [.int .i64 (rdExpr x.kids (wrap64 ((x.kids.length : Int) - 1))).kind, .int .i64 (rdExpr x.kids (wrap64 ((x.kids.length : Int) - 1))).pos.line, .int .i64 (rdExpr x.kids (wrap64 ((x.kids.length : Int) - 1))).pos.col, .int .i64 (rdExpr x.kids (wrap64 ((x.kids.length : Int) - 1))).num, .string (rdExpr x.kids (wrap64 ((x.kids.length : Int) - 1))).name, .int .i64 (rdExpr x.kids (wrap64 ((x.kids.length : Int) - 1))).op, .slice G6 (rdExpr x.kids (wrap64 ((x.kids.length : Int) - 1))).kids.length g6] from kExpr_mk W2 _ fm0 fl6 fg6); clear fm0 fl6 fg6) | (go_at_call 36; (with_reducible refine (ih _ hmu1 _ _ K1.out (hg.below hg.size HB.out)).mono ?_); rintro e W3 ⟨rfl, hb_⟩; rw [← HU1.out]; replace HB := Aside0.mk (below_step HB.out hb_); replace BKgb := Aside0.mk (blk_below BKgb.out hb_); replace cgb_0 : W3.cell? ⟨gb, 0, none⟩ = some (.int .i64 x.kind) := (blk_cell BKgb.out 0).trans rfl; replace cgb_3 : W3.cell? ⟨gb, 3, none⟩ = some (.int .i64 x.num) := (blk_cell BKgb.out 3).trans rfl; replace cgb_4 : W3.cell? ⟨gb, 4, none⟩ = some (.string x.name) := (blk_cell BKgb.out 4).trans rfl; replace cgb_5 : W3.cell? ⟨gb, 5, none⟩ = some (.int .i64 x.op) := (blk_cell BKgb.out 5).trans rfl; replace cgb_6 : W3.cell? ⟨gb, 6, none⟩ = some (.slice (some ad) x.kids.length a6) := (blk_cell BKgb.out 6).trans rfl; clear hb_ ) | (go_at_call 8; refine (sign_calls _ _ (hg.below hg.size HB.out)).mono ?_; rintro e w' ⟨rfl, rfl⟩; rw [← HSG.out]))
          go_ret
          refine ⟨ret_str ?_, HB.out⟩
          rw [etext_eq x, if_neg N1.out, if_neg N2.out, if_neg N3.out, if_neg N5.out, if_neg HN.out, if_neg N4.out, if_neg N9.out, if_neg N7.out, if_pos N8.out, T0.out, T1.out, HU0.out, HU1.out]
          rw [show ([32, 124, 124, 32] : List UInt8) = [32] ++ [124, 124] ++ [32] from rfl]
          simp only [← bs_add, ByteArray.append_assoc]; rfl
        · have k8 : (x.kind == 8) = false := beq_eq_false_iff_ne.2 n8
          have N8 := Lib.hid n8
          clear n8
          go_enter Tryd.func36, Tryd.ntmps36
          go_wp2_with (first | ((with_reducible refine gate_dst (N := 1) rfl ?_); refine box_event ?hg (N := 1) ?hd (cs := #[.int .i64 x.kind, .int .i64 x.pos.line, .int .i64 x.pos.col, .int .i64 x.num, .string x.name, .int .i64 x.op, .slice A6 x.kids.length a6]) (t := 31) ?hr ?_; (case hd => rfl); (case hg => rfl); (case hr => first | (go_simp; done) | (go_simp; rfl)); intro gb hgE_ W1 hbox_ hb_; have GEgb := Aside0.mk (show w.heap.size ≤ gb from Nat.le_of_eq hgE_.symm); have HB := Aside0.mk hb_; have BKgb := Aside0.mk hbox_; have cgb_0 : W1.cell? ⟨gb, 0, none⟩ = some (.int .i64 x.kind) := (blk_cell BKgb.out 0).trans rfl; have cgb_3 : W1.cell? ⟨gb, 3, none⟩ = some (.int .i64 x.num) := (blk_cell BKgb.out 3).trans rfl; have cgb_4 : W1.cell? ⟨gb, 4, none⟩ = some (.string x.name) := (blk_cell BKgb.out 4).trans rfl; have cgb_5 : W1.cell? ⟨gb, 5, none⟩ = some (.int .i64 x.op) := (blk_cell BKgb.out 5).trans rfl; have cgb_6 : W1.cell? ⟨gb, 6, none⟩ = some (.slice A6 x.kids.length a6) := (blk_cell BKgb.out 6).trans rfl; clear hb_ hbox_ hgE_; obtain ⟨ad, D6, d6, ea, e0, e1, e2, e3, e4, e5, e6, em0, el6, eg6⟩ := atExpr (Kd.C_below HC.out HB.out) 0 (by omega) (by omega); obtain rfl := ea; rw [show Int.toNat 0 * 7 = 0 from rfl, show ad.add 0 = ad from rfl] at e0 e1 e2 e3 e4 e5 e6; have K0 := Aside0.mk (show kExpr.K W1 (rdExpr x.kids 0) [.int .i64 (rdExpr x.kids 0).kind, .int .i64 (rdExpr x.kids 0).pos.line, .int .i64 (rdExpr x.kids 0).pos.col, .int .i64 (rdExpr x.kids 0).num, .string (rdExpr x.kids 0).name, .int .i64 (rdExpr x.kids 0).op, .slice D6 (rdExpr x.kids 0).kids.length d6] from kExpr_mk W1 _ em0 el6 eg6); clear em0 el6 eg6) | (go_at_call 36; (with_reducible refine (ih _ hmu0 _ _ K0.out (hg.below hg.size HB.out)).mono ?_); rintro e W2 ⟨rfl, hb_⟩; rw [← HU0.out]; replace HB := Aside0.mk (below_step HB.out hb_); replace BKgb := Aside0.mk (blk_below BKgb.out hb_); replace cgb_0 : W2.cell? ⟨gb, 0, none⟩ = some (.int .i64 x.kind) := (blk_cell BKgb.out 0).trans rfl; replace cgb_3 : W2.cell? ⟨gb, 3, none⟩ = some (.int .i64 x.num) := (blk_cell BKgb.out 3).trans rfl; replace cgb_4 : W2.cell? ⟨gb, 4, none⟩ = some (.string x.name) := (blk_cell BKgb.out 4).trans rfl; replace cgb_5 : W2.cell? ⟨gb, 5, none⟩ = some (.int .i64 x.op) := (blk_cell BKgb.out 5).trans rfl; replace cgb_6 : W2.cell? ⟨gb, 6, none⟩ = some (.slice (some ad) x.kids.length a6) := (blk_cell BKgb.out 6).trans rfl; clear hb_ ; clear e0 e1 e2 e3 e4 e5 e6; obtain ⟨ad2, G6, g6, fa, f0, f1, f2, f3, f4, f5, f6, fm0, fl6, fg6⟩ := atExpr (Kd.C_below HC.out HB.out) (wrap64 ((x.kids.length : Int) - 1)) hl1 hl2; obtain rfl := Option.some.inj fa; rw [HWI.out] at f0 f1 f2 f3 f4 f5 f6; have K1 := Aside0.mk (show kExpr.K W2 (rdExpr x.kids (wrap64 ((x.kids.length : Int) - 1))) [.int .i64 (rdExpr x.kids (wrap64 ((x.kids.length : Int) - 1))).kind, .int .i64 (rdExpr x.kids (wrap64 ((x.kids.length : Int) - 1))).pos.line, .int .i64 (rdExpr x.kids (wrap64 ((x.kids.length : Int) - 1))).pos.col, .int .i64 (rdExpr x.kids (wrap64 ((x.kids.length : Int) - 1))).num, .string (rdExpr x.kids (wrap64 ((x.kids.length : Int) - 1))).name, .int .i64 (rdExpr x.kids (wrap64 ((x.kids.length : Int) - 1))).op, .slice G6 (rdExpr x.kids (wrap64 ((x.kids.length : Int) - 1))).kids.length g6] from kExpr_mk W2 _ fm0 fl6 fg6); clear fm0 fl6 fg6) | (go_at_call 36; (with_reducible refine (ih _ hmu1 _ _ K1.out (hg.below hg.size HB.out)).mono ?_); rintro e W3 ⟨rfl, hb_⟩; rw [← HU1.out]; replace HB := Aside0.mk (below_step HB.out hb_); replace BKgb := Aside0.mk (blk_below BKgb.out hb_); replace cgb_0 : W3.cell? ⟨gb, 0, none⟩ = some (.int .i64 x.kind) := (blk_cell BKgb.out 0).trans rfl; replace cgb_3 : W3.cell? ⟨gb, 3, none⟩ = some (.int .i64 x.num) := (blk_cell BKgb.out 3).trans rfl; replace cgb_4 : W3.cell? ⟨gb, 4, none⟩ = some (.string x.name) := (blk_cell BKgb.out 4).trans rfl; replace cgb_5 : W3.cell? ⟨gb, 5, none⟩ = some (.int .i64 x.op) := (blk_cell BKgb.out 5).trans rfl; replace cgb_6 : W3.cell? ⟨gb, 6, none⟩ = some (.slice (some ad) x.kids.length a6) := (blk_cell BKgb.out 6).trans rfl; clear hb_ ) | (go_at_call 8; refine (sign_calls _ _ (hg.below hg.size HB.out)).mono ?_; rintro e w' ⟨rfl, rfl⟩; rw [← HSG.out]))
          go_ret
          refine ⟨ret_str ?_, HB.out⟩
          rw [etext_eq x, if_neg N1.out, if_neg N2.out, if_neg N3.out, if_neg N5.out, if_neg HN.out, if_neg N4.out, if_neg N9.out, if_neg N7.out, if_neg N8.out, T0.out, T1.out, HU0.out, HU1.out, HSG.out]
          simp only [← bs_add, ← bs_of]; rfl

set_option maxRecDepth 100000 in
set_option maxHeartbeats 1600000 in
theorem ex_call (x : Expr) (cs : List Value) (w : World) (hx : kExpr.K w x cs) (hg : Glob w) (n5 : x.kind = 5) (hm : x.kids.length ≤ 8000000000000) (hf : Fit 140737488355328 x)
    (ih : ∀ y, y ∈ x.kids → ∀ cs w, kExpr.K w y cs → Glob w → Calls Tryd.prog 36 #[.agg cs.toArray] w fun e w' => e = .returned (.string (bs (etext y))) ∧ Below w.heap.size w w') :
    Calls Tryd.prog 36 #[.agg cs.toArray] w fun e w' => e = .returned (.string (bs (etext x))) ∧ Below w.heap.size w w' := by
  obtain ⟨A6, a6, rfl, hn, hl, hc⟩ := kExpr_open hx
  have HC := Aside0.mk hc
  have k1 : (x.kind == 1) = false := beq_eq_false_iff_ne.2 (by omega)
  have k2 : (x.kind == 2) = false := beq_eq_false_iff_ne.2 (by omega)
  have k3 : (x.kind == 3) = false := beq_eq_false_iff_ne.2 (by omega)
  have k5 : (x.kind == 5) = true := beq_iff_eq.2 n5
  have N5 := Lib.hid n5
  have hle := hf.le
  rw [etext_eq x, if_neg (by rw [n5]; decide), if_neg (by rw [n5]; decide), if_neg (by rw [n5]; decide), if_pos n5] at hle
  simp only [List.length_append, size_toList, List.length_singleton] at hle
  have HL := Aside0.mk hle
  have zn : x.name.size ≤ 140737488355328 := by omega
  have HF := Aside0.mk hf
  clear n5 hx hle hf hc hl hn
  go_enter Tryd.func36, Tryd.ntmps36
  go_wp2_with (first | ((with_reducible refine gate_dst (N := 1) rfl ?_); refine box_event ?hg (N := 1) ?hd (cs := #[.int .i64 x.kind, .int .i64 x.pos.line, .int .i64 x.pos.col, .int .i64 x.num, .string x.name, .int .i64 x.op, .slice A6 x.kids.length a6]) (t := 31) ?hr ?_; (case hd => rfl); (case hg => rfl); (case hr => first | (go_simp; done) | (go_simp; rfl)); intro gb hgE_ W1 hbox_ hb_; have GEgb := Aside0.mk (show w.heap.size ≤ gb from Nat.le_of_eq hgE_.symm); have HB := Aside0.mk hb_; have BKgb := Aside0.mk hbox_; have cgb_0 : W1.cell? ⟨gb, 0, none⟩ = some (.int .i64 x.kind) := (blk_cell BKgb.out 0).trans rfl; have cgb_3 : W1.cell? ⟨gb, 3, none⟩ = some (.int .i64 x.num) := (blk_cell BKgb.out 3).trans rfl; have cgb_4 : W1.cell? ⟨gb, 4, none⟩ = some (.string x.name) := (blk_cell BKgb.out 4).trans rfl; have cgb_5 : W1.cell? ⟨gb, 5, none⟩ = some (.int .i64 x.op) := (blk_cell BKgb.out 5).trans rfl; have cgb_6 : W1.cell? ⟨gb, 6, none⟩ = some (.slice A6 x.kids.length a6) := (blk_cell BKgb.out 6).trans rfl; clear hb_ hbox_ hgE_))
  go_loopg [3, 33] x.kids.length (fun kq v3 v33 w' => ∃ i : Int, v33 = .int .i64 i ∧ 0 ≤ i ∧ kq + i.toNat = x.kids.length ∧ v3 = .string (bs (x.name.data.toList ++ [40] ++ Lib.join ((etexts x.kids).take i.toNat) [44, 32])) ∧ Aside0 (Below w.heap.size w w'))
  case atStart =>
    refine ⟨0, rfl, by omega, by simp, ?_, HB⟩
    rw [show Int.toNat 0 = 0 from rfl, List.take_zero, Lib.join_nil, List.append_nil, ← bs_add, ← bs_of]
    rfl
  case round =>
    clear HB
    obtain ⟨i, rfl, hi0, hk, rfl, HB⟩ := hrel
    cases gk with
    | zero =>
      have hge : decide (i < (x.kids.length : Int)) = false := by simp; omega
      obtain rfl : i = x.kids.length := by omega
      rw [show ((x.kids.length : Int)).toNat = x.kids.length by simp, List.take_of_length_le (by rw [etexts_length]; exact Nat.le_refl _)]
      obtain ⟨P, hP⟩ : ∃ P, P = bs (x.name.data.toList ++ [40] ++ Lib.join (etexts x.kids) [44, 32]) := ⟨_, rfl⟩
      have zP : P.size ≤ 140737488355328 := by
        rw [hP, bs_size]
        simp only [List.length_append, size_toList, List.length_singleton]
        have := HL.out
        omega
      rw [← hP]
      have HP := Lib.hid hP
      clear hP
      go_wp2
      go_ret
      refine ⟨ret_str ?_, HB.out⟩
      rw [etext_eq x, if_neg (by rw [N5.out]; decide), if_neg (by rw [N5.out]; decide), if_neg (by rw [N5.out]; decide), if_pos N5.out, ← bs_add, HP.out]
      rfl
    | succ k1 =>
      have hi1 : i < (x.kids.length : Int) := by omega
      have hmu : rdExpr x.kids i ∈ x.kids := rdExpr_mem _ _ hi0 hi1
      have hlen : i.toNat < x.kids.length := by omega
      have hget : (etexts x.kids)[i.toNat]? = some (etext (rdExpr x.kids i)) := by
        rw [etexts_map, List.getElem?_map, List.getElem?_eq_getElem hlen]
        simp [rdExpr, List.getD_eq_getElem?_getD, hlen]
      have z1 := join_take_le (etexts x.kids) [44, 32] i.toNat
      obtain ⟨P, hP⟩ : ∃ P, P = bs (x.name.data.toList ++ [40] ++ Lib.join ((etexts x.kids).take i.toNat) [44, 32]) := ⟨_, rfl⟩
      obtain ⟨Q, hQ⟩ : ∃ P, P = bs (etext (rdExpr x.kids i)) := ⟨_, rfl⟩
      have zP : P.size ≤ 140737488355328 := by
        rw [hP, bs_size]
        simp only [List.length_append, size_toList, List.length_singleton]
        have := HL.out
        omega
      have zQ : Q.size ≤ 140737488355328 := by rw [hQ, bs_size]; exact (HF.out.kids.mem _ hmu).le
      rw [← hP]
      obtain ⟨ad, B6, b6, ea, e0, e1, e2, e3, e4, e5, e6, em0, el6, eg6⟩ := atExpr (Kd.C_below HC.out HB.out) i hi0 hi1
      obtain rfl := ea
      have KS := Aside0.mk (show kExpr.K wr (rdExpr x.kids i) [.int .i64 (rdExpr x.kids i).kind, .int .i64 (rdExpr x.kids i).pos.line, .int .i64 (rdExpr x.kids i).pos.col, .int .i64 (rdExpr x.kids i).num, .string (rdExpr x.kids i).name, .int .i64 (rdExpr x.kids i).op, .slice B6 (rdExpr x.kids i).kids.length b6] from kExpr_mk wr _ em0 el6 eg6)
      clear em0 el6 eg6 z1
      have hne : True := trivial
      by_cases hp : 0 < i
      · have hpos : decide ((0 : Int) < i) = true := by simp; omega
        have ht : bs (x.name.data.toList ++ [40] ++ Lib.join ((etexts x.kids).take (i + 1).toNat) [44, 32]) = P ++ ⟨#[44, 32]⟩ ++ Q := by
          rw [show (i + 1).toNat = i.toNat + 1 by omega, join_take _ _ _ _ hget, if_neg (by omega), hP, hQ]
          rw [← bs_add, ← bs_add, ← bs_add, ← bs_add, ← bs_add, ← bs_add]; simp only [ByteArray.append_assoc]; rfl
        have HT := Lib.hid ht
        have HQ := Lib.hid hQ
        clear ht hP hQ hget hne
        go_wp2_with (first | (go_at_call 36; refine (ih _ hmu _ _ (kExpr.K_below ((Below.refl _ _).alloc (Nat.le_refl _) _) KS.out) (hg.below hg.size ((HB.out).alloc HB.out.size _))).mono ?_; rintro e w1 ⟨rfl, hb1⟩; rw [← HQ.out]; replace HB := Aside0.mk (below_step (HB.out.alloc HB.out.size _) hb1); clear hb1))
        go_roundg k1
        case measure => omega
        case rel =>
          refine ⟨i + 1, ?_, by omega, by omega, ?_, HB⟩
          · rfl
          · rw [HT.out]
      · have hpos : decide ((0 : Int) < i) = false := by simp; omega
        have ht : bs (x.name.data.toList ++ [40] ++ Lib.join ((etexts x.kids).take (i + 1).toNat) [44, 32]) = P ++ Q := by
          rw [show (i + 1).toNat = i.toNat + 1 by omega, join_take _ _ _ _ hget, if_pos (by omega), hP, hQ]
          rw [show i.toNat = 0 by omega, List.take_zero, Lib.join_nil, List.append_nil, bs_add]
        have HT := Lib.hid ht
        have HQ := Lib.hid hQ
        clear ht hP hQ hget hne
        go_wp2_with (first | (go_at_call 36; refine (ih _ hmu _ _ (kExpr.K_below ((Below.refl _ _).alloc (Nat.le_refl _) _) KS.out) (hg.below hg.size ((HB.out).alloc HB.out.size _))).mono ?_; rintro e w1 ⟨rfl, hb1⟩; rw [← HQ.out]; replace HB := Aside0.mk (below_step (HB.out.alloc HB.out.size _) hb1); clear hb1))
        go_roundg k1
        case measure => omega
        case rel =>
          refine ⟨i + 1, ?_, by omega, by omega, ?_, HB⟩
          · rfl
          · rw [HT.out]


set_option maxRecDepth 100000 in
theorem ex_num (x : Expr) (cs : List Value) (w : World) (hx : kExpr.K w x cs) (hg : Glob w) (n1 : x.kind = 1) :
    Calls Tryd.prog 36 #[.agg cs.toArray] w fun e w' => e = .returned (.string (bs (etext x))) ∧ Below w.heap.size w w' := by
  obtain ⟨A6, a6, rfl, hn, hl, hc⟩ := kExpr_open hx
  have k1 : (x.kind == 1) = true := beq_iff_eq.2 n1
  have N1 := Lib.hid n1
  have Hn := Lib.hid hn
  clear n1 hx hc hl hn
  go_enter Tryd.func36, Tryd.ntmps36
  go_wp2_with (first | ((with_reducible refine gate_dst (N := 1) rfl ?_); refine box_event ?hg (N := 1) ?hd (cs := #[.int .i64 x.kind, .int .i64 x.pos.line, .int .i64 x.pos.col, .int .i64 x.num, .string x.name, .int .i64 x.op, .slice A6 x.kids.length a6]) (t := 31) ?hr ?_; (case hd => rfl); (case hg => rfl); (case hr => first | (go_simp; done) | (go_simp; rfl)); intro gb hgE_ W1 hbox_ hb_; have GEgb := Aside0.mk (show w.heap.size ≤ gb from Nat.le_of_eq hgE_.symm); have HB := Aside0.mk hb_; have BKgb := Aside0.mk hbox_; have cgb_0 : W1.cell? ⟨gb, 0, none⟩ = some (.int .i64 x.kind) := (blk_cell BKgb.out 0).trans rfl; have cgb_3 : W1.cell? ⟨gb, 3, none⟩ = some (.int .i64 x.num) := (blk_cell BKgb.out 3).trans rfl; have cgb_4 : W1.cell? ⟨gb, 4, none⟩ = some (.string x.name) := (blk_cell BKgb.out 4).trans rfl; have cgb_5 : W1.cell? ⟨gb, 5, none⟩ = some (.int .i64 x.op) := (blk_cell BKgb.out 5).trans rfl; have cgb_6 : W1.cell? ⟨gb, 6, none⟩ = some (.slice A6 x.kids.length a6) := (blk_cell BKgb.out 6).trans rfl; clear hb_ hbox_ hgE_) | (go_at_call 40; (refine (Tryd.strconv_FormatInt_10 _ Hn.out.1 Hn.out.2 _ (hg.below hg.size HB.out).pow).mono ?_); rintro e W2 ⟨rfl, hw_⟩; have hb_ := below_of_grow hw_; clear hw_; replace HB := Aside0.mk (below_step HB.out hb_); replace BKgb := Aside0.mk (blk_below BKgb.out hb_); replace cgb_0 : W2.cell? ⟨gb, 0, none⟩ = some (.int .i64 x.kind) := (blk_cell BKgb.out 0).trans rfl; replace cgb_3 : W2.cell? ⟨gb, 3, none⟩ = some (.int .i64 x.num) := (blk_cell BKgb.out 3).trans rfl; replace cgb_4 : W2.cell? ⟨gb, 4, none⟩ = some (.string x.name) := (blk_cell BKgb.out 4).trans rfl; replace cgb_5 : W2.cell? ⟨gb, 5, none⟩ = some (.int .i64 x.op) := (blk_cell BKgb.out 5).trans rfl; replace cgb_6 : W2.cell? ⟨gb, 6, none⟩ = some (.slice A6 x.kids.length a6) := (blk_cell BKgb.out 6).trans rfl; clear hb_ ))
  go_ret
  refine ⟨ret_str ?_, HB.out⟩
  rw [etext_eq x, if_pos N1.out]
  rfl

set_option maxRecDepth 100000 in
theorem ex_truth (x : Expr) (cs : List Value) (w : World) (hx : kExpr.K w x cs) (n2 : x.kind = 2) :
    Calls Tryd.prog 36 #[.agg cs.toArray] w fun e w' => e = .returned (.string (bs (etext x))) ∧ Below w.heap.size w w' := by
  obtain ⟨A6, a6, rfl, hn, hl, hc⟩ := kExpr_open hx
  have k1 : (x.kind == 1) = false := beq_eq_false_iff_ne.2 (by omega)
  have k2 : (x.kind == 2) = true := beq_iff_eq.2 n2
  have N2 := Lib.hid n2
  clear n2 hx hc hl hn
  by_cases nz : x.num = 0
  · have kz : (x.num == 0) = true := beq_iff_eq.2 nz
    have Nz := Lib.hid nz
    clear nz
    go_enter Tryd.func36, Tryd.ntmps36
    go_wp2_with (first | ((with_reducible refine gate_dst (N := 1) rfl ?_); refine box_event ?hg (N := 1) ?hd (cs := #[.int .i64 x.kind, .int .i64 x.pos.line, .int .i64 x.pos.col, .int .i64 x.num, .string x.name, .int .i64 x.op, .slice A6 x.kids.length a6]) (t := 31) ?hr ?_; (case hd => rfl); (case hg => rfl); (case hr => first | (go_simp; done) | (go_simp; rfl)); intro gb hgE_ W1 hbox_ hb_; have GEgb := Aside0.mk (show w.heap.size ≤ gb from Nat.le_of_eq hgE_.symm); have HB := Aside0.mk hb_; have BKgb := Aside0.mk hbox_; have cgb_0 : W1.cell? ⟨gb, 0, none⟩ = some (.int .i64 x.kind) := (blk_cell BKgb.out 0).trans rfl; have cgb_3 : W1.cell? ⟨gb, 3, none⟩ = some (.int .i64 x.num) := (blk_cell BKgb.out 3).trans rfl; have cgb_4 : W1.cell? ⟨gb, 4, none⟩ = some (.string x.name) := (blk_cell BKgb.out 4).trans rfl; have cgb_5 : W1.cell? ⟨gb, 5, none⟩ = some (.int .i64 x.op) := (blk_cell BKgb.out 5).trans rfl; have cgb_6 : W1.cell? ⟨gb, 6, none⟩ = some (.slice A6 x.kids.length a6) := (blk_cell BKgb.out 6).trans rfl; clear hb_ hbox_ hgE_))
    go_ret
    refine ⟨ret_str ?_, HB.out⟩
    rw [etext_eq x, if_neg (by rw [N2.out]; decide), if_pos N2.out, if_pos Nz.out]
    rfl
  · have kz : (x.num == 0) = false := beq_eq_false_iff_ne.2 nz
    have Nz := Lib.hid nz
    clear nz
    go_enter Tryd.func36, Tryd.ntmps36
    go_wp2_with (first | ((with_reducible refine gate_dst (N := 1) rfl ?_); refine box_event ?hg (N := 1) ?hd (cs := #[.int .i64 x.kind, .int .i64 x.pos.line, .int .i64 x.pos.col, .int .i64 x.num, .string x.name, .int .i64 x.op, .slice A6 x.kids.length a6]) (t := 31) ?hr ?_; (case hd => rfl); (case hg => rfl); (case hr => first | (go_simp; done) | (go_simp; rfl)); intro gb hgE_ W1 hbox_ hb_; have GEgb := Aside0.mk (show w.heap.size ≤ gb from Nat.le_of_eq hgE_.symm); have HB := Aside0.mk hb_; have BKgb := Aside0.mk hbox_; have cgb_0 : W1.cell? ⟨gb, 0, none⟩ = some (.int .i64 x.kind) := (blk_cell BKgb.out 0).trans rfl; have cgb_3 : W1.cell? ⟨gb, 3, none⟩ = some (.int .i64 x.num) := (blk_cell BKgb.out 3).trans rfl; have cgb_4 : W1.cell? ⟨gb, 4, none⟩ = some (.string x.name) := (blk_cell BKgb.out 4).trans rfl; have cgb_5 : W1.cell? ⟨gb, 5, none⟩ = some (.int .i64 x.op) := (blk_cell BKgb.out 5).trans rfl; have cgb_6 : W1.cell? ⟨gb, 6, none⟩ = some (.slice A6 x.kids.length a6) := (blk_cell BKgb.out 6).trans rfl; clear hb_ hbox_ hgE_))
    go_ret
    refine ⟨ret_str ?_, HB.out⟩
    rw [etext_eq x, if_neg (by rw [N2.out]; decide), if_pos N2.out, if_neg Nz.out]
    rfl

set_option maxRecDepth 100000 in
theorem ex_var (x : Expr) (cs : List Value) (w : World) (hx : kExpr.K w x cs) (n3 : x.kind = 3) :
    Calls Tryd.prog 36 #[.agg cs.toArray] w fun e w' => e = .returned (.string (bs (etext x))) ∧ Below w.heap.size w w' := by
  obtain ⟨A6, a6, rfl, hn, hl, hc⟩ := kExpr_open hx
  have k1 : (x.kind == 1) = false := beq_eq_false_iff_ne.2 (by omega)
  have k2 : (x.kind == 2) = false := beq_eq_false_iff_ne.2 (by omega)
  have k3 : (x.kind == 3) = true := beq_iff_eq.2 n3
  have N3 := Lib.hid n3
  clear n3 hx hc hl hn
  go_enter Tryd.func36, Tryd.ntmps36
  go_wp2_with (first | ((with_reducible refine gate_dst (N := 1) rfl ?_); refine box_event ?hg (N := 1) ?hd (cs := #[.int .i64 x.kind, .int .i64 x.pos.line, .int .i64 x.pos.col, .int .i64 x.num, .string x.name, .int .i64 x.op, .slice A6 x.kids.length a6]) (t := 31) ?hr ?_; (case hd => rfl); (case hg => rfl); (case hr => first | (go_simp; done) | (go_simp; rfl)); intro gb hgE_ W1 hbox_ hb_; have GEgb := Aside0.mk (show w.heap.size ≤ gb from Nat.le_of_eq hgE_.symm); have HB := Aside0.mk hb_; have BKgb := Aside0.mk hbox_; have cgb_0 : W1.cell? ⟨gb, 0, none⟩ = some (.int .i64 x.kind) := (blk_cell BKgb.out 0).trans rfl; have cgb_3 : W1.cell? ⟨gb, 3, none⟩ = some (.int .i64 x.num) := (blk_cell BKgb.out 3).trans rfl; have cgb_4 : W1.cell? ⟨gb, 4, none⟩ = some (.string x.name) := (blk_cell BKgb.out 4).trans rfl; have cgb_5 : W1.cell? ⟨gb, 5, none⟩ = some (.int .i64 x.op) := (blk_cell BKgb.out 5).trans rfl; have cgb_6 : W1.cell? ⟨gb, 6, none⟩ = some (.slice A6 x.kids.length a6) := (blk_cell BKgb.out 6).trans rfl; clear hb_ hbox_ hgE_))
  go_ret
  refine ⟨ret_str ?_, HB.out⟩
  rw [etext_eq x, if_neg (by rw [N3.out]; decide), if_neg (by rw [N3.out]; decide), if_pos N3.out]
  exact bs_of _

set_option maxRecDepth 100000 in
theorem ex_bare (x : Expr) (cs : List Value) (w : World) (hx : kExpr.K w x cs) (n1 : x.kind ≠ 1) (n2 : x.kind ≠ 2) (n3 : x.kind ≠ 3) (n5 : x.kind ≠ 5) (h0 : x.kids = []) :
    Calls Tryd.prog 36 #[.agg cs.toArray] w fun e w' => e = .returned (.string (bs (etext x))) ∧ Below w.heap.size w w' := by
  obtain ⟨A6, a6, rfl, hn, hl, hc⟩ := kExpr_open hx
  have k1 : (x.kind == 1) = false := beq_eq_false_iff_ne.2 n1
  have k2 : (x.kind == 2) = false := beq_eq_false_iff_ne.2 n2
  have k3 : (x.kind == 3) = false := beq_eq_false_iff_ne.2 n3
  have k5 : (x.kind == 5) = false := beq_eq_false_iff_ne.2 n5
  have kl : ((x.kids.length : Int) == 0) = true := by rw [h0]; rfl
  have N1 := Lib.hid n1
  have N2 := Lib.hid n2
  have N3 := Lib.hid n3
  have N5 := Lib.hid n5
  have H0 := Lib.hid h0
  clear n1 n2 n3 n5 h0 hx hc hl hn
  go_enter Tryd.func36, Tryd.ntmps36
  go_wp2_with (first | ((with_reducible refine gate_dst (N := 1) rfl ?_); refine box_event ?hg (N := 1) ?hd (cs := #[.int .i64 x.kind, .int .i64 x.pos.line, .int .i64 x.pos.col, .int .i64 x.num, .string x.name, .int .i64 x.op, .slice A6 x.kids.length a6]) (t := 31) ?hr ?_; (case hd => rfl); (case hg => rfl); (case hr => first | (go_simp; done) | (go_simp; rfl)); intro gb hgE_ W1 hbox_ hb_; have GEgb := Aside0.mk (show w.heap.size ≤ gb from Nat.le_of_eq hgE_.symm); have HB := Aside0.mk hb_; have BKgb := Aside0.mk hbox_; have cgb_0 : W1.cell? ⟨gb, 0, none⟩ = some (.int .i64 x.kind) := (blk_cell BKgb.out 0).trans rfl; have cgb_3 : W1.cell? ⟨gb, 3, none⟩ = some (.int .i64 x.num) := (blk_cell BKgb.out 3).trans rfl; have cgb_4 : W1.cell? ⟨gb, 4, none⟩ = some (.string x.name) := (blk_cell BKgb.out 4).trans rfl; have cgb_5 : W1.cell? ⟨gb, 5, none⟩ = some (.int .i64 x.op) := (blk_cell BKgb.out 5).trans rfl; have cgb_6 : W1.cell? ⟨gb, 6, none⟩ = some (.slice A6 x.kids.length a6) := (blk_cell BKgb.out 6).trans rfl; clear hb_ hbox_ hgE_))
  go_ret
  refine ⟨ret_str ?_, HB.out⟩
  rw [etext_eq x, if_neg N1.out, if_neg N2.out, if_neg N3.out, if_neg N5.out, if_pos H0.out]
  rfl

/-- WHAT expr COMPUTES. -/
theorem ex_calls (n : Nat) : ∀ (x : Expr), SizeOf.sizeOf x ≤ n → Fit 140737488355328 x → Slim 8000000000000 x → ∀ (cs : List Value) (w : World), kExpr.K w x cs → Glob w →
    Calls Tryd.prog 36 #[.agg cs.toArray] w fun e w' => e = .returned (.string (bs (etext x))) ∧ Below w.heap.size w w' := by
  induction n with
  | zero =>
    intro x hx
    cases x
    simp at hx
  | succ n ih =>
    intro x hx hf hs cs w hk hg
    have ih' : ∀ y, y ∈ x.kids → ∀ cs w, kExpr.K w y cs → Glob w → Calls Tryd.prog 36 #[.agg cs.toArray] w fun e w' => e = .returned (.string (bs (etext y))) ∧ Below w.heap.size w w' :=
      fun y hy cs w hk hg => ih y (by have := kid_size hy; omega) (hf.kids.mem y hy) (hs.kids.mem y hy) cs w hk hg
    by_cases n1 : x.kind = 1
    · exact ex_num x cs w hk hg n1
    by_cases n2 : x.kind = 2
    · exact ex_truth x cs w hk n2
    by_cases n3 : x.kind = 3
    · exact ex_var x cs w hk n3
    by_cases n5 : x.kind = 5
    · exact ex_call x cs w hk hg n5 hs.le hf ih'
    by_cases h0 : x.kids = []
    · exact ex_bare x cs w hk n1 n2 n3 n5 h0
    · exact ex_kids x cs w hk hg n1 n2 n3 n5 (List.length_pos_iff.2 h0) hs.le hf ih'
end Go.Proofs.YtpbeplepcbhamaaDoor
