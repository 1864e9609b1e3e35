/- plain: what it computes. -/
import Derived.Test.YtpbeplepcbhamaaDoorStextC
import Derived.Test.YtpbeplepcbhamaaDoorNames
namespace Go.Proofs.YtpbeplepcbhamaaDoor
open Go.RowKit Go.Proofs.YtpbeplepcbhamaaDoorW.PrintWords Go.Proofs.YtpbeplepcbhamaaDoorW.PrintLast Go.Proofs.YtpbeplepcbhamaaDoorW.PrintMore
set_option linter.unusedVariables false
set_option linter.unusedSimpArgs false

theorem heapExpr : Kd.Heap kExpr := Kd.heap_fix (fun d hd => Kd.heap_iso _ (Kd.heap_pair (Kd.heap_int _) (Kd.heap_pair (Kd.heap_iso _ (Kd.heap_pair (Kd.heap_int _) (Kd.heap_int _))) (Kd.heap_pair ⟨fun _ h => h⟩ (Kd.heap_pair Kd.heap_string (Kd.heap_pair (Kd.heap_int _) (Kd.heap_slice _ hd)))))))
theorem heapStmt : Kd.Heap kStmt := Kd.heap_fix (fun d hd => Kd.heap_iso _ (Kd.heap_pair (Kd.heap_int _) (Kd.heap_pair (Kd.heap_iso _ (Kd.heap_pair (Kd.heap_int _) (Kd.heap_int _))) (Kd.heap_pair Kd.heap_string (Kd.heap_pair (Kd.heap_slice _ heapExpr) (Kd.heap_pair (Kd.heap_slice _ hd) (Kd.heap_slice _ hd)))))))
theorem infoStmt : (Tryd.prog.info? 38).map (fun i => (i.zero, i.size, i.bytes)) = some (some (.agg #[.int .i64 0, .int .i64 0, .int .i64 0, .string ⟨#[]⟩, .slice none 0 0, .slice none 0 0, .slice none 0 0]), 7, 112) := by kernel_rfl

mutual
/-- Has a statement no names with new lines or tabs? -/
def plainS : Stmt → Bool
  | ⟨_, _, name, es, thens, elses⟩ => okName name && (es.all namesE && (plains thens && plains elses))
def plains : List Stmt → Bool
  | [] => true
  | s :: r => plainS s && plains r
end
theorem plains_all : ∀ xs, plains xs = xs.all plainS
  | [] => by simp [plains]
  | s :: r => by rw [plains, plains_all r, List.all_cons]
theorem plainS_eq (s : Stmt) : plainS s = (okName s.name && (s.es.all namesE && (s.thens ++ s.elses).all plainS)) := by
  cases s
  rw [plainS, plains_all, plains_all, List.all_append]
theorem stext_pos (s : Stmt) (d : Nat) : 0 < (stext s d).length := by
  rw [stext_eq]
  repeat' split
  all_goals simp only [List.length_append, List.length_cons]; omega

set_option maxRecDepth 100000 in
set_option maxHeartbeats 3200000 in
theorem plain_step (s : Stmt) (cs : List Value) (w : World) (hs : kStmt.K w s cs) (hg : Glob w) (hf : SFit s 0) (hsz : s.name.size ≤ 9223372036854775807) (hnf : ∀ e, e ∈ s.es → NamesFit e) (hl5 : s.thens.length ≤ 1000) (hl6 : s.elses.length ≤ 1000)
    (ih : ∀ p, p ∈ s.thens ++ s.elses → ∀ cs w, kStmt.K w p cs → Glob w → Calls Tryd.prog 15 #[.agg cs.toArray] w fun e w' => e = .returned (.bool (plainS p)) ∧ Below w.heap.size w w') :
    Calls Tryd.prog 15 #[.agg cs.toArray] w fun e w' => e = .returned (.bool (plainS s)) ∧ Below w.heap.size w w' := by
  have KS := Aside0.mk hs
  obtain ⟨A4, a4, A5, a5, A6, a6, rfl, el4, eg4, el5, eg5, el6, eg6⟩ := kStmt_open hs
  have HC4 := Aside0.mk eg4
  have HC5 := Aside0.mk eg5
  have HC6 := Aside0.mk eg6
  have HFT := Aside0.mk (show SFit s (Int.toNat 0) from hf)
  have HNF := Aside0.mk hnf
  have hm4 := eg4.2.1
  obtain ⟨X, hX_⟩ : ∃ X, X = bs (stext s 0) := ⟨_, rfl⟩
  have HX := Lib.hid hX_
  have hxp : 0 < X.size := by
    rw [hX_, bs_size]
    exact stext_pos s 0
  clear eg4 el4 eg5 el5 eg6 el6 hs hf hnf hX_
  go_enter Tryd.func15, Tryd.ntmps15
  go_wp2_with (first | ((with_reducible refine gate_dst (N := 1) rfl ?_); refine box_event ?hg (N := 1) ?hd (cs := #[.int .i64 s.does, .int .i64 s.pos.line, .int .i64 s.pos.col, .string s.name, .slice A4 s.es.length a4, .slice A5 s.thens.length a5, .slice A6 s.elses.length a6]) (t := 38) ?hr ?_; (case hd => rfl); (case hg => rfl); (case hr => first | (go_simp; done) | (go_simp; rfl)); intro g1 hgE_ W1 hbox_ hb_; have GEg1 := Aside0.mk (show w.heap.size ≤ g1 from Nat.le_of_eq hgE_.symm); have HB := Aside0.mk hb_; have BKg1 := Aside0.mk hbox_; have cg1_0 : W1.cell? ⟨g1, 0, none⟩ = some (.int .i64 s.does) := (blk_cell BKg1.out 0).trans rfl; have cg1_1 : W1.cell? ⟨g1, 1, none⟩ = some (.int .i64 s.pos.line) := (blk_cell BKg1.out 1).trans rfl; have cg1_2 : W1.cell? ⟨g1, 2, none⟩ = some (.int .i64 s.pos.col) := (blk_cell BKg1.out 2).trans rfl; have cg1_3 : W1.cell? ⟨g1, 3, none⟩ = some (.string s.name) := (blk_cell BKg1.out 3).trans rfl; have cg1_4 : W1.cell? ⟨g1, 4, none⟩ = some (.slice A4 s.es.length a4) := (blk_cell BKg1.out 4).trans rfl; have cg1_5 : W1.cell? ⟨g1, 5, none⟩ = some (.slice A5 s.thens.length a5) := (blk_cell BKg1.out 5).trans rfl; have cg1_6 : W1.cell? ⟨g1, 6, none⟩ = some (.slice A6 s.elses.length a6) := (blk_cell BKg1.out 6).trans rfl; clear hb_ hbox_ hgE_) | (go_at_call 16; (with_reducible refine (stext_any s 0 _ _ (kStmt.K_below HB.out KS.out) (hg.below hg.size HB.out) HFT.out).mono ?_); rintro e W2 ⟨rfl, hb_⟩; rw [show bs (stext s (Int.toNat 0)) = X from HX.out.symm]; replace HB := Aside0.mk (below_step HB.out hb_); replace BKg1 := Aside0.mk (blk_below BKg1.out hb_); replace cg1_0 : W2.cell? ⟨g1, 0, none⟩ = some (.int .i64 s.does) := (blk_cell BKg1.out 0).trans rfl; replace cg1_1 : W2.cell? ⟨g1, 1, none⟩ = some (.int .i64 s.pos.line) := (blk_cell BKg1.out 1).trans rfl; replace cg1_2 : W2.cell? ⟨g1, 2, none⟩ = some (.int .i64 s.pos.col) := (blk_cell BKg1.out 2).trans rfl; replace cg1_3 : W2.cell? ⟨g1, 3, none⟩ = some (.string s.name) := (blk_cell BKg1.out 3).trans rfl; replace cg1_4 : W2.cell? ⟨g1, 4, none⟩ = some (.slice A4 s.es.length a4) := (blk_cell BKg1.out 4).trans rfl; replace cg1_5 : W2.cell? ⟨g1, 5, none⟩ = some (.slice A5 s.thens.length a5) := (blk_cell BKg1.out 5).trans rfl; replace cg1_6 : W2.cell? ⟨g1, 6, none⟩ = some (.slice A6 s.elses.length a6) := (blk_cell BKg1.out 6).trans rfl; clear hb_ ))
  have HB1 := HB
  go_loopg [4] s.name.size (fun kq v3 w' => ∃ i : Int, v3 = .int .i64 i ∧ 0 ≤ i ∧ kq + i.toNat = s.name.size ∧ w' = W2 ∧ Aside0 (∀ j, j < i.toNat → okB (s.name.data.toList.getD j 0) = true))
  case atStart => exact ⟨0, rfl, by omega, by simp, rfl, ⟨fun j hj => absurd hj (by simp)⟩⟩
  case round =>
    obtain ⟨i, rfl, hi0, hk, rfl, HS⟩ := hrel
    cases gk with
    | succ k1_ =>
      have hi1 : i < (s.name.size : Int) := by omega
      by_cases t10 : ((s.name[i.toNat]'(by omega)).toNat : Int) = 10
      · have q10 : (((s.name[i.toNat]'(by omega)).toNat : Int) == 10) = true := beq_iff_eq.2 t10
        have HT := Aside0.mk t10
        go_wp2_with fail
        go_ret
        refine ⟨?_, HB.out⟩
        have HNO := Aside0.mk (show okName s.name = false from all_false okB 0 _ i.toNat (by rw [size_toList]; omega) (by rw [byte_at s.name i.toNat (by omega)]; exact okB_ten HT.out))
        rw [plainS_eq, HNO.out, Bool.false_and]
        rfl
      by_cases t9 : ((s.name[i.toNat]'(by omega)).toNat : Int) = 9
      · have q10 : (((s.name[i.toNat]'(by omega)).toNat : Int) == 10) = false := beq_eq_false_iff_ne.2 t10
        have q9 : (((s.name[i.toNat]'(by omega)).toNat : Int) == 9) = true := beq_iff_eq.2 t9
        have HT := Aside0.mk t9
        go_wp2_with fail
        go_ret
        refine ⟨?_, HB.out⟩
        have HNO := Aside0.mk (show okName s.name = false from all_false okB 0 _ i.toNat (by rw [size_toList]; omega) (by rw [byte_at s.name i.toNat (by omega)]; exact okB_nine HT.out))
        rw [plainS_eq, HNO.out, Bool.false_and]
        rfl
      have q10 : (((s.name[i.toNat]'(by omega)).toNat : Int) == 10) = false := beq_eq_false_iff_ne.2 t10
      have q9 : (((s.name[i.toNat]'(by omega)).toNat : Int) == 9) = false := beq_eq_false_iff_ne.2 t9
      have HT := Aside0.mk (okB_true t10 t9)
      go_wp2_with fail
      go_roundg k1_
      case measure => omega
      case rel =>
        refine ⟨i + 1, rfl, by omega, by omega, rfl, ⟨fun j hj => ?_⟩⟩
        by_cases hji : j < i.toNat
        · exact HS.out j hji
        · obtain rfl : j = i.toNat := by omega
          rw [byte_at s.name i.toNat (by omega)]
          exact HT.out
    | zero =>
      have hge : decide (i < (s.name.size : Int)) = false := by simp; omega
      have HOK := Aside0.mk (show okName s.name = true from all_true okB 0 _ (fun j hj => HS.out j (by rw [size_toList] at hj; omega)))
      go_wp2_with fail
      clear HS HB1 cg1_0 cg1_1 cg1_2 cg1_3 cg1_4 cg1_5 cg1_6
      have HB0 := HB
      have BK0 := BKg1
      clear HB BKg1
      go_loopg [33] s.es.length (fun kq v33 w' => ∃ i : Int, v33 = .int .i64 i ∧ 0 ≤ i ∧ kq + i.toNat = s.es.length ∧ Aside0 (∀ j, j < i.toNat → namesE (s.es.getD j zExpr) = true) ∧ Aside0 (w'.heap[g1]? = some (.cells #[.int .i64 s.does, .int .i64 s.pos.line, .int .i64 s.pos.col, .string s.name, .slice A4 s.es.length a4, .slice A5 s.thens.length a5, .slice A6 s.elses.length a6] 38 (0, 0))) ∧ Aside0 (Below w.heap.size w w'))
      case atStart => exact ⟨0, rfl, by omega, by simp, ⟨fun j hj => absurd hj (by simp)⟩, BK0, HB0⟩
      case round =>
        clear BK0 HB0
        obtain ⟨i, rfl, hi0, hk, HS, BKg1, HB⟩ := hrel
        cases gk with
        | succ k1_ =>
          have hi1 : i < (s.es.length : Int) := by omega
          have hx1 := Kd.C_below HC4.out HB.out
          obtain ⟨ad, B6, b6, ea, e0, e1, e2, e3, e4, e5, e6, em0, el6, eg6⟩ := atExpr hx1 i hi0 hi1
          obtain rfl := ea
          have hmx : rdExpr s.es i ∈ s.es := rdExpr_mem _ _ hi0 hi1
          have K0 := Aside0.mk (show kExpr.K wr (rdExpr s.es i) [.int .i64 (rdExpr s.es i).kind, .int .i64 (rdExpr s.es i).pos.line, .int .i64 (rdExpr s.es i).pos.col, .int .i64 (rdExpr s.es i).num, .string (rdExpr s.es i).name, .int .i64 (rdExpr s.es i).op, .slice B6 (rdExpr s.es i).kids.length b6] from kExpr_mk wr _ em0 el6 eg6)
          clear em0 el6 eg6 hx1
          have HB2 := Aside0.mk (fun o => (Below.refl _ _).alloc (Nat.le_refl _) o : ∀ o, Below wr.heap.size wr (wr.alloc o))
          cases hv : namesE (rdExpr s.es i) with
          | true =>
            have Hv := Aside0.mk hv
            clear hv
            go_wp2_with (first | (go_at_call 30; (with_reducible refine (names_calls _ _ (Nat.le_refl _) (HNF.out _ hmx) _ _ (kExpr.K_below (HB2.out _) K0.out)).mono ?_); rintro e w1 ⟨rfl, hb1_⟩; rw [Hv.out]; have BK1 := Aside0.mk (blk_below (blk_below BKg1.out (HB2.out _)) hb1_); have HB1 := Aside0.mk (below_step (below_step HB.out (HB2.out _)) hb1_); clear hb1_))
            go_roundg k1_
            case measure => omega
            case rel =>
              refine ⟨i + 1, rfl, by omega, by omega, ⟨fun j hj => ?_⟩, BK1, HB1⟩
              by_cases hji : j < i.toNat
              · exact HS.out j hji
              · obtain rfl : j = i.toNat := by omega
                exact Hv.out
          | false =>
            have Hv := Aside0.mk hv
            clear hv
            go_wp2_with (first | (go_at_call 30; (with_reducible refine (names_calls _ _ (Nat.le_refl _) (HNF.out _ hmx) _ _ (kExpr.K_below (HB2.out _) K0.out)).mono ?_); rintro e w1 ⟨rfl, hb1_⟩; rw [Hv.out]; have BK1 := Aside0.mk (blk_below (blk_below BKg1.out (HB2.out _)) hb1_); have HB1 := Aside0.mk (below_step (below_step HB.out (HB2.out _)) hb1_); clear hb1_))
            go_ret
            refine ⟨?_, HB1.out⟩
            rw [plainS_eq, all_false namesE zExpr s.es i.toNat (by omega) Hv.out, Bool.false_and, Bool.and_false]
            rfl
        | zero =>
          have hge : decide (i < (s.es.length : Int)) = false := by simp; omega
          have HOE := Aside0.mk (show s.es.all namesE = true from all_true _ zExpr s.es (fun j hj => HS.out j (by omega)))
          have hvv : plainS s = (s.thens ++ s.elses).all plainS := by rw [plainS_eq, HOK.out, HOE.out, Bool.true_and, Bool.true_and]
          have HVV := Aside0.mk hvv
          have c_5 : wr.cell? ⟨g1, 5, none⟩ = some (.slice A5 s.thens.length a5) := (blk_cell BKg1.out 5).trans rfl
          have c_6 : wr.cell? ⟨g1, 6, none⟩ = some (.slice A6 s.elses.length a6) := (blk_cell BKg1.out 6).trans rfl
          have F5 := Aside0.mk (Kd.C_F heapStmt HC5.out)
          have F6 := Aside0.mk (Kd.C_F heapStmt HC6.out)
          clear hvv HS HOE
          go_wp2_with fail
          refine start_ (n := 9) (S := fun w' => w'.cell? ⟨g1, 5, none⟩ = some (.slice A5 s.thens.length a5) ∧ w'.cell? ⟨g1, 6, none⟩ = some (.slice A6 s.elses.length a6)) (ds := []) #[false, false, false, false, false, false, false, false, false] (by kernel_rfl) rfl rfl ⟨c_5, c_6⟩ (fun hHeld => ?_)
          refine pure_ (i := 1) (N := some 42) (v := ?_) (a' := ?_) #[false, true, false, false, false, false, false, false, false] rfl rfl (by kernel_rfl) (fun _ _ _ h => h) (Or.inl ⟨by rfl, ?_⟩) ?_ ?_
          rotate_left
          · intro w'
            go_simp
            with_reducible rfl
          rotate_left
          · simp only [Act.put, List.setIfInBounds_toArray, List.set_cons_zero, List.set_cons_succ, i64_w, i32_w]
            rfl
          refine pure_ (i := 4) (N := some 45) (v := ?_) (a' := ?_) #[false, true, false, false, true, false, false, false, false] rfl rfl (by kernel_rfl) (fun _ _ _ h => h) (Or.inl ⟨by rfl, ?_⟩) ?_ ?_
          rotate_left
          · intro w'
            go_simp
            with_reducible rfl
          rotate_left
          · simp only [Act.put, List.setIfInBounds_toArray, List.set_cons_zero, List.set_cons_succ, i64_w, i32_w]
            rfl
          refine pure_ (i := 8) (N := some 49) (v := ?_) (a' := ?_) #[false, true, false, false, true, false, false, false, true] rfl rfl (by kernel_rfl) (fun _ _ _ h => h) (Or.inl ⟨by rfl, ?_⟩) ?_ ?_
          rotate_left
          · intro w'
            go_simp
            with_reducible rfl
          rotate_left
          · simp only [Act.put, List.setIfInBounds_toArray, List.set_cons_zero, List.set_cons_succ, i64_w, i32_w]
            rfl
          refine take_ (i := 2) (N := some 43) (v := ?_) (a' := ?_) #[false, true, true, false, true, false, false, false, true] rfl rfl (by kernel_rfl) (fun _ _ _ h => h) (Or.inl ⟨by rfl, ?_⟩) hHeld ?_ ?_
          rotate_left
          · rintro w' ⟨s0, s1⟩
            go_simp
            with_reducible rfl
          rotate_left
          · simp only [Act.put, List.setIfInBounds_toArray, List.set_cons_zero, List.set_cons_succ, i64_w, i32_w]
            rfl
          refine take_ (i := 5) (N := some 46) (v := ?_) (a' := ?_) #[false, true, true, false, true, true, false, false, true] rfl rfl (by kernel_rfl) (fun _ _ _ h => h) (Or.inl ⟨by rfl, ?_⟩) hHeld ?_ ?_
          rotate_left
          · rintro w' ⟨s0, s1⟩
            go_simp
            with_reducible rfl
          rotate_left
          · simp only [Act.put, List.setIfInBounds_toArray, List.set_cons_zero, List.set_cons_succ, i64_w, i32_w]
            rfl
          refine one_ (i := 0) (N := some 41) #[true, true, true, false, true, true, false, false, true] rfl rfl (by kernel_rfl) (by decide) (fun K hK => ?_)
          refine Kd.N_lit_step kStmt (w0 := w) w.heap.size 38 (by rfl) (N' := 41) rfl (xs := []) (inner := []) (ok := fun k => k ≠ g1) (okp := fun _ => False) ?n1 (Reps.none _ _) (fun _ h => h.elim) ?n4 (below_drew1 HB.out) HB.out.size ?n7 ?_
          case n1 => first | (go_simp; done) | (go_simp; rfl)
          case n4 => exact Nat.ne_of_gt (blk_lt BKg1.out)
          case n7 => exact Nat.zero_le _
          intro v1 w3 hn1 hb1 hg1 hat1
          replace BKg1 := Aside0.mk (blk_grown (w := wr.drew) BKg1.out hg1 (by simp))
          have HN1 := Aside0.mk hn1
          have HB1 := Aside0.mk hb1
          obtain ⟨B1, p1, hv1_⟩ := Kd.N_slice hn1
          subst hv1_
          clear hn1 hb1 hg1 hat1
          refine hK.out _ _ ⟨(blk_cell BKg1.out 5).trans rfl, (blk_cell BKg1.out 6).trans rfl⟩ (fun hHeld => ?_)
          clear hK K
          refine norm_ (a' := ?_) ?_ ?_
          rotate_left
          · show Act.put _ (some 41) _ = _
            simp only [Act.put, List.setIfInBounds_toArray, List.set_cons_zero, List.set_cons_succ, i64_w, i32_w]
            rfl
          refine one_ (i := 3) (N := some 44) #[true, true, true, true, true, true, false, false, true] rfl rfl (by kernel_rfl) (by decide) (fun K hK => ?_)
          refine Kd.N_append_rows_step kStmt (w0 := w) w.heap.size (by rfl) (.tmp 41) (.tmp 43) 36 38 (.agg #[.int .i64 0, .int .i64 0, .int .i64 0, .string ⟨#[]⟩, .slice none 0 0, .slice none 0 0, .slice none 0 0]) 112 (by rfl) Tryd.underlying36 infoStmt rfl (by decide) (by omega) (.slice B1 0 p1) [] s.thens A5 s.thens.length a5 (fun k => k ≠ g1) (fun k => k < w.heap.size) (by rfl) (by rfl) HN1.out (Kd.F_below F5.out HB1.out) ?a2F ?a2G HB1.out HB1.out.size ?a2L ?_
          case a2F => exact fun k hk => ⟨fun he => by have := GEg1.out; omega, fun he => by have := Kd.N_base HN1.out k he.symm; omega⟩
          case a2G => exact fun k hk => Nat.ne_of_gt (Nat.lt_of_lt_of_le (blk_lt BKg1.out) hk)
          case a2L => simp only [List.length_append, List.length_nil]; omega
          intro v2 w3 hn2 hb2 hg2 hat2
          replace BKg1 := Aside0.mk (blk_grown BKg1.out hg2 (Kd.N_away HN1.out (fun _ h => h)))
          have HN2 := Aside0.mk hn2
          have HB2 := Aside0.mk hb2
          obtain ⟨B2, p2, hv2_⟩ := Kd.N_slice hn2
          subst hv2_
          clear hn2 hb2 hg2 hat2
          refine hK.out _ _ ⟨(blk_cell BKg1.out 5).trans rfl, (blk_cell BKg1.out 6).trans rfl⟩ (fun hHeld => ?_)
          clear hK K
          refine norm_ (a' := ?_) ?_ ?_
          rotate_left
          · show Act.put _ (some 44) _ = _
            simp only [Act.put, List.setIfInBounds_toArray, List.set_cons_zero, List.set_cons_succ, i64_w, i32_w]
            rfl
          refine one_ (i := 6) (N := some 47) #[true, true, true, true, true, true, true, false, true] rfl rfl (by kernel_rfl) (by decide) (fun K hK => ?_)
          refine Kd.N_append_rows_step kStmt (w0 := w) w.heap.size (by rfl) (.tmp 44) (.tmp 46) 36 38 (.agg #[.int .i64 0, .int .i64 0, .int .i64 0, .string ⟨#[]⟩, .slice none 0 0, .slice none 0 0, .slice none 0 0]) 112 (by rfl) Tryd.underlying36 infoStmt rfl (by decide) (by omega) (.slice B2 ([] ++ s.thens).length p2) ([] ++ s.thens) s.elses A6 s.elses.length a6 (fun k => k ≠ g1) (fun k => k < w.heap.size) (by rfl) (by rfl) HN2.out (Kd.F_below F6.out HB2.out) ?a3F ?a3G HB2.out HB2.out.size ?a3L ?_
          case a3F => exact fun k hk => ⟨fun he => by have := GEg1.out; omega, fun he => by have := Kd.N_base HN2.out k he.symm; omega⟩
          case a3G => exact fun k hk => Nat.ne_of_gt (Nat.lt_of_lt_of_le (blk_lt BKg1.out) hk)
          case a3L => simp only [List.length_append, List.length_nil]; omega
          intro v3 w3 hn3 hb3 hg3 hat3
          replace BKg1 := Aside0.mk (blk_grown BKg1.out hg3 (Kd.N_away HN2.out (fun _ h => h)))
          have HN3 := Aside0.mk hn3
          have HB3 := Aside0.mk hb3
          obtain ⟨B3, p3, hv3_⟩ := Kd.N_slice hn3
          subst hv3_
          clear hn3 hb3 hg3 hat3
          refine hK.out _ _ ⟨(blk_cell BKg1.out 5).trans rfl, (blk_cell BKg1.out 6).trans rfl⟩ (fun hHeld => ?_)
          clear hK K
          refine norm_ (a' := ?_) ?_ ?_
          rotate_left
          · show Act.put _ (some 47) _ = _
            simp only [Act.put, List.setIfInBounds_toArray, List.set_cons_zero, List.set_cons_succ, i64_w, i32_w]
            rfl
          refine pure_ (i := 7) (N := some 48) (v := ?_) (a' := ?_) #[true, true, true, true, true, true, true, true, true] rfl rfl (by kernel_rfl) (fun _ _ _ h => h) (Or.inl ⟨by rfl, ?_⟩) ?_ ?_
          rotate_left
          · intro w'
            go_simp
            with_reducible rfl
          rotate_left
          · simp only [Act.put, List.setIfInBounds_toArray, List.set_cons_zero, List.set_cons_succ, i64_w, i32_w]
            rfl
          refine done_ (by kernel_rfl) ?_
          clear hHeld
          obtain ⟨xs, hxs⟩ : ∃ xs, xs = s.thens ++ s.elses := ⟨_, rfl⟩
          have hlen : (([] ++ s.thens) ++ s.elses).length = xs.length := by rw [hxs, List.nil_append]
          have hN3 := HN3.out
          rw [List.nil_append, ← hxs] at hN3
          have HN4 := Aside0.mk hN3
          have hmx : xs.length ≤ 2000 := by rw [hxs, List.length_append]; omega
          rw [← hxs] at ih HVV
          have hl48 : ((s.thens.length : Int) + (s.elses.length : Int)) = (xs.length : Int) := by rw [hxs, List.length_append]; omega
          rw [hlen, hl48]
          have HBL := HB3
          clear hlen hl48 hxs hN3 HN3 HN2 HN1 HB1 HB2 HB3 HB BKg1 c_5 c_6 F5 F6 HC4 HC5 HC6
          go_wp2_with fail
          go_loopg [49] xs.length (fun kq v49 w' => ∃ i : Int, v49 = .int .i64 i ∧ 0 ≤ i ∧ kq + i.toNat = xs.length ∧ Aside0 (∀ j, j < i.toNat → plainS (xs.getD j zStmt) = true) ∧ Aside0 (Below w.heap.size w w') ∧ Aside0 (Kd.N kStmt 38 w' w.heap.size (fun k => k ≠ g1) (.slice B3 xs.length p3) xs))
          case atStart => exact ⟨0, rfl, by omega, by simp, ⟨fun j hj => absurd hj (by simp)⟩, HBL, HN4⟩
          case round =>
            clear HBL HN4
            obtain ⟨i, rfl, hi0, hk, HS, HB, HN⟩ := hrel
            cases gk with
            | zero =>
              have hge : decide (i < (xs.length : Int)) = false := by simp; omega
              have HALL := Aside0.mk (show xs.all plainS = true from all_true _ zStmt xs (fun j hj => HS.out j (by omega)))
              go_wp2_with fail
              go_ret
              refine ⟨?_, HB.out⟩
              rw [HVV.out, HALL.out]
              rfl
            | succ k1_ =>
              have hi1 : i < (xs.length : Int) := by omega
              have hx1 := (Kd.N_reads' HN.out).2.2
              obtain ⟨ad, D4, d4, D5, d5, D6, d6, ea, e0, e1, e2, e3, e4, e5, e6, el4, eg4, el5, eg5, el6, eg6⟩ := atStmt hx1 i hi0 hi1
              obtain rfl := ea
              have hms : rdStmt xs i ∈ xs := rdStmt_mem _ _ hi0 hi1
              have K0 := Aside0.mk (show kStmt.K wr (rdStmt xs i) [.int .i64 (rdStmt xs i).does, .int .i64 (rdStmt xs i).pos.line, .int .i64 (rdStmt xs i).pos.col, .string (rdStmt xs i).name, .slice D4 (rdStmt xs i).es.length d4, .slice D5 (rdStmt xs i).thens.length d5, .slice D6 (rdStmt xs i).elses.length d6] from kStmt_mk wr _ el4 eg4 el5 eg5 el6 eg6)
              clear el4 eg4 el5 eg5 el6 eg6 hx1
              have HB2 := Aside0.mk (fun o => (Below.refl _ _).alloc (Nat.le_refl _) o : ∀ o, Below wr.heap.size wr (wr.alloc o))
              cases hv : plainS (rdStmt xs i) with
              | true =>
                have Hv := Aside0.mk hv
                clear hv
                go_wp2_with (first | (go_at_call 15; (with_reducible refine (ih _ hms _ _ (kStmt.K_below (HB2.out _) K0.out) (hg.below hg.size (below_step HB.out (HB2.out _)))).mono ?_); rintro e w1 ⟨rfl, hb1_⟩; rw [Hv.out]; have HN1 := Aside0.mk (Kd.N_below (Kd.N_below HN.out (HB2.out _)) hb1_); have HB1 := Aside0.mk (below_step (below_step HB.out (HB2.out _)) hb1_); clear hb1_))
                go_roundg k1_
                case measure => omega
                case rel =>
                  refine ⟨i + 1, rfl, by omega, by omega, ⟨fun j hj => ?_⟩, HB1, HN1⟩
                  by_cases hji : j < i.toNat
                  · exact HS.out j hji
                  · obtain rfl : j = i.toNat := by omega
                    exact Hv.out
              | false =>
                have Hv := Aside0.mk hv
                clear hv
                go_wp2_with (first | (go_at_call 15; (with_reducible refine (ih _ hms _ _ (kStmt.K_below (HB2.out _) K0.out) (hg.below hg.size (below_step HB.out (HB2.out _)))).mono ?_); rintro e w1 ⟨rfl, hb1_⟩; rw [Hv.out]; have HN1 := Aside0.mk (Kd.N_below (Kd.N_below HN.out (HB2.out _)) hb1_); have HB1 := Aside0.mk (below_step (below_step HB.out (HB2.out _)) hb1_); clear hb1_))
                go_ret
                refine ⟨?_, HB1.out⟩
                rw [HVV.out, all_false plainS zStmt xs i.toNat (by omega) Hv.out]
                rfl

mutual
/-- What plain asks of a statement: of each part of it too. -/
def PFit : Stmt → Prop
  | ⟨does, pos, name, es, thens, elses⟩ => SFit ⟨does, pos, name, es, thens, elses⟩ 0 ∧ name.size ≤ 9223372036854775807 ∧ (∀ e, e ∈ es → NamesFit e) ∧ thens.length ≤ 1000 ∧ elses.length ≤ 1000 ∧ PFits thens ∧ PFits elses
def PFits : List Stmt → Prop
  | [] => True
  | s :: r => PFit s ∧ PFits r
end
theorem PFits.mem : ∀ {l : List Stmt}, PFits l → ∀ y, y ∈ l → PFit y
  | x :: r, h, y, hy => by
    rw [PFits] at h
    rcases List.mem_cons.1 hy with rfl | hy
    · exact h.1
    · exact PFits.mem h.2 y hy
theorem PFit.open {s : Stmt} (h : PFit s) : SFit s 0 ∧ s.name.size ≤ 9223372036854775807 ∧ (∀ e, e ∈ s.es → NamesFit e) ∧ s.thens.length ≤ 1000 ∧ s.elses.length ≤ 1000 ∧ PFits s.thens ∧ PFits s.elses := by
  cases s
  rw [PFit] at h
  exact h
/-- WHAT plain COMPUTES. -/
theorem plain_calls (n : Nat) : ∀ (s : Stmt), SizeOf.sizeOf s ≤ n → PFit s → ∀ (cs : List Value) (w : World), kStmt.K w s cs → Glob w → Calls Tryd.prog 15 #[.agg cs.toArray] w fun e w' => e = .returned (.bool (plainS s)) ∧ Below w.heap.size w w' := by
  induction n with
  | zero =>
    intro s hs
    cases s
    simp at hs
  | succ n ih =>
    intro s hs hf cs w h hg
    obtain ⟨h1, h2, h3, h4, h5, h6, h7⟩ := hf.open
    refine plain_step s cs w h hg h1 h2 h3 h4 h5 (fun p hp cs w hK hG => ?_)
    rcases List.mem_append.1 hp with hp | hp
    · exact ih p (by have := thens_size s; have := List.sizeOf_lt_of_mem hp; omega) (h6.mem p hp) cs w hK hG
    · exact ih p (by have := elses_size s; have := List.sizeOf_lt_of_mem hp; omega) (h7.mem p hp) cs w hK hG
end Go.Proofs.YtpbeplepcbhamaaDoor
