/- Statements as lines, as the statement writes them: what palingslaw03.stmts and its closure compute. -/
import Derived.Test.YtpbeplepcbhamaaDoorExpr
import Derived.Test.YtpbeplepcbhamaaDoorStextC
namespace Go.Proofs.YtpbeplepcbhamaaDoor
open Go.RowKit Go.Proofs.YtpbeplepcbhamaaDoorW.PrintWords Go.Proofs.YtpbeplepcbhamaaDoorW.PrintLast Go.Proofs.YtpbeplepcbhamaaDoorW.PrintMore
set_option linter.unusedVariables false
set_option linter.unusedSimpArgs false

theorem lit_bs (l : List UInt8) : (ByteArray.mk l.toArray) = bs l := rfl
theorem repeat_succ (l : List UInt8) : ∀ d, Lib.repeatL l (d + 1) = Lib.repeatL l d ++ l
  | 0 => by simp [Lib.repeatL]
  | d + 1 => by
    have h := repeat_succ l d
    show l ++ Lib.repeatL l (d + 1) = (l ++ Lib.repeatL l d) ++ l
    rw [h, List.append_assoc]
theorem tabs_succ (d : Nat) : tabs (d + 1) = tabs d ++ [9] := repeat_succ [9] d
section
variable {P : Program} {ops : Array Oper} {Q : Exit → Act → World → Prop}
/-- A call of a function value in a region. -/
theorem goesF_ {oi : Oper} {N : Option Tmp} {a : Act} {w : World} {K : Act → World → Prop} {f : FuncId} {fn : Func} {ags : Array Operand} {ts : Array TypeId} {o : Operand} {cap : Array Value} (hf : P.funcs[f]? = some fn) (hname : (fn.name == "runtime.NumGoroutine") = false) (hb : fn.body.isSome = true) (args : Array Value)
    (hw : Region.wanted oi (yielded ops a.tmps) = true) (hN : oi.dst = N) (hop : oi.op = .call { callee := .value o, args := ags, argTypes := ts }) (hval : a.eval o = .func (.func f) #[] cap) (hargs : ags.map a.eval ++ cap = args)
    (h : Calls P f args w fun e w' => ∃ v, e = .returned v ∧ K (a.put N v) w') : if Region.wanted oi (yielded ops a.tmps) = true then Oper.wp P oi a w K Q else K (a.put N undef) w := by
  refine call_ f args hw hN ?_ h
  have he := enters_ hf hname hb args w
  unfold execOp
  simp [hop, resolve, Deferred.ofValue, invoke, hval, hargs, he]
end

set_option maxRecDepth 100000 in
set_option maxHeartbeats 1600000 in
theorem clo_calls (s : Stmt) (i : Int) (g : Nat) (A4 : Option Addr) (a4 : Nat) (w : World) (hc : w.cell? ⟨g, 4, none⟩ = some (.slice A4 s.es.length a4)) (he : kExpr.C w A4 s.es.length s.es) (hg : Glob w) (h0 : 0 ≤ i) (hf : ∀ e, e ∈ s.es → Fit 140737488355328 e ∧ Slim 8000000000000 e) :
    Calls Tryd.prog 35 #[.int .i64 i, .pointer (some ⟨g, 0, none⟩)] w fun e w' => e = .returned (.string (bs (atL s.es i))) ∧ Below w.heap.size w w' := by
  have HC := Aside0.mk he
  have hm := he.2.1
  clear he
  by_cases hi : i < (s.es.length : Int)
  · have hge : decide (i < (s.es.length : Int)) = true := by simp; omega
    have HF := Aside0.mk (hf _ (rdExpr_mem s.es i h0 hi))
    have HI := Aside0.mk hi
    obtain ⟨ad, D6, d6, ea, e0, e1, e2, e3, e4, e5, e6, em0, el6, eg6⟩ := atExpr HC.out i h0 hi
    obtain rfl := ea
    have K0 := Aside0.mk (show kExpr.K w (rdExpr s.es i) [.int .i64 (rdExpr s.es i).kind, .int .i64 (rdExpr s.es i).pos.line, .int .i64 (rdExpr s.es i).pos.col, .int .i64 (rdExpr s.es i).num, .string (rdExpr s.es i).name, .int .i64 (rdExpr s.es i).op, .slice D6 (rdExpr s.es i).kids.length d6] from kExpr_mk w _ em0 el6 eg6)
    clear em0 el6 eg6 hf
    go_enter Tryd.func35, Tryd.ntmps35
    go_wp2_with (first | (go_at_call 36; (with_reducible refine (ex_calls _ (rdExpr s.es i) (Nat.le_refl _) HF.out.1 HF.out.2 _ _ K0.out hg).mono ?_); rintro e w1 ⟨rfl, hb_⟩; have HB := Aside0.mk hb_; clear hb_))
    go_ret
    refine ⟨ret_str ?_, HB.out⟩
    rw [atL, if_pos HI.out]
  · have hge : decide (i < (s.es.length : Int)) = false := by simp; omega
    have HI := Aside0.mk hi
    clear hf hi
    go_enter Tryd.func35, Tryd.ntmps35
    go_wp2
    go_ret
    refine ⟨ret_str ?_, Below.refl _ _⟩
    rw [atL, if_neg (by have := HI.out; omega)]
    rfl

set_option maxRecDepth 100000 in
set_option maxHeartbeats 12800000 in
theorem stm_step (xs : List Stmt) (d : Nat) (A : Option Addr) (n c : Nat) (w : World) (hx : kStmt.C w A n xs) (hg : Glob w) (hl : (slines xs d).length ≤ 140737488355328) (hs : ∀ s, s ∈ xs → SFit s d)
    (ih : ∀ s, s ∈ xs → ((slines s.thens (d + 1)).length ≤ 140737488355328 → ∀ A n c w, kStmt.C w A n s.thens → Glob w → Calls Tryd.prog 20 #[.slice A n c, .string (bs (tabs (d + 1)))] w fun e w' => e = .returned (.string (bs (slines s.thens (d + 1)))) ∧ Below w.heap.size w w') ∧ ((slines s.elses (d + 1)).length ≤ 140737488355328 → ∀ A n c w, kStmt.C w A n s.elses → Glob w → Calls Tryd.prog 20 #[.slice A n c, .string (bs (tabs (d + 1)))] w fun e w' => e = .returned (.string (bs (slines s.elses (d + 1)))) ∧ Below w.heap.size w w')) :
    Calls Tryd.prog 20 #[.slice A n c, .string (bs (tabs (d)))] w fun e w' => e = .returned (.string (bs (slines xs (d)))) ∧ Below w.heap.size w w' := by
  have hn : xs.length = n := hx.1
  have hm := hx.2.1
  have HX := Aside0.mk hx
  have HL := Aside0.mk hl
  obtain ⟨T, hT⟩ : ∃ T, T = bs (tabs d) := ⟨_, rfl⟩
  have sT : T.size = (tabs d).length := by rw [hT, bs_size]
  have ht9 : bs (tabs (d + 1)) = T ++ ⟨#[9]⟩ := by rw [tabs_succ, ← bs_add, hT]; rfl
  rw [ht9] at ih
  rw [← hT]
  have HT := Lib.hid hT
  have hmf : ∀ (fn : Fn) (first cap : Array Value) (w : World), (Instr.makeFunc fn first cap).run Tryd.prog w = .ok (.func fn first cap) w := fun _ _ _ _ => rfl
  clear hx hl hT ht9
  go_enter Tryd.func20, Tryd.ntmps20
  go_wp2
  go_loopg [5, 11] n (fun kq v5 v11 w' => ∃ i : Int, v11 = .int .i64 i ∧ 0 ≤ i ∧ kq + i.toNat = n ∧ v5 = .string (bs (slines (xs.take i.toNat) d)) ∧ Aside0 (Below w.heap.size w w'))
  case atStart => exact ⟨0, rfl, by omega, by simp, by simp [slines, bs], ⟨Below.refl _ _⟩⟩
  case round =>
    obtain ⟨i, rfl, hi0, hk, rfl, HB⟩ := hrel
    cases gk with
    | zero =>
      have hge : decide (i < (n : Int)) = false := by simp; omega
      have hall : xs.take i.toNat = xs := List.take_of_length_le (by omega)
      rw [hall]
      clear hall
      go_wp2
      go_ret
      exact ⟨rfl, HB.out⟩
    | succ k1_ =>
      have hi1 : i < (n : Int) := by omega
      obtain ⟨ad, B4, b4, B5, b5, B6, b6, ea, e0, e1, e2, e3, e4, e5, e6, el4, eg4, el5, eg5, el6, eg6⟩ := atStmt (Kd.C_below HX.out HB.out) i hi0 hi1
      obtain rfl := ea
      have hms : rdStmt xs i ∈ xs := rdStmt_mem _ _ hi0 (by omega)
      obtain ⟨ihT, ihE⟩ := ih _ hms
      have HES := Aside0.mk eg4
      have HTH := Aside0.mk eg5
      have HEL := Aside0.mk eg6
      have HFE := Aside0.mk (hs _ hms).open.2.2.1
      have htk := slines_take xs d i hi0 (by omega)
      have hlen := slines_le xs d (i + 1).toNat
      rw [htk, List.length_append] at hlen
      have hlen2 := HL.out
      replace hlen := Nat.le_trans hlen hlen2
      clear hlen2
      have HTK := Lib.hid htk
      obtain ⟨P, hP⟩ : ∃ T, T = bs (slines (xs.take i.toNat) d) := ⟨_, rfl⟩
      have sP : P.size = (slines (xs.take i.toNat) d).length := by rw [hP, bs_size]
      rw [← hP]
      have HP := Lib.hid hP
      have HNM := Lib.hid (bs_of (rdStmt xs i).name)
      clear ih hs hP htk el4 eg4 el5 eg5 el6 eg6
      by_cases hc : (rdStmt xs i).does = 1
      · skip
        have k1 : ((rdStmt xs i).does == 1) = true := by rw [hc]; rfl
        have hst : stext (rdStmt xs i) d = tabs d ++ [108, 101, 116, 32] ++ (rdStmt xs i).name.data.toList ++ [32, 61, 32] ++ atL (rdStmt xs i).es 0 ++ [59] ++ [10] := by
          rw [stext_eq, if_pos hc]
          try simp only [List.append_assoc, List.cons_append, List.nil_append]
        rw [hst] at hlen
        simp only [List.length_append, List.length_cons, List.length_nil, size_toList] at hlen
        have hzT : ¬ 9223372036854775807 < T.size + 1 := by omega
        obtain ⟨Z0, hZ0⟩ : ∃ T, T = bs (atL (rdStmt xs i).es 0) := ⟨_, rfl⟩
        have sZ0 : Z0.size = (atL (rdStmt xs i).es 0).length := by rw [hZ0, bs_size]
        have hz1 : ¬ 9223372036854775807 < P.size + T.size := by omega
        have hz2 : ¬ 9223372036854775807 < P.size + T.size + 4 := by omega
        have hz3 : ¬ 9223372036854775807 < P.size + T.size + 4 + (rdStmt xs i).name.size := by omega
        have hz4 : ¬ 9223372036854775807 < P.size + T.size + 4 + (rdStmt xs i).name.size + 3 := by omega
        have hz5 : ¬ 9223372036854775807 < P.size + T.size + 4 + (rdStmt xs i).name.size + 3 + Z0.size := by omega
        have hz6 : ¬ 9223372036854775807 < P.size + T.size + 4 + (rdStmt xs i).name.size + 3 + Z0.size + 1 := by omega
        have hz7 : ¬ 9223372036854775807 < P.size + T.size + 4 + (rdStmt xs i).name.size + 3 + Z0.size + 1 + 1 := by omega
        have HST := Lib.hid hst
        have HZ0 := Lib.hid hZ0
        clear hst hlen sT sP hZ0 sZ0 hc
        go_wp2_with (first | ((with_reducible refine gate_dst (N := 7) rfl ?_); refine var_event (W1 := ?w1_7_1) (N := 7) (cs := #[.int .i64 (rdStmt xs i).does, .int .i64 (rdStmt xs i).pos.line, .int .i64 (rdStmt xs i).pos.col, .string (rdStmt xs i).name, .slice B4 (rdStmt xs i).es.length b4, .slice B5 (rdStmt xs i).thens.length b5, .slice B6 (rdStmt xs i).elses.length b6]) (t := 38) ?hg ?hd ?hg2 ?hd2 ?hr ?hr2 ?_; (case hd => rfl); (case hg => rfl); (case hd2 => rfl); (case hg2 => rfl); (case hr => first | (go_simp; done) | (go_simp; rfl)); (case hr2 => first | (go_simp; done) | (go_simp; rfl)); intro g7 hgE_ W1 hbox_ hb_; have GEg7 := Aside0.mk (show w.heap.size ≤ g7 from Nat.le_trans HB.out.size (hgE_)); replace HB := Aside0.mk (below_step HB.out hb_); replace HES := Aside0.mk (Kd.C_below HES.out hb_); replace HTH := Aside0.mk (Kd.C_below HTH.out hb_); replace HEL := Aside0.mk (Kd.C_below HEL.out hb_); have BKg7 := Aside0.mk hbox_; have cg7_0 : W1.cell? ⟨g7, 0, none⟩ = some (.int .i64 (rdStmt xs i).does) := (blk_cell BKg7.out 0).trans rfl; have cg7_1 : W1.cell? ⟨g7, 1, none⟩ = some (.int .i64 (rdStmt xs i).pos.line) := (blk_cell BKg7.out 1).trans rfl; have cg7_2 : W1.cell? ⟨g7, 2, none⟩ = some (.int .i64 (rdStmt xs i).pos.col) := (blk_cell BKg7.out 2).trans rfl; have cg7_3 : W1.cell? ⟨g7, 3, none⟩ = some (.string (rdStmt xs i).name) := (blk_cell BKg7.out 3).trans rfl; have cg7_4 : W1.cell? ⟨g7, 4, none⟩ = some (.slice B4 (rdStmt xs i).es.length b4) := (blk_cell BKg7.out 4).trans rfl; have cg7_5 : W1.cell? ⟨g7, 5, none⟩ = some (.slice B5 (rdStmt xs i).thens.length b5) := (blk_cell BKg7.out 5).trans rfl; have cg7_6 : W1.cell? ⟨g7, 6, none⟩ = some (.slice B6 (rdStmt xs i).elses.length b6) := (blk_cell BKg7.out 6).trans rfl; clear hb_ hbox_ hgE_))
        have hgW := Aside0.mk (hg.below hg.size HB.out)
        refine start_ (n := 11) (S := fun w' => w'.cell? ⟨g7, 0, none⟩ = some (.int .i64 (rdStmt xs i).does) ∧ w'.cell? ⟨g7, 1, none⟩ = some (.int .i64 (rdStmt xs i).pos.line) ∧ w'.cell? ⟨g7, 2, none⟩ = some (.int .i64 (rdStmt xs i).pos.col) ∧ w'.cell? ⟨g7, 3, none⟩ = some (.string (rdStmt xs i).name) ∧ w'.cell? ⟨g7, 4, none⟩ = some (.slice B4 (rdStmt xs i).es.length b4) ∧ w'.cell? ⟨g7, 5, none⟩ = some (.slice B5 (rdStmt xs i).thens.length b5) ∧ w'.cell? ⟨g7, 6, none⟩ = some (.slice B6 (rdStmt xs i).elses.length b6)) (ds := []) #[false, false, false, false, false, false, false, false, false, false, false] (by kernel_rfl) rfl rfl ⟨cg7_0, cg7_1, cg7_2, cg7_3, cg7_4, cg7_5, cg7_6⟩ (fun hHeld => ?_)
        refine pure_ (i := 0) (N := some 28) (v := ?_) (a' := ?_) #[true, false, false, false, false, false, false, false, false, false, false] rfl rfl (by kernel_rfl) (fun _ _ _ h => h) (Or.inl ⟨by rfl, ?_⟩) ?_ ?_
        rotate_left
        · intro w'
          go_simp
          with_reducible rfl
        rotate_left
        · simp only [Act.put, List.setIfInBounds_toArray, List.set_cons_zero, List.set_cons_succ, i64_w, i32_w]
          rfl
        refine pure_ (i := 1) (N := some 29) (v := ?_) (a' := ?_) #[true, true, false, false, false, false, false, false, false, false, false] rfl rfl (by kernel_rfl) (fun _ _ _ h => h) (Or.inl ⟨by rfl, ?_⟩) ?_ ?_
        rotate_left
        · intro w'
          go_simp
          with_reducible rfl
        rotate_left
        · simp only [Act.put, List.setIfInBounds_toArray, List.set_cons_zero, List.set_cons_succ, i64_w, i32_w]
          rfl
        refine pure_ (i := 2) (N := some 30) (v := ?_) (a' := ?_) #[true, true, true, false, false, false, false, false, false, false, false] rfl rfl (by kernel_rfl) (fun _ _ _ h => h) (Or.inl ⟨by rfl, ?_⟩) ?_ ?_
        rotate_left
        · intro w'
          go_simp
          with_reducible rfl
        rotate_left
        · simp only [Act.put, List.setIfInBounds_toArray, List.set_cons_zero, List.set_cons_succ, i64_w, i32_w]
          rfl
        refine pure_ (i := 6) (N := some 34) (v := ?_) (a' := ?_) #[true, true, true, false, false, false, true, false, false, false, false] rfl rfl (by kernel_rfl) (fun _ _ _ h => h) (Or.inl ⟨by rfl, ?_⟩) ?_ ?_
        rotate_left
        · intro w'
          go_simp
          with_reducible rfl
        rotate_left
        · simp only [Act.put, List.setIfInBounds_toArray, List.set_cons_zero, List.set_cons_succ, i64_w, i32_w]
          rfl
        refine take_ (i := 3) (N := some 31) (v := ?_) (a' := ?_) #[true, true, true, true, false, false, true, false, false, false, false] rfl rfl (by kernel_rfl) (fun _ _ _ h => h) (Or.inl ⟨by rfl, ?_⟩) hHeld ?_ ?_
        rotate_left
        · rintro w' ⟨s0, s1, s2, s3, s4, s5, s6⟩
          go_simp
          with_reducible rfl
        rotate_left
        · simp only [Act.put, List.setIfInBounds_toArray, List.set_cons_zero, List.set_cons_succ, i64_w, i32_w]
          rfl
        refine pure_ (i := 4) (N := some 32) (v := ?_) (a' := ?_) #[true, true, true, true, true, false, true, false, false, false, false] rfl rfl (by kernel_rfl) (fun _ _ _ h => h) (Or.inl ⟨by rfl, ?_⟩) ?_ ?_
        rotate_left
        · intro w'
          go_simp
          with_reducible rfl
        rotate_left
        · simp only [Act.put, List.setIfInBounds_toArray, List.set_cons_zero, List.set_cons_succ, i64_w, i32_w]
          rfl
        refine pure_ (i := 5) (N := some 33) (v := ?_) (a' := ?_) #[true, true, true, true, true, true, true, false, false, false, false] rfl rfl (by kernel_rfl) (fun _ _ _ h => h) (Or.inl ⟨by rfl, ?_⟩) ?_ ?_
        rotate_left
        · intro w'
          go_simp
          with_reducible rfl
        rotate_left
        · simp only [Act.put, List.setIfInBounds_toArray, List.set_cons_zero, List.set_cons_succ, i64_w, i32_w]
          rfl
        refine one_ (i := 7) (N := some 35) #[true, true, true, true, true, true, true, true, false, false, false] rfl rfl (by kernel_rfl) (by decide) (fun K hK => ?_)
        refine goesF_ Tryd.func35 (by kernel_rfl) rfl #[.int .i64 0, .pointer (some ⟨g7, 0, none⟩)] (by rfl) rfl rfl rfl (by simp only [List.map_toArray, List.map_cons, List.map_nil]; rfl) ?_
        with_reducible refine (clo_calls (rdStmt xs i) 0 g7 B4 b4 _ (hHeld.2.2.2.2.1) (Kd.C_below HES.out (below_drew1 (Below.refl _ _))) (hgW.out.below (Glob.size hgW.out) (below_drew1 (Below.refl _ _))) (by decide) HFE.out).mono ?_
        rintro e w3 ⟨rfl, hb3⟩
        refine ⟨_, rfl, ?_⟩
        rw [← HZ0.out]
        have hc1 := Lib.hid hb3
        refine hK.out _ _ ⟨below_cell hb3 (Nat.le_refl _) (hHeld.1), below_cell hb3 (Nat.le_refl _) (hHeld.2.1), below_cell hb3 (Nat.le_refl _) (hHeld.2.2.1), below_cell hb3 (Nat.le_refl _) (hHeld.2.2.2.1), below_cell hb3 (Nat.le_refl _) (hHeld.2.2.2.2.1), below_cell hb3 (Nat.le_refl _) (hHeld.2.2.2.2.2.1), below_cell hb3 (Nat.le_refl _) (hHeld.2.2.2.2.2.2)⟩ (fun hHeld => ?_)
        clear hK K
        refine norm_ (a' := ?_) ?_ ?_
        rotate_left
        · show Act.put _ (some 35) _ = _
          simp only [Act.put, List.setIfInBounds_toArray, List.set_cons_zero, List.set_cons_succ, i64_w, i32_w]
          rfl
        refine pure_ (i := 8) (N := some 36) (v := ?_) (a' := ?_) #[true, true, true, true, true, true, true, true, true, false, false] rfl rfl (by kernel_rfl) (fun _ _ _ h => h) (Or.inl ⟨by rfl, ?_⟩) ?_ ?_
        rotate_left
        · intro w'
          go_simp
          with_reducible rfl
        rotate_left
        · simp only [Act.put, List.setIfInBounds_toArray, List.set_cons_zero, List.set_cons_succ, i64_w, i32_w]
          rfl
        refine pure_ (i := 9) (N := some 37) (v := ?_) (a' := ?_) #[true, true, true, true, true, true, true, true, true, true, false] rfl rfl (by kernel_rfl) (fun _ _ _ h => h) (Or.inl ⟨by rfl, ?_⟩) ?_ ?_
        rotate_left
        · intro w'
          go_simp
          with_reducible rfl
        rotate_left
        · simp only [Act.put, List.setIfInBounds_toArray, List.set_cons_zero, List.set_cons_succ, i64_w, i32_w]
          rfl
        refine pure_ (i := 10) (N := some 5) (v := ?_) (a' := ?_) #[true, true, true, true, true, true, true, true, true, true, true] rfl rfl (by kernel_rfl) (fun _ _ _ h => h) (Or.inl ⟨by rfl, ?_⟩) ?_ ?_
        rotate_left
        · intro w'
          go_simp
          with_reducible rfl
        rotate_left
        · simp only [Act.put, List.setIfInBounds_toArray, List.set_cons_zero, List.set_cons_succ, i64_w, i32_w]
          rfl
        refine done_ (by kernel_rfl) ?_
        have hb4 := below_undrew hc1.out
        replace HB := Aside0.mk (below_step HB.out hb4)
        replace HEL := Aside0.mk (Kd.C_below HEL.out hb4)
        clear cg7_0 cg7_1 cg7_2 cg7_3 cg7_4 cg7_5 cg7_6
        obtain ⟨cg7_0, cg7_1, cg7_2, cg7_3, cg7_4, cg7_5, cg7_6⟩ := hHeld
        go_wp2
        go_roundg k1_
        case measure => omega
        case rel =>
          refine ⟨i + 1, rfl, by omega, by omega, ?_, HB⟩
          rw [HTK.out, HST.out]
          have hnm := HNM.out
          generalize (rdStmt xs i).name.data.toList = nm at hnm ⊢
          rw [hnm]
          simp only [HP.out, HT.out, HZ0.out, lit_bs, bs_add, List.append_assoc]
      have hc1 := hc
      clear hc
      by_cases hc : (rdStmt xs i).does = 2
      · skip
        have k1 : ((rdStmt xs i).does == 1) = false := by rw [hc]; rfl
        have k2 : ((rdStmt xs i).does == 2) = true := by rw [hc]; rfl
        clear hc1
        have hst : stext (rdStmt xs i) d = tabs d ++ (rdStmt xs i).name.data.toList ++ [32, 61, 32] ++ atL (rdStmt xs i).es 0 ++ [59] ++ [10] := by
          rw [stext_eq, if_neg (by rw [hc]; decide), if_pos hc]
          try simp only [List.append_assoc, List.cons_append, List.nil_append]
        rw [hst] at hlen
        simp only [List.length_append, List.length_cons, List.length_nil, size_toList] at hlen
        have hzT : ¬ 9223372036854775807 < T.size + 1 := by omega
        obtain ⟨Z0, hZ0⟩ : ∃ T, T = bs (atL (rdStmt xs i).es 0) := ⟨_, rfl⟩
        have sZ0 : Z0.size = (atL (rdStmt xs i).es 0).length := by rw [hZ0, bs_size]
        have hz1 : ¬ 9223372036854775807 < P.size + T.size := by omega
        have hz2 : ¬ 9223372036854775807 < P.size + T.size + (rdStmt xs i).name.size := by omega
        have hz3 : ¬ 9223372036854775807 < P.size + T.size + (rdStmt xs i).name.size + 3 := by omega
        have hz4 : ¬ 9223372036854775807 < P.size + T.size + (rdStmt xs i).name.size + 3 + Z0.size := by omega
        have hz5 : ¬ 9223372036854775807 < P.size + T.size + (rdStmt xs i).name.size + 3 + Z0.size + 1 := by omega
        have hz6 : ¬ 9223372036854775807 < P.size + T.size + (rdStmt xs i).name.size + 3 + Z0.size + 1 + 1 := by omega
        have HST := Lib.hid hst
        have HZ0 := Lib.hid hZ0
        clear hst hlen sT sP hZ0 sZ0 hc
        go_wp2_with (first | ((with_reducible refine gate_dst (N := 7) rfl ?_); refine var_event (W1 := ?w1_7_2) (N := 7) (cs := #[.int .i64 (rdStmt xs i).does, .int .i64 (rdStmt xs i).pos.line, .int .i64 (rdStmt xs i).pos.col, .string (rdStmt xs i).name, .slice B4 (rdStmt xs i).es.length b4, .slice B5 (rdStmt xs i).thens.length b5, .slice B6 (rdStmt xs i).elses.length b6]) (t := 38) ?hg ?hd ?hg2 ?hd2 ?hr ?hr2 ?_; (case hd => rfl); (case hg => rfl); (case hd2 => rfl); (case hg2 => rfl); (case hr => first | (go_simp; done) | (go_simp; rfl)); (case hr2 => first | (go_simp; done) | (go_simp; rfl)); intro g7 hgE_ W1 hbox_ hb_; have GEg7 := Aside0.mk (show w.heap.size ≤ g7 from Nat.le_trans HB.out.size (hgE_)); replace HB := Aside0.mk (below_step HB.out hb_); replace HES := Aside0.mk (Kd.C_below HES.out hb_); replace HTH := Aside0.mk (Kd.C_below HTH.out hb_); replace HEL := Aside0.mk (Kd.C_below HEL.out hb_); have BKg7 := Aside0.mk hbox_; have cg7_0 : W1.cell? ⟨g7, 0, none⟩ = some (.int .i64 (rdStmt xs i).does) := (blk_cell BKg7.out 0).trans rfl; have cg7_1 : W1.cell? ⟨g7, 1, none⟩ = some (.int .i64 (rdStmt xs i).pos.line) := (blk_cell BKg7.out 1).trans rfl; have cg7_2 : W1.cell? ⟨g7, 2, none⟩ = some (.int .i64 (rdStmt xs i).pos.col) := (blk_cell BKg7.out 2).trans rfl; have cg7_3 : W1.cell? ⟨g7, 3, none⟩ = some (.string (rdStmt xs i).name) := (blk_cell BKg7.out 3).trans rfl; have cg7_4 : W1.cell? ⟨g7, 4, none⟩ = some (.slice B4 (rdStmt xs i).es.length b4) := (blk_cell BKg7.out 4).trans rfl; have cg7_5 : W1.cell? ⟨g7, 5, none⟩ = some (.slice B5 (rdStmt xs i).thens.length b5) := (blk_cell BKg7.out 5).trans rfl; have cg7_6 : W1.cell? ⟨g7, 6, none⟩ = some (.slice B6 (rdStmt xs i).elses.length b6) := (blk_cell BKg7.out 6).trans rfl; clear hb_ hbox_ hgE_))
        have hgW := Aside0.mk (hg.below hg.size HB.out)
        refine start_ (n := 10) (S := fun w' => w'.cell? ⟨g7, 0, none⟩ = some (.int .i64 (rdStmt xs i).does) ∧ w'.cell? ⟨g7, 1, none⟩ = some (.int .i64 (rdStmt xs i).pos.line) ∧ w'.cell? ⟨g7, 2, none⟩ = some (.int .i64 (rdStmt xs i).pos.col) ∧ w'.cell? ⟨g7, 3, none⟩ = some (.string (rdStmt xs i).name) ∧ w'.cell? ⟨g7, 4, none⟩ = some (.slice B4 (rdStmt xs i).es.length b4) ∧ w'.cell? ⟨g7, 5, none⟩ = some (.slice B5 (rdStmt xs i).thens.length b5) ∧ w'.cell? ⟨g7, 6, none⟩ = some (.slice B6 (rdStmt xs i).elses.length b6)) (ds := []) #[false, false, false, false, false, false, false, false, false, false] (by kernel_rfl) rfl rfl ⟨cg7_0, cg7_1, cg7_2, cg7_3, cg7_4, cg7_5, cg7_6⟩ (fun hHeld => ?_)
        refine pure_ (i := 0) (N := some 40) (v := ?_) (a' := ?_) #[true, false, false, false, false, false, false, false, false, false] rfl rfl (by kernel_rfl) (fun _ _ _ h => h) (Or.inl ⟨by rfl, ?_⟩) ?_ ?_
        rotate_left
        · intro w'
          go_simp
          with_reducible rfl
        rotate_left
        · simp only [Act.put, List.setIfInBounds_toArray, List.set_cons_zero, List.set_cons_succ, i64_w, i32_w]
          rfl
        refine pure_ (i := 1) (N := some 41) (v := ?_) (a' := ?_) #[true, true, false, false, false, false, false, false, false, false] rfl rfl (by kernel_rfl) (fun _ _ _ h => h) (Or.inl ⟨by rfl, ?_⟩) ?_ ?_
        rotate_left
        · intro w'
          go_simp
          with_reducible rfl
        rotate_left
        · simp only [Act.put, List.setIfInBounds_toArray, List.set_cons_zero, List.set_cons_succ, i64_w, i32_w]
          rfl
        refine pure_ (i := 5) (N := some 45) (v := ?_) (a' := ?_) #[true, true, false, false, false, true, false, false, false, false] rfl rfl (by kernel_rfl) (fun _ _ _ h => h) (Or.inl ⟨by rfl, ?_⟩) ?_ ?_
        rotate_left
        · intro w'
          go_simp
          with_reducible rfl
        rotate_left
        · simp only [Act.put, List.setIfInBounds_toArray, List.set_cons_zero, List.set_cons_succ, i64_w, i32_w]
          rfl
        refine take_ (i := 2) (N := some 42) (v := ?_) (a' := ?_) #[true, true, true, false, false, true, false, false, false, false] rfl rfl (by kernel_rfl) (fun _ _ _ h => h) (Or.inl ⟨by rfl, ?_⟩) hHeld ?_ ?_
        rotate_left
        · rintro w' ⟨s0, s1, s2, s3, s4, s5, s6⟩
          go_simp
          with_reducible rfl
        rotate_left
        · simp only [Act.put, List.setIfInBounds_toArray, List.set_cons_zero, List.set_cons_succ, i64_w, i32_w]
          rfl
        refine pure_ (i := 3) (N := some 43) (v := ?_) (a' := ?_) #[true, true, true, true, false, true, false, false, false, false] rfl rfl (by kernel_rfl) (fun _ _ _ h => h) (Or.inl ⟨by rfl, ?_⟩) ?_ ?_
        rotate_left
        · intro w'
          go_simp
          with_reducible rfl
        rotate_left
        · simp only [Act.put, List.setIfInBounds_toArray, List.set_cons_zero, List.set_cons_succ, i64_w, i32_w]
          rfl
        refine pure_ (i := 4) (N := some 44) (v := ?_) (a' := ?_) #[true, true, true, true, true, true, false, false, false, false] rfl rfl (by kernel_rfl) (fun _ _ _ h => h) (Or.inl ⟨by rfl, ?_⟩) ?_ ?_
        rotate_left
        · intro w'
          go_simp
          with_reducible rfl
        rotate_left
        · simp only [Act.put, List.setIfInBounds_toArray, List.set_cons_zero, List.set_cons_succ, i64_w, i32_w]
          rfl
        refine one_ (i := 6) (N := some 46) #[true, true, true, true, true, true, true, false, false, false] rfl rfl (by kernel_rfl) (by decide) (fun K hK => ?_)
        refine goesF_ Tryd.func35 (by kernel_rfl) rfl #[.int .i64 0, .pointer (some ⟨g7, 0, none⟩)] (by rfl) rfl rfl rfl (by simp only [List.map_toArray, List.map_cons, List.map_nil]; rfl) ?_
        with_reducible refine (clo_calls (rdStmt xs i) 0 g7 B4 b4 _ (hHeld.2.2.2.2.1) (Kd.C_below HES.out (below_drew1 (Below.refl _ _))) (hgW.out.below (Glob.size hgW.out) (below_drew1 (Below.refl _ _))) (by decide) HFE.out).mono ?_
        rintro e w3 ⟨rfl, hb3⟩
        refine ⟨_, rfl, ?_⟩
        rw [← HZ0.out]
        have hc1 := Lib.hid hb3
        refine hK.out _ _ ⟨below_cell hb3 (Nat.le_refl _) (hHeld.1), below_cell hb3 (Nat.le_refl _) (hHeld.2.1), below_cell hb3 (Nat.le_refl _) (hHeld.2.2.1), below_cell hb3 (Nat.le_refl _) (hHeld.2.2.2.1), below_cell hb3 (Nat.le_refl _) (hHeld.2.2.2.2.1), below_cell hb3 (Nat.le_refl _) (hHeld.2.2.2.2.2.1), below_cell hb3 (Nat.le_refl _) (hHeld.2.2.2.2.2.2)⟩ (fun hHeld => ?_)
        clear hK K
        refine norm_ (a' := ?_) ?_ ?_
        rotate_left
        · show Act.put _ (some 46) _ = _
          simp only [Act.put, List.setIfInBounds_toArray, List.set_cons_zero, List.set_cons_succ, i64_w, i32_w]
          rfl
        refine pure_ (i := 7) (N := some 47) (v := ?_) (a' := ?_) #[true, true, true, true, true, true, true, true, false, false] rfl rfl (by kernel_rfl) (fun _ _ _ h => h) (Or.inl ⟨by rfl, ?_⟩) ?_ ?_
        rotate_left
        · intro w'
          go_simp
          with_reducible rfl
        rotate_left
        · simp only [Act.put, List.setIfInBounds_toArray, List.set_cons_zero, List.set_cons_succ, i64_w, i32_w]
          rfl
        refine pure_ (i := 8) (N := some 48) (v := ?_) (a' := ?_) #[true, true, true, true, true, true, true, true, true, false] rfl rfl (by kernel_rfl) (fun _ _ _ h => h) (Or.inl ⟨by rfl, ?_⟩) ?_ ?_
        rotate_left
        · intro w'
          go_simp
          with_reducible rfl
        rotate_left
        · simp only [Act.put, List.setIfInBounds_toArray, List.set_cons_zero, List.set_cons_succ, i64_w, i32_w]
          rfl
        refine pure_ (i := 9) (N := some 5) (v := ?_) (a' := ?_) #[true, true, true, true, true, true, true, true, true, true] rfl rfl (by kernel_rfl) (fun _ _ _ h => h) (Or.inl ⟨by rfl, ?_⟩) ?_ ?_
        rotate_left
        · intro w'
          go_simp
          with_reducible rfl
        rotate_left
        · simp only [Act.put, List.setIfInBounds_toArray, List.set_cons_zero, List.set_cons_succ, i64_w, i32_w]
          rfl
        refine done_ (by kernel_rfl) ?_
        have hb4 := below_undrew hc1.out
        replace HB := Aside0.mk (below_step HB.out hb4)
        replace HEL := Aside0.mk (Kd.C_below HEL.out hb4)
        clear cg7_0 cg7_1 cg7_2 cg7_3 cg7_4 cg7_5 cg7_6
        obtain ⟨cg7_0, cg7_1, cg7_2, cg7_3, cg7_4, cg7_5, cg7_6⟩ := hHeld
        go_wp2
        go_roundg k1_
        case measure => omega
        case rel =>
          refine ⟨i + 1, rfl, by omega, by omega, ?_, HB⟩
          rw [HTK.out, HST.out]
          have hnm := HNM.out
          generalize (rdStmt xs i).name.data.toList = nm at hnm ⊢
          rw [hnm]
          simp only [HP.out, HT.out, HZ0.out, lit_bs, bs_add, List.append_assoc]
      have hc2 := hc
      clear hc
      by_cases hc : (rdStmt xs i).does = 3
      · skip
        have k1 : ((rdStmt xs i).does == 1) = false := by rw [hc]; rfl
        have k2 : ((rdStmt xs i).does == 2) = false := by rw [hc]; rfl
        have k3 : ((rdStmt xs i).does == 3) = true := by rw [hc]; rfl
        clear hc1 hc2
        have hst : stext (rdStmt xs i) d = tabs d ++ (rdStmt xs i).name.data.toList ++ [91] ++ atL (rdStmt xs i).es 0 ++ [93, 32, 61, 32] ++ atL (rdStmt xs i).es 1 ++ [59] ++ [10] := by
          rw [stext_eq, if_neg (by rw [hc]; decide), if_neg (by rw [hc]; decide), if_pos hc]
          try simp only [List.append_assoc, List.cons_append, List.nil_append]
        rw [hst] at hlen
        simp only [List.length_append, List.length_cons, List.length_nil, size_toList] at hlen
        have hzT : ¬ 9223372036854775807 < T.size + 1 := by omega
        obtain ⟨Z0, hZ0⟩ : ∃ T, T = bs (atL (rdStmt xs i).es 0) := ⟨_, rfl⟩
        have sZ0 : Z0.size = (atL (rdStmt xs i).es 0).length := by rw [hZ0, bs_size]
        obtain ⟨Z1, hZ1⟩ : ∃ T, T = bs (atL (rdStmt xs i).es 1) := ⟨_, rfl⟩
        have sZ1 : Z1.size = (atL (rdStmt xs i).es 1).length := by rw [hZ1, bs_size]
        have hz1 : ¬ 9223372036854775807 < P.size + T.size := by omega
        have hz2 : ¬ 9223372036854775807 < P.size + T.size + (rdStmt xs i).name.size := by omega
        have hz3 : ¬ 9223372036854775807 < P.size + T.size + (rdStmt xs i).name.size + 1 := by omega
        have hz4 : ¬ 9223372036854775807 < P.size + T.size + (rdStmt xs i).name.size + 1 + Z0.size := by omega
        have hz5 : ¬ 9223372036854775807 < P.size + T.size + (rdStmt xs i).name.size + 1 + Z0.size + 4 := by omega
        have hz6 : ¬ 9223372036854775807 < P.size + T.size + (rdStmt xs i).name.size + 1 + Z0.size + 4 + Z1.size := by omega
        have hz7 : ¬ 9223372036854775807 < P.size + T.size + (rdStmt xs i).name.size + 1 + Z0.size + 4 + Z1.size + 1 := by omega
        have hz8 : ¬ 9223372036854775807 < P.size + T.size + (rdStmt xs i).name.size + 1 + Z0.size + 4 + Z1.size + 1 + 1 := by omega
        have HST := Lib.hid hst
        have HZ0 := Lib.hid hZ0
        have HZ1 := Lib.hid hZ1
        clear hst hlen sT sP hZ0 sZ0 hZ1 sZ1 hc
        go_wp2_with (first | ((with_reducible refine gate_dst (N := 7) rfl ?_); refine var_event (W1 := ?w1_7_3) (N := 7) (cs := #[.int .i64 (rdStmt xs i).does, .int .i64 (rdStmt xs i).pos.line, .int .i64 (rdStmt xs i).pos.col, .string (rdStmt xs i).name, .slice B4 (rdStmt xs i).es.length b4, .slice B5 (rdStmt xs i).thens.length b5, .slice B6 (rdStmt xs i).elses.length b6]) (t := 38) ?hg ?hd ?hg2 ?hd2 ?hr ?hr2 ?_; (case hd => rfl); (case hg => rfl); (case hd2 => rfl); (case hg2 => rfl); (case hr => first | (go_simp; done) | (go_simp; rfl)); (case hr2 => first | (go_simp; done) | (go_simp; rfl)); intro g7 hgE_ W1 hbox_ hb_; have GEg7 := Aside0.mk (show w.heap.size ≤ g7 from Nat.le_trans HB.out.size (hgE_)); replace HB := Aside0.mk (below_step HB.out hb_); replace HES := Aside0.mk (Kd.C_below HES.out hb_); replace HTH := Aside0.mk (Kd.C_below HTH.out hb_); replace HEL := Aside0.mk (Kd.C_below HEL.out hb_); have BKg7 := Aside0.mk hbox_; have cg7_0 : W1.cell? ⟨g7, 0, none⟩ = some (.int .i64 (rdStmt xs i).does) := (blk_cell BKg7.out 0).trans rfl; have cg7_1 : W1.cell? ⟨g7, 1, none⟩ = some (.int .i64 (rdStmt xs i).pos.line) := (blk_cell BKg7.out 1).trans rfl; have cg7_2 : W1.cell? ⟨g7, 2, none⟩ = some (.int .i64 (rdStmt xs i).pos.col) := (blk_cell BKg7.out 2).trans rfl; have cg7_3 : W1.cell? ⟨g7, 3, none⟩ = some (.string (rdStmt xs i).name) := (blk_cell BKg7.out 3).trans rfl; have cg7_4 : W1.cell? ⟨g7, 4, none⟩ = some (.slice B4 (rdStmt xs i).es.length b4) := (blk_cell BKg7.out 4).trans rfl; have cg7_5 : W1.cell? ⟨g7, 5, none⟩ = some (.slice B5 (rdStmt xs i).thens.length b5) := (blk_cell BKg7.out 5).trans rfl; have cg7_6 : W1.cell? ⟨g7, 6, none⟩ = some (.slice B6 (rdStmt xs i).elses.length b6) := (blk_cell BKg7.out 6).trans rfl; clear hb_ hbox_ hgE_))
        have hgW := Aside0.mk (hg.below hg.size HB.out)
        refine start_ (n := 14) (S := fun w' => w'.cell? ⟨g7, 0, none⟩ = some (.int .i64 (rdStmt xs i).does) ∧ w'.cell? ⟨g7, 1, none⟩ = some (.int .i64 (rdStmt xs i).pos.line) ∧ w'.cell? ⟨g7, 2, none⟩ = some (.int .i64 (rdStmt xs i).pos.col) ∧ w'.cell? ⟨g7, 3, none⟩ = some (.string (rdStmt xs i).name) ∧ w'.cell? ⟨g7, 4, none⟩ = some (.slice B4 (rdStmt xs i).es.length b4) ∧ w'.cell? ⟨g7, 5, none⟩ = some (.slice B5 (rdStmt xs i).thens.length b5) ∧ w'.cell? ⟨g7, 6, none⟩ = some (.slice B6 (rdStmt xs i).elses.length b6)) (ds := []) #[false, false, false, false, false, false, false, false, false, false, false, false, false, false] (by kernel_rfl) rfl rfl ⟨cg7_0, cg7_1, cg7_2, cg7_3, cg7_4, cg7_5, cg7_6⟩ (fun hHeld => ?_)
        refine pure_ (i := 0) (N := some 51) (v := ?_) (a' := ?_) #[true, false, false, false, false, false, false, false, false, false, false, false, false, false] rfl rfl (by kernel_rfl) (fun _ _ _ h => h) (Or.inl ⟨by rfl, ?_⟩) ?_ ?_
        rotate_left
        · intro w'
          go_simp
          with_reducible rfl
        rotate_left
        · simp only [Act.put, List.setIfInBounds_toArray, List.set_cons_zero, List.set_cons_succ, i64_w, i32_w]
          rfl
        refine pure_ (i := 1) (N := some 52) (v := ?_) (a' := ?_) #[true, true, false, false, false, false, false, false, false, false, false, false, false, false] rfl rfl (by kernel_rfl) (fun _ _ _ h => h) (Or.inl ⟨by rfl, ?_⟩) ?_ ?_
        rotate_left
        · intro w'
          go_simp
          with_reducible rfl
        rotate_left
        · simp only [Act.put, List.setIfInBounds_toArray, List.set_cons_zero, List.set_cons_succ, i64_w, i32_w]
          rfl
        refine pure_ (i := 5) (N := some 56) (v := ?_) (a' := ?_) #[true, true, false, false, false, true, false, false, false, false, false, false, false, false] rfl rfl (by kernel_rfl) (fun _ _ _ h => h) (Or.inl ⟨by rfl, ?_⟩) ?_ ?_
        rotate_left
        · intro w'
          go_simp
          with_reducible rfl
        rotate_left
        · simp only [Act.put, List.setIfInBounds_toArray, List.set_cons_zero, List.set_cons_succ, i64_w, i32_w]
          rfl
        refine pure_ (i := 9) (N := some 60) (v := ?_) (a' := ?_) #[true, true, false, false, false, true, false, false, false, true, false, false, false, false] rfl rfl (by kernel_rfl) (fun _ _ _ h => h) (Or.inl ⟨by rfl, ?_⟩) ?_ ?_
        rotate_left
        · intro w'
          go_simp
          with_reducible rfl
        rotate_left
        · simp only [Act.put, List.setIfInBounds_toArray, List.set_cons_zero, List.set_cons_succ, i64_w, i32_w]
          rfl
        refine take_ (i := 2) (N := some 53) (v := ?_) (a' := ?_) #[true, true, true, false, false, true, false, false, false, true, false, false, false, false] rfl rfl (by kernel_rfl) (fun _ _ _ h => h) (Or.inl ⟨by rfl, ?_⟩) hHeld ?_ ?_
        rotate_left
        · rintro w' ⟨s0, s1, s2, s3, s4, s5, s6⟩
          go_simp
          with_reducible rfl
        rotate_left
        · simp only [Act.put, List.setIfInBounds_toArray, List.set_cons_zero, List.set_cons_succ, i64_w, i32_w]
          rfl
        refine pure_ (i := 3) (N := some 54) (v := ?_) (a' := ?_) #[true, true, true, true, false, true, false, false, false, true, false, false, false, false] rfl rfl (by kernel_rfl) (fun _ _ _ h => h) (Or.inl ⟨by rfl, ?_⟩) ?_ ?_
        rotate_left
        · intro w'
          go_simp
          with_reducible rfl
        rotate_left
        · simp only [Act.put, List.setIfInBounds_toArray, List.set_cons_zero, List.set_cons_succ, i64_w, i32_w]
          rfl
        refine pure_ (i := 4) (N := some 55) (v := ?_) (a' := ?_) #[true, true, true, true, true, true, false, false, false, true, false, false, false, false] rfl rfl (by kernel_rfl) (fun _ _ _ h => h) (Or.inl ⟨by rfl, ?_⟩) ?_ ?_
        rotate_left
        · intro w'
          go_simp
          with_reducible rfl
        rotate_left
        · simp only [Act.put, List.setIfInBounds_toArray, List.set_cons_zero, List.set_cons_succ, i64_w, i32_w]
          rfl
        refine one_ (i := 6) (N := some 57) #[true, true, true, true, true, true, true, false, false, true, false, false, false, false] rfl rfl (by kernel_rfl) (by decide) (fun K hK => ?_)
        refine goesF_ Tryd.func35 (by kernel_rfl) rfl #[.int .i64 0, .pointer (some ⟨g7, 0, none⟩)] (by rfl) rfl rfl rfl (by simp only [List.map_toArray, List.map_cons, List.map_nil]; rfl) ?_
        with_reducible refine (clo_calls (rdStmt xs i) 0 g7 B4 b4 _ (hHeld.2.2.2.2.1) (Kd.C_below HES.out (below_drew1 (Below.refl _ _))) (hgW.out.below (Glob.size hgW.out) (below_drew1 (Below.refl _ _))) (by decide) HFE.out).mono ?_
        rintro e w3 ⟨rfl, hb3⟩
        refine ⟨_, rfl, ?_⟩
        rw [← HZ0.out]
        have hc1 := Lib.hid hb3
        refine hK.out _ _ ⟨below_cell hb3 (Nat.le_refl _) (hHeld.1), below_cell hb3 (Nat.le_refl _) (hHeld.2.1), below_cell hb3 (Nat.le_refl _) (hHeld.2.2.1), below_cell hb3 (Nat.le_refl _) (hHeld.2.2.2.1), below_cell hb3 (Nat.le_refl _) (hHeld.2.2.2.2.1), below_cell hb3 (Nat.le_refl _) (hHeld.2.2.2.2.2.1), below_cell hb3 (Nat.le_refl _) (hHeld.2.2.2.2.2.2)⟩ (fun hHeld => ?_)
        clear hK K
        refine norm_ (a' := ?_) ?_ ?_
        rotate_left
        · show Act.put _ (some 57) _ = _
          simp only [Act.put, List.setIfInBounds_toArray, List.set_cons_zero, List.set_cons_succ, i64_w, i32_w]
          rfl
        refine pure_ (i := 7) (N := some 58) (v := ?_) (a' := ?_) #[true, true, true, true, true, true, true, true, false, true, false, false, false, false] rfl rfl (by kernel_rfl) (fun _ _ _ h => h) (Or.inl ⟨by rfl, ?_⟩) ?_ ?_
        rotate_left
        · intro w'
          go_simp
          with_reducible rfl
        rotate_left
        · simp only [Act.put, List.setIfInBounds_toArray, List.set_cons_zero, List.set_cons_succ, i64_w, i32_w]
          rfl
        refine pure_ (i := 8) (N := some 59) (v := ?_) (a' := ?_) #[true, true, true, true, true, true, true, true, true, true, false, false, false, false] rfl rfl (by kernel_rfl) (fun _ _ _ h => h) (Or.inl ⟨by rfl, ?_⟩) ?_ ?_
        rotate_left
        · intro w'
          go_simp
          with_reducible rfl
        rotate_left
        · simp only [Act.put, List.setIfInBounds_toArray, List.set_cons_zero, List.set_cons_succ, i64_w, i32_w]
          rfl
        refine one_ (i := 10) (N := some 61) #[true, true, true, true, true, true, true, true, true, true, true, false, false, false] rfl rfl (by kernel_rfl) (by decide) (fun K hK => ?_)
        refine goesF_ Tryd.func35 (by kernel_rfl) rfl #[.int .i64 1, .pointer (some ⟨g7, 0, none⟩)] (by rfl) rfl rfl rfl (by simp only [List.map_toArray, List.map_cons, List.map_nil]; rfl) ?_
        with_reducible refine (clo_calls (rdStmt xs i) 1 g7 B4 b4 _ (hHeld.2.2.2.2.1) (Kd.C_below HES.out (below_step (below_drew1 (Below.refl _ _)) hc1.out)) (hgW.out.below (Glob.size hgW.out) (below_step (below_drew1 (Below.refl _ _)) hc1.out)) (by decide) HFE.out).mono ?_
        rintro e w3 ⟨rfl, hb3⟩
        refine ⟨_, rfl, ?_⟩
        rw [← HZ1.out]
        have hc2 := Lib.hid hb3
        refine hK.out _ _ ⟨below_cell hb3 (Nat.le_refl _) (hHeld.1), below_cell hb3 (Nat.le_refl _) (hHeld.2.1), below_cell hb3 (Nat.le_refl _) (hHeld.2.2.1), below_cell hb3 (Nat.le_refl _) (hHeld.2.2.2.1), below_cell hb3 (Nat.le_refl _) (hHeld.2.2.2.2.1), below_cell hb3 (Nat.le_refl _) (hHeld.2.2.2.2.2.1), below_cell hb3 (Nat.le_refl _) (hHeld.2.2.2.2.2.2)⟩ (fun hHeld => ?_)
        clear hK K
        refine norm_ (a' := ?_) ?_ ?_
        rotate_left
        · show Act.put _ (some 61) _ = _
          simp only [Act.put, List.setIfInBounds_toArray, List.set_cons_zero, List.set_cons_succ, i64_w, i32_w]
          rfl
        refine pure_ (i := 11) (N := some 62) (v := ?_) (a' := ?_) #[true, true, true, true, true, true, true, true, true, true, true, true, false, false] rfl rfl (by kernel_rfl) (fun _ _ _ h => h) (Or.inl ⟨by rfl, ?_⟩) ?_ ?_
        rotate_left
        · intro w'
          go_simp
          with_reducible rfl
        rotate_left
        · simp only [Act.put, List.setIfInBounds_toArray, List.set_cons_zero, List.set_cons_succ, i64_w, i32_w]
          rfl
        refine pure_ (i := 12) (N := some 63) (v := ?_) (a' := ?_) #[true, true, true, true, true, true, true, true, true, true, true, true, true, false] rfl rfl (by kernel_rfl) (fun _ _ _ h => h) (Or.inl ⟨by rfl, ?_⟩) ?_ ?_
        rotate_left
        · intro w'
          go_simp
          with_reducible rfl
        rotate_left
        · simp only [Act.put, List.setIfInBounds_toArray, List.set_cons_zero, List.set_cons_succ, i64_w, i32_w]
          rfl
        refine pure_ (i := 13) (N := some 5) (v := ?_) (a' := ?_) #[true, true, true, true, true, true, true, true, true, true, true, true, true, true] rfl rfl (by kernel_rfl) (fun _ _ _ h => h) (Or.inl ⟨by rfl, ?_⟩) ?_ ?_
        rotate_left
        · intro w'
          go_simp
          with_reducible rfl
        rotate_left
        · simp only [Act.put, List.setIfInBounds_toArray, List.set_cons_zero, List.set_cons_succ, i64_w, i32_w]
          rfl
        refine done_ (by kernel_rfl) ?_
        have hb4 := below_undrew (below_step hc1.out hc2.out)
        replace HB := Aside0.mk (below_step HB.out hb4)
        replace HEL := Aside0.mk (Kd.C_below HEL.out hb4)
        clear cg7_0 cg7_1 cg7_2 cg7_3 cg7_4 cg7_5 cg7_6
        obtain ⟨cg7_0, cg7_1, cg7_2, cg7_3, cg7_4, cg7_5, cg7_6⟩ := hHeld
        go_wp2
        go_roundg k1_
        case measure => omega
        case rel =>
          refine ⟨i + 1, rfl, by omega, by omega, ?_, HB⟩
          rw [HTK.out, HST.out]
          have hnm := HNM.out
          generalize (rdStmt xs i).name.data.toList = nm at hnm ⊢
          rw [hnm]
          simp only [HP.out, HT.out, HZ0.out, HZ1.out, lit_bs, bs_add, List.append_assoc]
      have hc3 := hc
      clear hc
      by_cases hc : (rdStmt xs i).does = 4
      · skip
        have k1 : ((rdStmt xs i).does == 1) = false := by rw [hc]; rfl
        have k2 : ((rdStmt xs i).does == 2) = false := by rw [hc]; rfl
        have k3 : ((rdStmt xs i).does == 3) = false := by rw [hc]; rfl
        have k4 : ((rdStmt xs i).does == 4) = true := by rw [hc]; rfl
        clear hc1 hc2 hc3
        by_cases he : (rdStmt xs i).elses = []
        · have kel : ¬ 0 < (rdStmt xs i).elses.length := by rw [he]; decide
          have hst : stext (rdStmt xs i) d = tabs d ++ [105, 102, 32] ++ atL (rdStmt xs i).es 0 ++ [32, 123, 10] ++ slines (rdStmt xs i).thens (d + 1) ++ tabs d ++ [125] ++ [10] := by
            rw [stext_eq, if_neg (by rw [hc]; decide), if_neg (by rw [hc]; decide), if_neg (by rw [hc]; decide), if_pos hc, if_pos he]
            try simp only [List.append_assoc, List.cons_append, List.nil_append]
          rw [hst] at hlen
          simp only [List.length_append, List.length_cons, List.length_nil, size_toList] at hlen
          replace ihT := ihT (by omega)
          have hzT : ¬ 9223372036854775807 < T.size + 1 := by omega
          obtain ⟨Z0, hZ0⟩ : ∃ T, T = bs (atL (rdStmt xs i).es 0) := ⟨_, rfl⟩
          have sZ0 : Z0.size = (atL (rdStmt xs i).es 0).length := by rw [hZ0, bs_size]
          obtain ⟨L1, hL1⟩ : ∃ T, T = bs (slines (rdStmt xs i).thens (d + 1)) := ⟨_, rfl⟩
          have sL1 : L1.size = (slines (rdStmt xs i).thens (d + 1)).length := by rw [hL1, bs_size]
          have hz1 : ¬ 9223372036854775807 < P.size + T.size := by omega
          have hz2 : ¬ 9223372036854775807 < P.size + T.size + 3 := by omega
          have hz3 : ¬ 9223372036854775807 < P.size + T.size + 3 + Z0.size := by omega
          have hz4 : ¬ 9223372036854775807 < P.size + T.size + 3 + Z0.size + 3 := by omega
          have hz5 : ¬ 9223372036854775807 < P.size + T.size + 3 + Z0.size + 3 + L1.size := by omega
          have hz6 : ¬ 9223372036854775807 < P.size + T.size + 3 + Z0.size + 3 + L1.size + T.size := by omega
          have hz7 : ¬ 9223372036854775807 < P.size + T.size + 3 + Z0.size + 3 + L1.size + T.size + 1 := by omega
          have hz8 : ¬ 9223372036854775807 < P.size + T.size + 3 + Z0.size + 3 + L1.size + T.size + 1 + 1 := by omega
          have HST := Lib.hid hst
          have HZ0 := Lib.hid hZ0
          have HL1 := Lib.hid hL1
          clear he hst hlen sT sP hZ0 sZ0 hL1 sL1 hc
          go_wp2_with (first | ((with_reducible refine gate_dst (N := 7) rfl ?_); refine var_event (W1 := ?w1_7_4) (N := 7) (cs := #[.int .i64 (rdStmt xs i).does, .int .i64 (rdStmt xs i).pos.line, .int .i64 (rdStmt xs i).pos.col, .string (rdStmt xs i).name, .slice B4 (rdStmt xs i).es.length b4, .slice B5 (rdStmt xs i).thens.length b5, .slice B6 (rdStmt xs i).elses.length b6]) (t := 38) ?hg ?hd ?hg2 ?hd2 ?hr ?hr2 ?_; (case hd => rfl); (case hg => rfl); (case hd2 => rfl); (case hg2 => rfl); (case hr => first | (go_simp; done) | (go_simp; rfl)); (case hr2 => first | (go_simp; done) | (go_simp; rfl)); intro g7 hgE_ W1 hbox_ hb_; have GEg7 := Aside0.mk (show w.heap.size ≤ g7 from Nat.le_trans HB.out.size (hgE_)); replace HB := Aside0.mk (below_step HB.out hb_); replace HES := Aside0.mk (Kd.C_below HES.out hb_); replace HTH := Aside0.mk (Kd.C_below HTH.out hb_); replace HEL := Aside0.mk (Kd.C_below HEL.out hb_); have BKg7 := Aside0.mk hbox_; have cg7_0 : W1.cell? ⟨g7, 0, none⟩ = some (.int .i64 (rdStmt xs i).does) := (blk_cell BKg7.out 0).trans rfl; have cg7_1 : W1.cell? ⟨g7, 1, none⟩ = some (.int .i64 (rdStmt xs i).pos.line) := (blk_cell BKg7.out 1).trans rfl; have cg7_2 : W1.cell? ⟨g7, 2, none⟩ = some (.int .i64 (rdStmt xs i).pos.col) := (blk_cell BKg7.out 2).trans rfl; have cg7_3 : W1.cell? ⟨g7, 3, none⟩ = some (.string (rdStmt xs i).name) := (blk_cell BKg7.out 3).trans rfl; have cg7_4 : W1.cell? ⟨g7, 4, none⟩ = some (.slice B4 (rdStmt xs i).es.length b4) := (blk_cell BKg7.out 4).trans rfl; have cg7_5 : W1.cell? ⟨g7, 5, none⟩ = some (.slice B5 (rdStmt xs i).thens.length b5) := (blk_cell BKg7.out 5).trans rfl; have cg7_6 : W1.cell? ⟨g7, 6, none⟩ = some (.slice B6 (rdStmt xs i).elses.length b6) := (blk_cell BKg7.out 6).trans rfl; clear hb_ hbox_ hgE_))
          have hgW := Aside0.mk (hg.below hg.size HB.out)
          refine start_ (n := 16) (S := fun w' => w'.cell? ⟨g7, 0, none⟩ = some (.int .i64 (rdStmt xs i).does) ∧ w'.cell? ⟨g7, 1, none⟩ = some (.int .i64 (rdStmt xs i).pos.line) ∧ w'.cell? ⟨g7, 2, none⟩ = some (.int .i64 (rdStmt xs i).pos.col) ∧ w'.cell? ⟨g7, 3, none⟩ = some (.string (rdStmt xs i).name) ∧ w'.cell? ⟨g7, 4, none⟩ = some (.slice B4 (rdStmt xs i).es.length b4) ∧ w'.cell? ⟨g7, 5, none⟩ = some (.slice B5 (rdStmt xs i).thens.length b5) ∧ w'.cell? ⟨g7, 6, none⟩ = some (.slice B6 (rdStmt xs i).elses.length b6)) (ds := []) #[false, false, false, false, false, false, false, false, false, false, false, false, false, false, false, false] (by kernel_rfl) rfl rfl ⟨cg7_0, cg7_1, cg7_2, cg7_3, cg7_4, cg7_5, cg7_6⟩ (fun hHeld => ?_)
          refine pure_ (i := 0) (N := some 66) (v := ?_) (a' := ?_) #[true, false, false, false, false, false, false, false, false, false, false, false, false, false, false, false] rfl rfl (by kernel_rfl) (fun _ _ _ h => h) (Or.inl ⟨by rfl, ?_⟩) ?_ ?_
          rotate_left
          · intro w'
            go_simp
            with_reducible rfl
          rotate_left
          · simp only [Act.put, List.setIfInBounds_toArray, List.set_cons_zero, List.set_cons_succ, i64_w, i32_w]
            rfl
          refine pure_ (i := 1) (N := some 67) (v := ?_) (a' := ?_) #[true, true, false, false, false, false, false, false, false, false, false, false, false, false, false, false] rfl rfl (by kernel_rfl) (fun _ _ _ h => h) (Or.inl ⟨by rfl, ?_⟩) ?_ ?_
          rotate_left
          · intro w'
            go_simp
            with_reducible rfl
          rotate_left
          · simp only [Act.put, List.setIfInBounds_toArray, List.set_cons_zero, List.set_cons_succ, i64_w, i32_w]
            rfl
          refine pure_ (i := 2) (N := some 68) (v := ?_) (a' := ?_) #[true, true, true, false, false, false, false, false, false, false, false, false, false, false, false, false] rfl rfl (by kernel_rfl) (fun _ _ _ h => h) (Or.inl ⟨by rfl, ?_⟩) ?_ ?_
          rotate_left
          · intro w'
            go_simp
            with_reducible rfl
          rotate_left
          · simp only [Act.put, List.setIfInBounds_toArray, List.set_cons_zero, List.set_cons_succ, i64_w, i32_w]
            rfl
          refine pure_ (i := 6) (N := some 72) (v := ?_) (a' := ?_) #[true, true, true, false, false, false, true, false, false, false, false, false, false, false, false, false] rfl rfl (by kernel_rfl) (fun _ _ _ h => h) (Or.inl ⟨by rfl, ?_⟩) ?_ ?_
          rotate_left
          · intro w'
            go_simp
            with_reducible rfl
          rotate_left
          · simp only [Act.put, List.setIfInBounds_toArray, List.set_cons_zero, List.set_cons_succ, i64_w, i32_w]
            rfl
          refine pure_ (i := 8) (N := some 74) (v := ?_) (a' := ?_) #[true, true, true, false, false, false, true, false, true, false, false, false, false, false, false, false] rfl rfl (by kernel_rfl) (fun _ _ _ h => h) (Or.inl ⟨by rfl, ?_⟩) ?_ ?_
          rotate_left
          · intro w'
            go_simp
            with_reducible rfl
          rotate_left
          · simp only [Act.put, List.setIfInBounds_toArray, List.set_cons_zero, List.set_cons_succ, i64_w, i32_w]
            rfl
          refine pure_ (i := 9) (N := some 75) (v := ?_) (a' := ?_) #[true, true, true, false, false, false, true, false, true, true, false, false, false, false, false, false] rfl rfl (by kernel_rfl) (fun _ _ _ h => h) (Or.inl ⟨by rfl, ?_⟩) ?_ ?_
          rotate_left
          · intro w'
            go_simp
            with_reducible rfl
          rotate_left
          · simp only [Act.put, List.setIfInBounds_toArray, List.set_cons_zero, List.set_cons_succ, i64_w, i32_w]
            rfl
          refine pure_ (i := 12) (N := some 78) (v := ?_) (a' := ?_) #[true, true, true, false, false, false, true, false, true, true, false, false, true, false, false, false] rfl rfl (by kernel_rfl) (fun _ _ _ h => h) (Or.inl ⟨by rfl, ?_⟩) ?_ ?_
          rotate_left
          · intro w'
            go_simp
            with_reducible rfl
          rotate_left
          · simp only [Act.put, List.setIfInBounds_toArray, List.set_cons_zero, List.set_cons_succ, i64_w, i32_w]
            rfl
          refine take_ (i := 7) (N := some 73) (v := ?_) (a' := ?_) #[true, true, true, false, false, false, true, true, true, true, false, false, true, false, false, false] rfl rfl (by kernel_rfl) (fun _ _ _ h => h) (Or.inl ⟨by rfl, ?_⟩) hHeld ?_ ?_
          rotate_left
          · rintro w' ⟨s0, s1, s2, s3, s4, s5, s6⟩
            go_simp
            with_reducible rfl
          rotate_left
          · simp only [Act.put, List.setIfInBounds_toArray, List.set_cons_zero, List.set_cons_succ, i64_w, i32_w]
            rfl
          refine one_ (i := 3) (N := some 69) #[true, true, true, true, false, false, true, true, true, true, false, false, true, false, false, false] rfl rfl (by kernel_rfl) (by decide) (fun K hK => ?_)
          refine goesF_ Tryd.func35 (by kernel_rfl) rfl #[.int .i64 0, .pointer (some ⟨g7, 0, none⟩)] (by rfl) rfl rfl rfl (by simp only [List.map_toArray, List.map_cons, List.map_nil]; rfl) ?_
          with_reducible refine (clo_calls (rdStmt xs i) 0 g7 B4 b4 _ (hHeld.2.2.2.2.1) (Kd.C_below HES.out (below_drew1 (Below.refl _ _))) (hgW.out.below (Glob.size hgW.out) (below_drew1 (Below.refl _ _))) (by decide) HFE.out).mono ?_
          rintro e w3 ⟨rfl, hb3⟩
          refine ⟨_, rfl, ?_⟩
          rw [← HZ0.out]
          have hc1 := Lib.hid hb3
          refine hK.out _ _ ⟨below_cell hb3 (Nat.le_refl _) (hHeld.1), below_cell hb3 (Nat.le_refl _) (hHeld.2.1), below_cell hb3 (Nat.le_refl _) (hHeld.2.2.1), below_cell hb3 (Nat.le_refl _) (hHeld.2.2.2.1), below_cell hb3 (Nat.le_refl _) (hHeld.2.2.2.2.1), below_cell hb3 (Nat.le_refl _) (hHeld.2.2.2.2.2.1), below_cell hb3 (Nat.le_refl _) (hHeld.2.2.2.2.2.2)⟩ (fun hHeld => ?_)
          clear hK K
          refine norm_ (a' := ?_) ?_ ?_
          rotate_left
          · show Act.put _ (some 69) _ = _
            simp only [Act.put, List.setIfInBounds_toArray, List.set_cons_zero, List.set_cons_succ, i64_w, i32_w]
            rfl
          refine pure_ (i := 4) (N := some 70) (v := ?_) (a' := ?_) #[true, true, true, true, true, false, true, true, true, true, false, false, true, false, false, false] rfl rfl (by kernel_rfl) (fun _ _ _ h => h) (Or.inl ⟨by rfl, ?_⟩) ?_ ?_
          rotate_left
          · intro w'
            go_simp
            with_reducible rfl
          rotate_left
          · simp only [Act.put, List.setIfInBounds_toArray, List.set_cons_zero, List.set_cons_succ, i64_w, i32_w]
            rfl
          refine pure_ (i := 5) (N := some 71) (v := ?_) (a' := ?_) #[true, true, true, true, true, true, true, true, true, true, false, false, true, false, false, false] rfl rfl (by kernel_rfl) (fun _ _ _ h => h) (Or.inl ⟨by rfl, ?_⟩) ?_ ?_
          rotate_left
          · intro w'
            go_simp
            with_reducible rfl
          rotate_left
          · simp only [Act.put, List.setIfInBounds_toArray, List.set_cons_zero, List.set_cons_succ, i64_w, i32_w]
            rfl
          refine one_ (i := 10) (N := some 76) #[true, true, true, true, true, true, true, true, true, true, true, false, true, false, false, false] rfl rfl (by kernel_rfl) (by decide) (fun K hK => ?_)
          refine goes_ Tryd.func20 (by kernel_rfl) rfl #[.slice B5 (rdStmt xs i).thens.length b5, .string (T ++ ⟨#[9]⟩)] (by rfl) rfl rfl (by simp only [List.map_toArray, List.map_cons, List.map_nil]; rfl) ?_
          with_reducible refine (ihT _ _ _ _ (Kd.C_below HTH.out (below_step (below_drew1 (Below.refl _ _)) hc1.out)) (hgW.out.below (Glob.size hgW.out) (below_step (below_drew1 (Below.refl _ _)) hc1.out))).mono ?_
          rintro e w3 ⟨rfl, hb3⟩
          refine ⟨_, rfl, ?_⟩
          rw [← HL1.out]
          have hc2 := Lib.hid hb3
          refine hK.out _ _ ⟨below_cell hb3 (Nat.le_refl _) (hHeld.1), below_cell hb3 (Nat.le_refl _) (hHeld.2.1), below_cell hb3 (Nat.le_refl _) (hHeld.2.2.1), below_cell hb3 (Nat.le_refl _) (hHeld.2.2.2.1), below_cell hb3 (Nat.le_refl _) (hHeld.2.2.2.2.1), below_cell hb3 (Nat.le_refl _) (hHeld.2.2.2.2.2.1), below_cell hb3 (Nat.le_refl _) (hHeld.2.2.2.2.2.2)⟩ (fun hHeld => ?_)
          clear hK K
          refine norm_ (a' := ?_) ?_ ?_
          rotate_left
          · show Act.put _ (some 76) _ = _
            simp only [Act.put, List.setIfInBounds_toArray, List.set_cons_zero, List.set_cons_succ, i64_w, i32_w]
            rfl
          refine pure_ (i := 11) (N := some 77) (v := ?_) (a' := ?_) #[true, true, true, true, true, true, true, true, true, true, true, true, true, false, false, false] rfl rfl (by kernel_rfl) (fun _ _ _ h => h) (Or.inl ⟨by rfl, ?_⟩) ?_ ?_
          rotate_left
          · intro w'
            go_simp
            with_reducible rfl
          rotate_left
          · simp only [Act.put, List.setIfInBounds_toArray, List.set_cons_zero, List.set_cons_succ, i64_w, i32_w]
            rfl
          refine pure_ (i := 13) (N := some 79) (v := ?_) (a' := ?_) #[true, true, true, true, true, true, true, true, true, true, true, true, true, true, false, false] rfl rfl (by kernel_rfl) (fun _ _ _ h => h) (Or.inl ⟨by rfl, ?_⟩) ?_ ?_
          rotate_left
          · intro w'
            go_simp
            with_reducible rfl
          rotate_left
          · simp only [Act.put, List.setIfInBounds_toArray, List.set_cons_zero, List.set_cons_succ, i64_w, i32_w]
            rfl
          refine pure_ (i := 14) (N := some 80) (v := ?_) (a' := ?_) #[true, true, true, true, true, true, true, true, true, true, true, true, true, true, true, false] rfl rfl (by kernel_rfl) (fun _ _ _ h => h) (Or.inl ⟨by rfl, ?_⟩) ?_ ?_
          rotate_left
          · intro w'
            go_simp
            with_reducible rfl
          rotate_left
          · simp only [Act.put, List.setIfInBounds_toArray, List.set_cons_zero, List.set_cons_succ, i64_w, i32_w]
            rfl
          refine pure_ (i := 15) (N := some 5) (v := ?_) (a' := ?_) #[true, true, true, true, true, true, true, true, true, true, true, true, true, true, true, true] rfl rfl (by kernel_rfl) (fun _ _ _ h => h) (Or.inl ⟨by rfl, ?_⟩) ?_ ?_
          rotate_left
          · intro w'
            go_simp
            with_reducible rfl
          rotate_left
          · simp only [Act.put, List.setIfInBounds_toArray, List.set_cons_zero, List.set_cons_succ, i64_w, i32_w]
            rfl
          refine done_ (by kernel_rfl) ?_
          have hb4 := below_undrew (below_step hc1.out hc2.out)
          replace HB := Aside0.mk (below_step HB.out hb4)
          replace HEL := Aside0.mk (Kd.C_below HEL.out hb4)
          clear cg7_0 cg7_1 cg7_2 cg7_3 cg7_4 cg7_5 cg7_6
          obtain ⟨cg7_0, cg7_1, cg7_2, cg7_3, cg7_4, cg7_5, cg7_6⟩ := hHeld
          go_wp2
          go_roundg k1_
          case measure => omega
          case rel =>
            refine ⟨i + 1, rfl, by omega, by omega, ?_, HB⟩
            rw [HTK.out, HST.out]
            simp only [HP.out, HT.out, HZ0.out, HL1.out, lit_bs, bs_add, List.append_assoc]
        · have kel : 0 < (rdStmt xs i).elses.length := List.length_pos_iff.2 he
          have hst : stext (rdStmt xs i) d = tabs d ++ [105, 102, 32] ++ atL (rdStmt xs i).es 0 ++ [32, 123, 10] ++ slines (rdStmt xs i).thens (d + 1) ++ tabs d ++ [125] ++ [32, 101, 108, 115, 101, 32, 123, 10] ++ slines (rdStmt xs i).elses (d + 1) ++ tabs d ++ [125] ++ [10] := by
            rw [stext_eq, if_neg (by rw [hc]; decide), if_neg (by rw [hc]; decide), if_neg (by rw [hc]; decide), if_pos hc, if_neg he]
            try simp only [List.append_assoc, List.cons_append, List.nil_append]
          rw [hst] at hlen
          simp only [List.length_append, List.length_cons, List.length_nil, size_toList] at hlen
          replace ihT := ihT (by omega)
          replace ihE := ihE (by omega)
          have hzT : ¬ 9223372036854775807 < T.size + 1 := by omega
          obtain ⟨Z0, hZ0⟩ : ∃ T, T = bs (atL (rdStmt xs i).es 0) := ⟨_, rfl⟩
          have sZ0 : Z0.size = (atL (rdStmt xs i).es 0).length := by rw [hZ0, bs_size]
          obtain ⟨L1, hL1⟩ : ∃ T, T = bs (slines (rdStmt xs i).thens (d + 1)) := ⟨_, rfl⟩
          have sL1 : L1.size = (slines (rdStmt xs i).thens (d + 1)).length := by rw [hL1, bs_size]
          obtain ⟨L2, hL2⟩ : ∃ T, T = bs (slines (rdStmt xs i).elses (d + 1)) := ⟨_, rfl⟩
          have sL2 : L2.size = (slines (rdStmt xs i).elses (d + 1)).length := by rw [hL2, bs_size]
          have hz1 : ¬ 9223372036854775807 < P.size + T.size := by omega
          have hz2 : ¬ 9223372036854775807 < P.size + T.size + 3 := by omega
          have hz3 : ¬ 9223372036854775807 < P.size + T.size + 3 + Z0.size := by omega
          have hz4 : ¬ 9223372036854775807 < P.size + T.size + 3 + Z0.size + 3 := by omega
          have hz5 : ¬ 9223372036854775807 < P.size + T.size + 3 + Z0.size + 3 + L1.size := by omega
          have hz6 : ¬ 9223372036854775807 < P.size + T.size + 3 + Z0.size + 3 + L1.size + T.size := by omega
          have hz7 : ¬ 9223372036854775807 < P.size + T.size + 3 + Z0.size + 3 + L1.size + T.size + 1 := by omega
          have hz8 : ¬ 9223372036854775807 < P.size + T.size + 3 + Z0.size + 3 + L1.size + T.size + 1 + 8 := by omega
          have hz9 : ¬ 9223372036854775807 < P.size + T.size + 3 + Z0.size + 3 + L1.size + T.size + 1 + 8 + L2.size := by omega
          have hz10 : ¬ 9223372036854775807 < P.size + T.size + 3 + Z0.size + 3 + L1.size + T.size + 1 + 8 + L2.size + T.size := by omega
          have hz11 : ¬ 9223372036854775807 < P.size + T.size + 3 + Z0.size + 3 + L1.size + T.size + 1 + 8 + L2.size + T.size + 1 := by omega
          have hz12 : ¬ 9223372036854775807 < P.size + T.size + 3 + Z0.size + 3 + L1.size + T.size + 1 + 8 + L2.size + T.size + 1 + 1 := by omega
          have HST := Lib.hid hst
          have HZ0 := Lib.hid hZ0
          have HL1 := Lib.hid hL1
          have HL2 := Lib.hid hL2
          clear he hst hlen sT sP hZ0 sZ0 hL1 sL1 hL2 sL2 hc
          go_wp2_with (first | ((with_reducible refine gate_dst (N := 7) rfl ?_); refine var_event (W1 := ?w1_7_5) (N := 7) (cs := #[.int .i64 (rdStmt xs i).does, .int .i64 (rdStmt xs i).pos.line, .int .i64 (rdStmt xs i).pos.col, .string (rdStmt xs i).name, .slice B4 (rdStmt xs i).es.length b4, .slice B5 (rdStmt xs i).thens.length b5, .slice B6 (rdStmt xs i).elses.length b6]) (t := 38) ?hg ?hd ?hg2 ?hd2 ?hr ?hr2 ?_; (case hd => rfl); (case hg => rfl); (case hd2 => rfl); (case hg2 => rfl); (case hr => first | (go_simp; done) | (go_simp; rfl)); (case hr2 => first | (go_simp; done) | (go_simp; rfl)); intro g7 hgE_ W1 hbox_ hb_; have GEg7 := Aside0.mk (show w.heap.size ≤ g7 from Nat.le_trans HB.out.size (hgE_)); replace HB := Aside0.mk (below_step HB.out hb_); replace HES := Aside0.mk (Kd.C_below HES.out hb_); replace HTH := Aside0.mk (Kd.C_below HTH.out hb_); replace HEL := Aside0.mk (Kd.C_below HEL.out hb_); have BKg7 := Aside0.mk hbox_; have cg7_0 : W1.cell? ⟨g7, 0, none⟩ = some (.int .i64 (rdStmt xs i).does) := (blk_cell BKg7.out 0).trans rfl; have cg7_1 : W1.cell? ⟨g7, 1, none⟩ = some (.int .i64 (rdStmt xs i).pos.line) := (blk_cell BKg7.out 1).trans rfl; have cg7_2 : W1.cell? ⟨g7, 2, none⟩ = some (.int .i64 (rdStmt xs i).pos.col) := (blk_cell BKg7.out 2).trans rfl; have cg7_3 : W1.cell? ⟨g7, 3, none⟩ = some (.string (rdStmt xs i).name) := (blk_cell BKg7.out 3).trans rfl; have cg7_4 : W1.cell? ⟨g7, 4, none⟩ = some (.slice B4 (rdStmt xs i).es.length b4) := (blk_cell BKg7.out 4).trans rfl; have cg7_5 : W1.cell? ⟨g7, 5, none⟩ = some (.slice B5 (rdStmt xs i).thens.length b5) := (blk_cell BKg7.out 5).trans rfl; have cg7_6 : W1.cell? ⟨g7, 6, none⟩ = some (.slice B6 (rdStmt xs i).elses.length b6) := (blk_cell BKg7.out 6).trans rfl; clear hb_ hbox_ hgE_))
          have hgW := Aside0.mk (hg.below hg.size HB.out)
          refine start_ (n := 16) (S := fun w' => w'.cell? ⟨g7, 0, none⟩ = some (.int .i64 (rdStmt xs i).does) ∧ w'.cell? ⟨g7, 1, none⟩ = some (.int .i64 (rdStmt xs i).pos.line) ∧ w'.cell? ⟨g7, 2, none⟩ = some (.int .i64 (rdStmt xs i).pos.col) ∧ w'.cell? ⟨g7, 3, none⟩ = some (.string (rdStmt xs i).name) ∧ w'.cell? ⟨g7, 4, none⟩ = some (.slice B4 (rdStmt xs i).es.length b4) ∧ w'.cell? ⟨g7, 5, none⟩ = some (.slice B5 (rdStmt xs i).thens.length b5) ∧ w'.cell? ⟨g7, 6, none⟩ = some (.slice B6 (rdStmt xs i).elses.length b6)) (ds := []) #[false, false, false, false, false, false, false, false, false, false, false, false, false, false, false, false] (by kernel_rfl) rfl rfl ⟨cg7_0, cg7_1, cg7_2, cg7_3, cg7_4, cg7_5, cg7_6⟩ (fun hHeld => ?_)
          refine pure_ (i := 0) (N := some 66) (v := ?_) (a' := ?_) #[true, false, false, false, false, false, false, false, false, false, false, false, false, false, false, false] rfl rfl (by kernel_rfl) (fun _ _ _ h => h) (Or.inl ⟨by rfl, ?_⟩) ?_ ?_
          rotate_left
          · intro w'
            go_simp
            with_reducible rfl
          rotate_left
          · simp only [Act.put, List.setIfInBounds_toArray, List.set_cons_zero, List.set_cons_succ, i64_w, i32_w]
            rfl
          refine pure_ (i := 1) (N := some 67) (v := ?_) (a' := ?_) #[true, true, false, false, false, false, false, false, false, false, false, false, false, false, false, false] rfl rfl (by kernel_rfl) (fun _ _ _ h => h) (Or.inl ⟨by rfl, ?_⟩) ?_ ?_
          rotate_left
          · intro w'
            go_simp
            with_reducible rfl
          rotate_left
          · simp only [Act.put, List.setIfInBounds_toArray, List.set_cons_zero, List.set_cons_succ, i64_w, i32_w]
            rfl
          refine pure_ (i := 2) (N := some 68) (v := ?_) (a' := ?_) #[true, true, true, false, false, false, false, false, false, false, false, false, false, false, false, false] rfl rfl (by kernel_rfl) (fun _ _ _ h => h) (Or.inl ⟨by rfl, ?_⟩) ?_ ?_
          rotate_left
          · intro w'
            go_simp
            with_reducible rfl
          rotate_left
          · simp only [Act.put, List.setIfInBounds_toArray, List.set_cons_zero, List.set_cons_succ, i64_w, i32_w]
            rfl
          refine pure_ (i := 6) (N := some 72) (v := ?_) (a' := ?_) #[true, true, true, false, false, false, true, false, false, false, false, false, false, false, false, false] rfl rfl (by kernel_rfl) (fun _ _ _ h => h) (Or.inl ⟨by rfl, ?_⟩) ?_ ?_
          rotate_left
          · intro w'
            go_simp
            with_reducible rfl
          rotate_left
          · simp only [Act.put, List.setIfInBounds_toArray, List.set_cons_zero, List.set_cons_succ, i64_w, i32_w]
            rfl
          refine pure_ (i := 8) (N := some 74) (v := ?_) (a' := ?_) #[true, true, true, false, false, false, true, false, true, false, false, false, false, false, false, false] rfl rfl (by kernel_rfl) (fun _ _ _ h => h) (Or.inl ⟨by rfl, ?_⟩) ?_ ?_
          rotate_left
          · intro w'
            go_simp
            with_reducible rfl
          rotate_left
          · simp only [Act.put, List.setIfInBounds_toArray, List.set_cons_zero, List.set_cons_succ, i64_w, i32_w]
            rfl
          refine pure_ (i := 9) (N := some 75) (v := ?_) (a' := ?_) #[true, true, true, false, false, false, true, false, true, true, false, false, false, false, false, false] rfl rfl (by kernel_rfl) (fun _ _ _ h => h) (Or.inl ⟨by rfl, ?_⟩) ?_ ?_
          rotate_left
          · intro w'
            go_simp
            with_reducible rfl
          rotate_left
          · simp only [Act.put, List.setIfInBounds_toArray, List.set_cons_zero, List.set_cons_succ, i64_w, i32_w]
            rfl
          refine pure_ (i := 12) (N := some 78) (v := ?_) (a' := ?_) #[true, true, true, false, false, false, true, false, true, true, false, false, true, false, false, false] rfl rfl (by kernel_rfl) (fun _ _ _ h => h) (Or.inl ⟨by rfl, ?_⟩) ?_ ?_
          rotate_left
          · intro w'
            go_simp
            with_reducible rfl
          rotate_left
          · simp only [Act.put, List.setIfInBounds_toArray, List.set_cons_zero, List.set_cons_succ, i64_w, i32_w]
            rfl
          refine take_ (i := 7) (N := some 73) (v := ?_) (a' := ?_) #[true, true, true, false, false, false, true, true, true, true, false, false, true, false, false, false] rfl rfl (by kernel_rfl) (fun _ _ _ h => h) (Or.inl ⟨by rfl, ?_⟩) hHeld ?_ ?_
          rotate_left
          · rintro w' ⟨s0, s1, s2, s3, s4, s5, s6⟩
            go_simp
            with_reducible rfl
          rotate_left
          · simp only [Act.put, List.setIfInBounds_toArray, List.set_cons_zero, List.set_cons_succ, i64_w, i32_w]
            rfl
          refine one_ (i := 3) (N := some 69) #[true, true, true, true, false, false, true, true, true, true, false, false, true, false, false, false] rfl rfl (by kernel_rfl) (by decide) (fun K hK => ?_)
          refine goesF_ Tryd.func35 (by kernel_rfl) rfl #[.int .i64 0, .pointer (some ⟨g7, 0, none⟩)] (by rfl) rfl rfl rfl (by simp only [List.map_toArray, List.map_cons, List.map_nil]; rfl) ?_
          with_reducible refine (clo_calls (rdStmt xs i) 0 g7 B4 b4 _ (hHeld.2.2.2.2.1) (Kd.C_below HES.out (below_drew1 (Below.refl _ _))) (hgW.out.below (Glob.size hgW.out) (below_drew1 (Below.refl _ _))) (by decide) HFE.out).mono ?_
          rintro e w3 ⟨rfl, hb3⟩
          refine ⟨_, rfl, ?_⟩
          rw [← HZ0.out]
          have hc1 := Lib.hid hb3
          refine hK.out _ _ ⟨below_cell hb3 (Nat.le_refl _) (hHeld.1), below_cell hb3 (Nat.le_refl _) (hHeld.2.1), below_cell hb3 (Nat.le_refl _) (hHeld.2.2.1), below_cell hb3 (Nat.le_refl _) (hHeld.2.2.2.1), below_cell hb3 (Nat.le_refl _) (hHeld.2.2.2.2.1), below_cell hb3 (Nat.le_refl _) (hHeld.2.2.2.2.2.1), below_cell hb3 (Nat.le_refl _) (hHeld.2.2.2.2.2.2)⟩ (fun hHeld => ?_)
          clear hK K
          refine norm_ (a' := ?_) ?_ ?_
          rotate_left
          · show Act.put _ (some 69) _ = _
            simp only [Act.put, List.setIfInBounds_toArray, List.set_cons_zero, List.set_cons_succ, i64_w, i32_w]
            rfl
          refine pure_ (i := 4) (N := some 70) (v := ?_) (a' := ?_) #[true, true, true, true, true, false, true, true, true, true, false, false, true, false, false, false] rfl rfl (by kernel_rfl) (fun _ _ _ h => h) (Or.inl ⟨by rfl, ?_⟩) ?_ ?_
          rotate_left
          · intro w'
            go_simp
            with_reducible rfl
          rotate_left
          · simp only [Act.put, List.setIfInBounds_toArray, List.set_cons_zero, List.set_cons_succ, i64_w, i32_w]
            rfl
          refine pure_ (i := 5) (N := some 71) (v := ?_) (a' := ?_) #[true, true, true, true, true, true, true, true, true, true, false, false, true, false, false, false] rfl rfl (by kernel_rfl) (fun _ _ _ h => h) (Or.inl ⟨by rfl, ?_⟩) ?_ ?_
          rotate_left
          · intro w'
            go_simp
            with_reducible rfl
          rotate_left
          · simp only [Act.put, List.setIfInBounds_toArray, List.set_cons_zero, List.set_cons_succ, i64_w, i32_w]
            rfl
          refine one_ (i := 10) (N := some 76) #[true, true, true, true, true, true, true, true, true, true, true, false, true, false, false, false] rfl rfl (by kernel_rfl) (by decide) (fun K hK => ?_)
          refine goes_ Tryd.func20 (by kernel_rfl) rfl #[.slice B5 (rdStmt xs i).thens.length b5, .string (T ++ ⟨#[9]⟩)] (by rfl) rfl rfl (by simp only [List.map_toArray, List.map_cons, List.map_nil]; rfl) ?_
          with_reducible refine (ihT _ _ _ _ (Kd.C_below HTH.out (below_step (below_drew1 (Below.refl _ _)) hc1.out)) (hgW.out.below (Glob.size hgW.out) (below_step (below_drew1 (Below.refl _ _)) hc1.out))).mono ?_
          rintro e w3 ⟨rfl, hb3⟩
          refine ⟨_, rfl, ?_⟩
          rw [← HL1.out]
          have hc2 := Lib.hid hb3
          refine hK.out _ _ ⟨below_cell hb3 (Nat.le_refl _) (hHeld.1), below_cell hb3 (Nat.le_refl _) (hHeld.2.1), below_cell hb3 (Nat.le_refl _) (hHeld.2.2.1), below_cell hb3 (Nat.le_refl _) (hHeld.2.2.2.1), below_cell hb3 (Nat.le_refl _) (hHeld.2.2.2.2.1), below_cell hb3 (Nat.le_refl _) (hHeld.2.2.2.2.2.1), below_cell hb3 (Nat.le_refl _) (hHeld.2.2.2.2.2.2)⟩ (fun hHeld => ?_)
          clear hK K
          refine norm_ (a' := ?_) ?_ ?_
          rotate_left
          · show Act.put _ (some 76) _ = _
            simp only [Act.put, List.setIfInBounds_toArray, List.set_cons_zero, List.set_cons_succ, i64_w, i32_w]
            rfl
          refine pure_ (i := 11) (N := some 77) (v := ?_) (a' := ?_) #[true, true, true, true, true, true, true, true, true, true, true, true, true, false, false, false] rfl rfl (by kernel_rfl) (fun _ _ _ h => h) (Or.inl ⟨by rfl, ?_⟩) ?_ ?_
          rotate_left
          · intro w'
            go_simp
            with_reducible rfl
          rotate_left
          · simp only [Act.put, List.setIfInBounds_toArray, List.set_cons_zero, List.set_cons_succ, i64_w, i32_w]
            rfl
          refine pure_ (i := 13) (N := some 79) (v := ?_) (a' := ?_) #[true, true, true, true, true, true, true, true, true, true, true, true, true, true, false, false] rfl rfl (by kernel_rfl) (fun _ _ _ h => h) (Or.inl ⟨by rfl, ?_⟩) ?_ ?_
          rotate_left
          · intro w'
            go_simp
            with_reducible rfl
          rotate_left
          · simp only [Act.put, List.setIfInBounds_toArray, List.set_cons_zero, List.set_cons_succ, i64_w, i32_w]
            rfl
          refine pure_ (i := 14) (N := some 80) (v := ?_) (a' := ?_) #[true, true, true, true, true, true, true, true, true, true, true, true, true, true, true, false] rfl rfl (by kernel_rfl) (fun _ _ _ h => h) (Or.inl ⟨by rfl, ?_⟩) ?_ ?_
          rotate_left
          · intro w'
            go_simp
            with_reducible rfl
          rotate_left
          · simp only [Act.put, List.setIfInBounds_toArray, List.set_cons_zero, List.set_cons_succ, i64_w, i32_w]
            rfl
          refine pure_ (i := 15) (N := some 5) (v := ?_) (a' := ?_) #[true, true, true, true, true, true, true, true, true, true, true, true, true, true, true, true] rfl rfl (by kernel_rfl) (fun _ _ _ h => h) (Or.inl ⟨by rfl, ?_⟩) ?_ ?_
          rotate_left
          · intro w'
            go_simp
            with_reducible rfl
          rotate_left
          · simp only [Act.put, List.setIfInBounds_toArray, List.set_cons_zero, List.set_cons_succ, i64_w, i32_w]
            rfl
          refine done_ (by kernel_rfl) ?_
          have hb4 := below_undrew (below_step hc1.out hc2.out)
          replace HB := Aside0.mk (below_step HB.out hb4)
          replace HEL := Aside0.mk (Kd.C_below HEL.out hb4)
          clear cg7_0 cg7_1 cg7_2 cg7_3 cg7_4 cg7_5 cg7_6
          obtain ⟨cg7_0, cg7_1, cg7_2, cg7_3, cg7_4, cg7_5, cg7_6⟩ := hHeld
          go_wp2_with (first | (go_at_call 20; (with_reducible refine (ihE _ _ _ _ HEL.out (hg.below hg.size HB.out)).mono ?_); rintro e w4 ⟨rfl, hb4_⟩; rw [← HL2.out]; replace HB := Aside0.mk (below_step HB.out hb4_); clear hb4_))
          go_roundg k1_
          case measure => omega
          case rel =>
            refine ⟨i + 1, rfl, by omega, by omega, ?_, HB⟩
            rw [HTK.out, HST.out]
            simp only [HP.out, HT.out, HZ0.out, HL1.out, HL2.out, lit_bs, bs_add, List.append_assoc]
      have hc4 := hc
      clear hc
      by_cases hc : (rdStmt xs i).does = 5
      · skip
        have k1 : ((rdStmt xs i).does == 1) = false := by rw [hc]; rfl
        have k2 : ((rdStmt xs i).does == 2) = false := by rw [hc]; rfl
        have k3 : ((rdStmt xs i).does == 3) = false := by rw [hc]; rfl
        have k4 : ((rdStmt xs i).does == 4) = false := by rw [hc]; rfl
        have k5 : ((rdStmt xs i).does == 5) = true := by rw [hc]; rfl
        clear hc1 hc2 hc3 hc4
        have hst : stext (rdStmt xs i) d = tabs d ++ [119, 104, 105, 108, 101, 32] ++ atL (rdStmt xs i).es 0 ++ [32, 123, 10] ++ slines (rdStmt xs i).thens (d + 1) ++ tabs d ++ [125] ++ [10] := by
          rw [stext_eq, if_neg (by rw [hc]; decide), if_neg (by rw [hc]; decide), if_neg (by rw [hc]; decide), if_neg (by rw [hc]; decide), if_pos hc]
          try simp only [List.append_assoc, List.cons_append, List.nil_append]
        rw [hst] at hlen
        simp only [List.length_append, List.length_cons, List.length_nil, size_toList] at hlen
        replace ihT := ihT (by omega)
        have hzT : ¬ 9223372036854775807 < T.size + 1 := by omega
        obtain ⟨Z0, hZ0⟩ : ∃ T, T = bs (atL (rdStmt xs i).es 0) := ⟨_, rfl⟩
        have sZ0 : Z0.size = (atL (rdStmt xs i).es 0).length := by rw [hZ0, bs_size]
        obtain ⟨L1, hL1⟩ : ∃ T, T = bs (slines (rdStmt xs i).thens (d + 1)) := ⟨_, rfl⟩
        have sL1 : L1.size = (slines (rdStmt xs i).thens (d + 1)).length := by rw [hL1, bs_size]
        have hz1 : ¬ 9223372036854775807 < P.size + T.size := by omega
        have hz2 : ¬ 9223372036854775807 < P.size + T.size + 6 := by omega
        have hz3 : ¬ 9223372036854775807 < P.size + T.size + 6 + Z0.size := by omega
        have hz4 : ¬ 9223372036854775807 < P.size + T.size + 6 + Z0.size + 3 := by omega
        have hz5 : ¬ 9223372036854775807 < P.size + T.size + 6 + Z0.size + 3 + L1.size := by omega
        have hz6 : ¬ 9223372036854775807 < P.size + T.size + 6 + Z0.size + 3 + L1.size + T.size := by omega
        have hz7 : ¬ 9223372036854775807 < P.size + T.size + 6 + Z0.size + 3 + L1.size + T.size + 1 := by omega
        have hz8 : ¬ 9223372036854775807 < P.size + T.size + 6 + Z0.size + 3 + L1.size + T.size + 1 + 1 := by omega
        have HST := Lib.hid hst
        have HZ0 := Lib.hid hZ0
        have HL1 := Lib.hid hL1
        clear hst hlen sT sP hZ0 sZ0 hL1 sL1 hc
        go_wp2_with (first | ((with_reducible refine gate_dst (N := 7) rfl ?_); refine var_event (W1 := ?w1_7_6) (N := 7) (cs := #[.int .i64 (rdStmt xs i).does, .int .i64 (rdStmt xs i).pos.line, .int .i64 (rdStmt xs i).pos.col, .string (rdStmt xs i).name, .slice B4 (rdStmt xs i).es.length b4, .slice B5 (rdStmt xs i).thens.length b5, .slice B6 (rdStmt xs i).elses.length b6]) (t := 38) ?hg ?hd ?hg2 ?hd2 ?hr ?hr2 ?_; (case hd => rfl); (case hg => rfl); (case hd2 => rfl); (case hg2 => rfl); (case hr => first | (go_simp; done) | (go_simp; rfl)); (case hr2 => first | (go_simp; done) | (go_simp; rfl)); intro g7 hgE_ W1 hbox_ hb_; have GEg7 := Aside0.mk (show w.heap.size ≤ g7 from Nat.le_trans HB.out.size (hgE_)); replace HB := Aside0.mk (below_step HB.out hb_); replace HES := Aside0.mk (Kd.C_below HES.out hb_); replace HTH := Aside0.mk (Kd.C_below HTH.out hb_); replace HEL := Aside0.mk (Kd.C_below HEL.out hb_); have BKg7 := Aside0.mk hbox_; have cg7_0 : W1.cell? ⟨g7, 0, none⟩ = some (.int .i64 (rdStmt xs i).does) := (blk_cell BKg7.out 0).trans rfl; have cg7_1 : W1.cell? ⟨g7, 1, none⟩ = some (.int .i64 (rdStmt xs i).pos.line) := (blk_cell BKg7.out 1).trans rfl; have cg7_2 : W1.cell? ⟨g7, 2, none⟩ = some (.int .i64 (rdStmt xs i).pos.col) := (blk_cell BKg7.out 2).trans rfl; have cg7_3 : W1.cell? ⟨g7, 3, none⟩ = some (.string (rdStmt xs i).name) := (blk_cell BKg7.out 3).trans rfl; have cg7_4 : W1.cell? ⟨g7, 4, none⟩ = some (.slice B4 (rdStmt xs i).es.length b4) := (blk_cell BKg7.out 4).trans rfl; have cg7_5 : W1.cell? ⟨g7, 5, none⟩ = some (.slice B5 (rdStmt xs i).thens.length b5) := (blk_cell BKg7.out 5).trans rfl; have cg7_6 : W1.cell? ⟨g7, 6, none⟩ = some (.slice B6 (rdStmt xs i).elses.length b6) := (blk_cell BKg7.out 6).trans rfl; clear hb_ hbox_ hgE_))
        have hgW := Aside0.mk (hg.below hg.size HB.out)
        refine start_ (n := 16) (S := fun w' => w'.cell? ⟨g7, 0, none⟩ = some (.int .i64 (rdStmt xs i).does) ∧ w'.cell? ⟨g7, 1, none⟩ = some (.int .i64 (rdStmt xs i).pos.line) ∧ w'.cell? ⟨g7, 2, none⟩ = some (.int .i64 (rdStmt xs i).pos.col) ∧ w'.cell? ⟨g7, 3, none⟩ = some (.string (rdStmt xs i).name) ∧ w'.cell? ⟨g7, 4, none⟩ = some (.slice B4 (rdStmt xs i).es.length b4) ∧ w'.cell? ⟨g7, 5, none⟩ = some (.slice B5 (rdStmt xs i).thens.length b5) ∧ w'.cell? ⟨g7, 6, none⟩ = some (.slice B6 (rdStmt xs i).elses.length b6)) (ds := []) #[false, false, false, false, false, false, false, false, false, false, false, false, false, false, false, false] (by kernel_rfl) rfl rfl ⟨cg7_0, cg7_1, cg7_2, cg7_3, cg7_4, cg7_5, cg7_6⟩ (fun hHeld => ?_)
        refine pure_ (i := 0) (N := some 98) (v := ?_) (a' := ?_) #[true, false, false, false, false, false, false, false, false, false, false, false, false, false, false, false] rfl rfl (by kernel_rfl) (fun _ _ _ h => h) (Or.inl ⟨by rfl, ?_⟩) ?_ ?_
        rotate_left
        · intro w'
          go_simp
          with_reducible rfl
        rotate_left
        · simp only [Act.put, List.setIfInBounds_toArray, List.set_cons_zero, List.set_cons_succ, i64_w, i32_w]
          rfl
        refine pure_ (i := 1) (N := some 99) (v := ?_) (a' := ?_) #[true, true, false, false, false, false, false, false, false, false, false, false, false, false, false, false] rfl rfl (by kernel_rfl) (fun _ _ _ h => h) (Or.inl ⟨by rfl, ?_⟩) ?_ ?_
        rotate_left
        · intro w'
          go_simp
          with_reducible rfl
        rotate_left
        · simp only [Act.put, List.setIfInBounds_toArray, List.set_cons_zero, List.set_cons_succ, i64_w, i32_w]
          rfl
        refine pure_ (i := 2) (N := some 100) (v := ?_) (a' := ?_) #[true, true, true, false, false, false, false, false, false, false, false, false, false, false, false, false] rfl rfl (by kernel_rfl) (fun _ _ _ h => h) (Or.inl ⟨by rfl, ?_⟩) ?_ ?_
        rotate_left
        · intro w'
          go_simp
          with_reducible rfl
        rotate_left
        · simp only [Act.put, List.setIfInBounds_toArray, List.set_cons_zero, List.set_cons_succ, i64_w, i32_w]
          rfl
        refine pure_ (i := 6) (N := some 104) (v := ?_) (a' := ?_) #[true, true, true, false, false, false, true, false, false, false, false, false, false, false, false, false] rfl rfl (by kernel_rfl) (fun _ _ _ h => h) (Or.inl ⟨by rfl, ?_⟩) ?_ ?_
        rotate_left
        · intro w'
          go_simp
          with_reducible rfl
        rotate_left
        · simp only [Act.put, List.setIfInBounds_toArray, List.set_cons_zero, List.set_cons_succ, i64_w, i32_w]
          rfl
        refine pure_ (i := 8) (N := some 106) (v := ?_) (a' := ?_) #[true, true, true, false, false, false, true, false, true, false, false, false, false, false, false, false] rfl rfl (by kernel_rfl) (fun _ _ _ h => h) (Or.inl ⟨by rfl, ?_⟩) ?_ ?_
        rotate_left
        · intro w'
          go_simp
          with_reducible rfl
        rotate_left
        · simp only [Act.put, List.setIfInBounds_toArray, List.set_cons_zero, List.set_cons_succ, i64_w, i32_w]
          rfl
        refine pure_ (i := 9) (N := some 107) (v := ?_) (a' := ?_) #[true, true, true, false, false, false, true, false, true, true, false, false, false, false, false, false] rfl rfl (by kernel_rfl) (fun _ _ _ h => h) (Or.inl ⟨by rfl, ?_⟩) ?_ ?_
        rotate_left
        · intro w'
          go_simp
          with_reducible rfl
        rotate_left
        · simp only [Act.put, List.setIfInBounds_toArray, List.set_cons_zero, List.set_cons_succ, i64_w, i32_w]
          rfl
        refine pure_ (i := 12) (N := some 110) (v := ?_) (a' := ?_) #[true, true, true, false, false, false, true, false, true, true, false, false, true, false, false, false] rfl rfl (by kernel_rfl) (fun _ _ _ h => h) (Or.inl ⟨by rfl, ?_⟩) ?_ ?_
        rotate_left
        · intro w'
          go_simp
          with_reducible rfl
        rotate_left
        · simp only [Act.put, List.setIfInBounds_toArray, List.set_cons_zero, List.set_cons_succ, i64_w, i32_w]
          rfl
        refine take_ (i := 7) (N := some 105) (v := ?_) (a' := ?_) #[true, true, true, false, false, false, true, true, true, true, false, false, true, false, false, false] rfl rfl (by kernel_rfl) (fun _ _ _ h => h) (Or.inl ⟨by rfl, ?_⟩) hHeld ?_ ?_
        rotate_left
        · rintro w' ⟨s0, s1, s2, s3, s4, s5, s6⟩
          go_simp
          with_reducible rfl
        rotate_left
        · simp only [Act.put, List.setIfInBounds_toArray, List.set_cons_zero, List.set_cons_succ, i64_w, i32_w]
          rfl
        refine one_ (i := 3) (N := some 101) #[true, true, true, true, false, false, true, true, true, true, false, false, true, false, false, false] rfl rfl (by kernel_rfl) (by decide) (fun K hK => ?_)
        refine goesF_ Tryd.func35 (by kernel_rfl) rfl #[.int .i64 0, .pointer (some ⟨g7, 0, none⟩)] (by rfl) rfl rfl rfl (by simp only [List.map_toArray, List.map_cons, List.map_nil]; rfl) ?_
        with_reducible refine (clo_calls (rdStmt xs i) 0 g7 B4 b4 _ (hHeld.2.2.2.2.1) (Kd.C_below HES.out (below_drew1 (Below.refl _ _))) (hgW.out.below (Glob.size hgW.out) (below_drew1 (Below.refl _ _))) (by decide) HFE.out).mono ?_
        rintro e w3 ⟨rfl, hb3⟩
        refine ⟨_, rfl, ?_⟩
        rw [← HZ0.out]
        have hc1 := Lib.hid hb3
        refine hK.out _ _ ⟨below_cell hb3 (Nat.le_refl _) (hHeld.1), below_cell hb3 (Nat.le_refl _) (hHeld.2.1), below_cell hb3 (Nat.le_refl _) (hHeld.2.2.1), below_cell hb3 (Nat.le_refl _) (hHeld.2.2.2.1), below_cell hb3 (Nat.le_refl _) (hHeld.2.2.2.2.1), below_cell hb3 (Nat.le_refl _) (hHeld.2.2.2.2.2.1), below_cell hb3 (Nat.le_refl _) (hHeld.2.2.2.2.2.2)⟩ (fun hHeld => ?_)
        clear hK K
        refine norm_ (a' := ?_) ?_ ?_
        rotate_left
        · show Act.put _ (some 101) _ = _
          simp only [Act.put, List.setIfInBounds_toArray, List.set_cons_zero, List.set_cons_succ, i64_w, i32_w]
          rfl
        refine pure_ (i := 4) (N := some 102) (v := ?_) (a' := ?_) #[true, true, true, true, true, false, true, true, true, true, false, false, true, false, false, false] rfl rfl (by kernel_rfl) (fun _ _ _ h => h) (Or.inl ⟨by rfl, ?_⟩) ?_ ?_
        rotate_left
        · intro w'
          go_simp
          with_reducible rfl
        rotate_left
        · simp only [Act.put, List.setIfInBounds_toArray, List.set_cons_zero, List.set_cons_succ, i64_w, i32_w]
          rfl
        refine pure_ (i := 5) (N := some 103) (v := ?_) (a' := ?_) #[true, true, true, true, true, true, true, true, true, true, false, false, true, false, false, false] rfl rfl (by kernel_rfl) (fun _ _ _ h => h) (Or.inl ⟨by rfl, ?_⟩) ?_ ?_
        rotate_left
        · intro w'
          go_simp
          with_reducible rfl
        rotate_left
        · simp only [Act.put, List.setIfInBounds_toArray, List.set_cons_zero, List.set_cons_succ, i64_w, i32_w]
          rfl
        refine one_ (i := 10) (N := some 108) #[true, true, true, true, true, true, true, true, true, true, true, false, true, false, false, false] rfl rfl (by kernel_rfl) (by decide) (fun K hK => ?_)
        refine goes_ Tryd.func20 (by kernel_rfl) rfl #[.slice B5 (rdStmt xs i).thens.length b5, .string (T ++ ⟨#[9]⟩)] (by rfl) rfl rfl (by simp only [List.map_toArray, List.map_cons, List.map_nil]; rfl) ?_
        with_reducible refine (ihT _ _ _ _ (Kd.C_below HTH.out (below_step (below_drew1 (Below.refl _ _)) hc1.out)) (hgW.out.below (Glob.size hgW.out) (below_step (below_drew1 (Below.refl _ _)) hc1.out))).mono ?_
        rintro e w3 ⟨rfl, hb3⟩
        refine ⟨_, rfl, ?_⟩
        rw [← HL1.out]
        have hc2 := Lib.hid hb3
        refine hK.out _ _ ⟨below_cell hb3 (Nat.le_refl _) (hHeld.1), below_cell hb3 (Nat.le_refl _) (hHeld.2.1), below_cell hb3 (Nat.le_refl _) (hHeld.2.2.1), below_cell hb3 (Nat.le_refl _) (hHeld.2.2.2.1), below_cell hb3 (Nat.le_refl _) (hHeld.2.2.2.2.1), below_cell hb3 (Nat.le_refl _) (hHeld.2.2.2.2.2.1), below_cell hb3 (Nat.le_refl _) (hHeld.2.2.2.2.2.2)⟩ (fun hHeld => ?_)
        clear hK K
        refine norm_ (a' := ?_) ?_ ?_
        rotate_left
        · show Act.put _ (some 108) _ = _
          simp only [Act.put, List.setIfInBounds_toArray, List.set_cons_zero, List.set_cons_succ, i64_w, i32_w]
          rfl
        refine pure_ (i := 11) (N := some 109) (v := ?_) (a' := ?_) #[true, true, true, true, true, true, true, true, true, true, true, true, true, false, false, false] rfl rfl (by kernel_rfl) (fun _ _ _ h => h) (Or.inl ⟨by rfl, ?_⟩) ?_ ?_
        rotate_left
        · intro w'
          go_simp
          with_reducible rfl
        rotate_left
        · simp only [Act.put, List.setIfInBounds_toArray, List.set_cons_zero, List.set_cons_succ, i64_w, i32_w]
          rfl
        refine pure_ (i := 13) (N := some 111) (v := ?_) (a' := ?_) #[true, true, true, true, true, true, true, true, true, true, true, true, true, true, false, false] rfl rfl (by kernel_rfl) (fun _ _ _ h => h) (Or.inl ⟨by rfl, ?_⟩) ?_ ?_
        rotate_left
        · intro w'
          go_simp
          with_reducible rfl
        rotate_left
        · simp only [Act.put, List.setIfInBounds_toArray, List.set_cons_zero, List.set_cons_succ, i64_w, i32_w]
          rfl
        refine pure_ (i := 14) (N := some 112) (v := ?_) (a' := ?_) #[true, true, true, true, true, true, true, true, true, true, true, true, true, true, true, false] rfl rfl (by kernel_rfl) (fun _ _ _ h => h) (Or.inl ⟨by rfl, ?_⟩) ?_ ?_
        rotate_left
        · intro w'
          go_simp
          with_reducible rfl
        rotate_left
        · simp only [Act.put, List.setIfInBounds_toArray, List.set_cons_zero, List.set_cons_succ, i64_w, i32_w]
          rfl
        refine pure_ (i := 15) (N := some 5) (v := ?_) (a' := ?_) #[true, true, true, true, true, true, true, true, true, true, true, true, true, true, true, true] rfl rfl (by kernel_rfl) (fun _ _ _ h => h) (Or.inl ⟨by rfl, ?_⟩) ?_ ?_
        rotate_left
        · intro w'
          go_simp
          with_reducible rfl
        rotate_left
        · simp only [Act.put, List.setIfInBounds_toArray, List.set_cons_zero, List.set_cons_succ, i64_w, i32_w]
          rfl
        refine done_ (by kernel_rfl) ?_
        have hb4 := below_undrew (below_step hc1.out hc2.out)
        replace HB := Aside0.mk (below_step HB.out hb4)
        replace HEL := Aside0.mk (Kd.C_below HEL.out hb4)
        clear cg7_0 cg7_1 cg7_2 cg7_3 cg7_4 cg7_5 cg7_6
        obtain ⟨cg7_0, cg7_1, cg7_2, cg7_3, cg7_4, cg7_5, cg7_6⟩ := hHeld
        go_wp2
        go_roundg k1_
        case measure => omega
        case rel =>
          refine ⟨i + 1, rfl, by omega, by omega, ?_, HB⟩
          rw [HTK.out, HST.out]
          simp only [HP.out, HT.out, HZ0.out, HL1.out, lit_bs, bs_add, List.append_assoc]
      have hc5 := hc
      clear hc
      by_cases hc : (rdStmt xs i).does = 6
      · skip
        have k1 : ((rdStmt xs i).does == 1) = false := by rw [hc]; rfl
        have k2 : ((rdStmt xs i).does == 2) = false := by rw [hc]; rfl
        have k3 : ((rdStmt xs i).does == 3) = false := by rw [hc]; rfl
        have k4 : ((rdStmt xs i).does == 4) = false := by rw [hc]; rfl
        have k5 : ((rdStmt xs i).does == 5) = false := by rw [hc]; rfl
        have k6 : ((rdStmt xs i).does == 6) = true := by rw [hc]; rfl
        clear hc1 hc2 hc3 hc4 hc5
        have hst : stext (rdStmt xs i) d = tabs d ++ [114, 101, 116, 117, 114, 110, 32] ++ atL (rdStmt xs i).es 0 ++ [59] ++ [10] := by
          rw [stext_eq, if_neg (by rw [hc]; decide), if_neg (by rw [hc]; decide), if_neg (by rw [hc]; decide), if_neg (by rw [hc]; decide), if_neg (by rw [hc]; decide), if_pos hc]
          try simp only [List.append_assoc, List.cons_append, List.nil_append]
        rw [hst] at hlen
        simp only [List.length_append, List.length_cons, List.length_nil, size_toList] at hlen
        have hzT : ¬ 9223372036854775807 < T.size + 1 := by omega
        obtain ⟨Z0, hZ0⟩ : ∃ T, T = bs (atL (rdStmt xs i).es 0) := ⟨_, rfl⟩
        have sZ0 : Z0.size = (atL (rdStmt xs i).es 0).length := by rw [hZ0, bs_size]
        have hz1 : ¬ 9223372036854775807 < P.size + T.size := by omega
        have hz2 : ¬ 9223372036854775807 < P.size + T.size + 7 := by omega
        have hz3 : ¬ 9223372036854775807 < P.size + T.size + 7 + Z0.size := by omega
        have hz4 : ¬ 9223372036854775807 < P.size + T.size + 7 + Z0.size + 1 := by omega
        have hz5 : ¬ 9223372036854775807 < P.size + T.size + 7 + Z0.size + 1 + 1 := by omega
        have HST := Lib.hid hst
        have HZ0 := Lib.hid hZ0
        clear hst hlen sT sP hZ0 sZ0 hc
        go_wp2_with (first | ((with_reducible refine gate_dst (N := 7) rfl ?_); refine var_event (W1 := ?w1_7_7) (N := 7) (cs := #[.int .i64 (rdStmt xs i).does, .int .i64 (rdStmt xs i).pos.line, .int .i64 (rdStmt xs i).pos.col, .string (rdStmt xs i).name, .slice B4 (rdStmt xs i).es.length b4, .slice B5 (rdStmt xs i).thens.length b5, .slice B6 (rdStmt xs i).elses.length b6]) (t := 38) ?hg ?hd ?hg2 ?hd2 ?hr ?hr2 ?_; (case hd => rfl); (case hg => rfl); (case hd2 => rfl); (case hg2 => rfl); (case hr => first | (go_simp; done) | (go_simp; rfl)); (case hr2 => first | (go_simp; done) | (go_simp; rfl)); intro g7 hgE_ W1 hbox_ hb_; have GEg7 := Aside0.mk (show w.heap.size ≤ g7 from Nat.le_trans HB.out.size (hgE_)); replace HB := Aside0.mk (below_step HB.out hb_); replace HES := Aside0.mk (Kd.C_below HES.out hb_); replace HTH := Aside0.mk (Kd.C_below HTH.out hb_); replace HEL := Aside0.mk (Kd.C_below HEL.out hb_); have BKg7 := Aside0.mk hbox_; have cg7_0 : W1.cell? ⟨g7, 0, none⟩ = some (.int .i64 (rdStmt xs i).does) := (blk_cell BKg7.out 0).trans rfl; have cg7_1 : W1.cell? ⟨g7, 1, none⟩ = some (.int .i64 (rdStmt xs i).pos.line) := (blk_cell BKg7.out 1).trans rfl; have cg7_2 : W1.cell? ⟨g7, 2, none⟩ = some (.int .i64 (rdStmt xs i).pos.col) := (blk_cell BKg7.out 2).trans rfl; have cg7_3 : W1.cell? ⟨g7, 3, none⟩ = some (.string (rdStmt xs i).name) := (blk_cell BKg7.out 3).trans rfl; have cg7_4 : W1.cell? ⟨g7, 4, none⟩ = some (.slice B4 (rdStmt xs i).es.length b4) := (blk_cell BKg7.out 4).trans rfl; have cg7_5 : W1.cell? ⟨g7, 5, none⟩ = some (.slice B5 (rdStmt xs i).thens.length b5) := (blk_cell BKg7.out 5).trans rfl; have cg7_6 : W1.cell? ⟨g7, 6, none⟩ = some (.slice B6 (rdStmt xs i).elses.length b6) := (blk_cell BKg7.out 6).trans rfl; clear hb_ hbox_ hgE_) | (go_at_call 35; (with_reducible refine (clo_calls (rdStmt xs i) 0 g7 B4 b4 _ cg7_4 HES.out (hg.below hg.size HB.out) (by decide) HFE.out).mono ?_); rintro e w3 ⟨rfl, hb_⟩; rw [← HZ0.out]; replace HB := Aside0.mk (below_step HB.out hb_); clear hb_))
        go_roundg k1_
        case measure => omega
        case rel =>
          refine ⟨i + 1, rfl, by omega, by omega, ?_, HB⟩
          rw [HTK.out, HST.out]
          simp only [HP.out, HT.out, HZ0.out, lit_bs, bs_add, List.append_assoc]
      have hc6 := hc
      clear hc
      have k1 : ((rdStmt xs i).does == 1) = false := beq_eq_false_iff_ne.2 hc1
      have k2 : ((rdStmt xs i).does == 2) = false := beq_eq_false_iff_ne.2 hc2
      have k3 : ((rdStmt xs i).does == 3) = false := beq_eq_false_iff_ne.2 hc3
      have k4 : ((rdStmt xs i).does == 4) = false := beq_eq_false_iff_ne.2 hc4
      have k5 : ((rdStmt xs i).does == 5) = false := beq_eq_false_iff_ne.2 hc5
      have k6 : ((rdStmt xs i).does == 6) = false := beq_eq_false_iff_ne.2 hc6
      have hst : stext (rdStmt xs i) d = tabs d ++ atL (rdStmt xs i).es 0 ++ [59] ++ [10] := by
        rw [stext_eq, if_neg hc1, if_neg hc2, if_neg hc3, if_neg hc4, if_neg hc5, if_neg hc6]
        try simp only [List.append_assoc, List.cons_append, List.nil_append]
      rw [hst] at hlen
      simp only [List.length_append, List.length_cons, List.length_nil, size_toList] at hlen
      have hzT : ¬ 9223372036854775807 < T.size + 1 := by omega
      obtain ⟨Z0, hZ0⟩ : ∃ T, T = bs (atL (rdStmt xs i).es 0) := ⟨_, rfl⟩
      have sZ0 : Z0.size = (atL (rdStmt xs i).es 0).length := by rw [hZ0, bs_size]
      have hz1 : ¬ 9223372036854775807 < P.size + T.size := by omega
      have hz2 : ¬ 9223372036854775807 < P.size + T.size + Z0.size := by omega
      have hz3 : ¬ 9223372036854775807 < P.size + T.size + Z0.size + 1 := by omega
      have hz4 : ¬ 9223372036854775807 < P.size + T.size + Z0.size + 1 + 1 := by omega
      have HST := Lib.hid hst
      have HZ0 := Lib.hid hZ0
      clear hst hlen sT sP hZ0 sZ0 hc1 hc2 hc3 hc4 hc5 hc6
      go_wp2_with (first | ((with_reducible refine gate_dst (N := 7) rfl ?_); refine var_event (W1 := ?w1_7_8) (N := 7) (cs := #[.int .i64 (rdStmt xs i).does, .int .i64 (rdStmt xs i).pos.line, .int .i64 (rdStmt xs i).pos.col, .string (rdStmt xs i).name, .slice B4 (rdStmt xs i).es.length b4, .slice B5 (rdStmt xs i).thens.length b5, .slice B6 (rdStmt xs i).elses.length b6]) (t := 38) ?hg ?hd ?hg2 ?hd2 ?hr ?hr2 ?_; (case hd => rfl); (case hg => rfl); (case hd2 => rfl); (case hg2 => rfl); (case hr => first | (go_simp; done) | (go_simp; rfl)); (case hr2 => first | (go_simp; done) | (go_simp; rfl)); intro g7 hgE_ W1 hbox_ hb_; have GEg7 := Aside0.mk (show w.heap.size ≤ g7 from Nat.le_trans HB.out.size (hgE_)); replace HB := Aside0.mk (below_step HB.out hb_); replace HES := Aside0.mk (Kd.C_below HES.out hb_); replace HTH := Aside0.mk (Kd.C_below HTH.out hb_); replace HEL := Aside0.mk (Kd.C_below HEL.out hb_); have BKg7 := Aside0.mk hbox_; have cg7_0 : W1.cell? ⟨g7, 0, none⟩ = some (.int .i64 (rdStmt xs i).does) := (blk_cell BKg7.out 0).trans rfl; have cg7_1 : W1.cell? ⟨g7, 1, none⟩ = some (.int .i64 (rdStmt xs i).pos.line) := (blk_cell BKg7.out 1).trans rfl; have cg7_2 : W1.cell? ⟨g7, 2, none⟩ = some (.int .i64 (rdStmt xs i).pos.col) := (blk_cell BKg7.out 2).trans rfl; have cg7_3 : W1.cell? ⟨g7, 3, none⟩ = some (.string (rdStmt xs i).name) := (blk_cell BKg7.out 3).trans rfl; have cg7_4 : W1.cell? ⟨g7, 4, none⟩ = some (.slice B4 (rdStmt xs i).es.length b4) := (blk_cell BKg7.out 4).trans rfl; have cg7_5 : W1.cell? ⟨g7, 5, none⟩ = some (.slice B5 (rdStmt xs i).thens.length b5) := (blk_cell BKg7.out 5).trans rfl; have cg7_6 : W1.cell? ⟨g7, 6, none⟩ = some (.slice B6 (rdStmt xs i).elses.length b6) := (blk_cell BKg7.out 6).trans rfl; clear hb_ hbox_ hgE_) | (go_at_call 35; (with_reducible refine (clo_calls (rdStmt xs i) 0 g7 B4 b4 _ cg7_4 HES.out (hg.below hg.size HB.out) (by decide) HFE.out).mono ?_); rintro e w3 ⟨rfl, hb_⟩; rw [← HZ0.out]; replace HB := Aside0.mk (below_step HB.out hb_); clear hb_))
      go_roundg k1_
      case measure => omega
      case rel =>
        refine ⟨i + 1, rfl, by omega, by omega, ?_, HB⟩
        rw [HTK.out, HST.out]
        simp only [HP.out, HT.out, HZ0.out, lit_bs, bs_add, List.append_assoc]

/-- WHAT stmts COMPUTES. -/
theorem stm_all (m : Nat) : ∀ (xs : List Stmt), SizeOf.sizeOf xs ≤ m → ∀ (d : Nat) (A : Option Addr) (n c : Nat) (w : World), kStmt.C w A n xs → Glob w → SFits xs d → (slines xs d).length ≤ 140737488355328 → Calls Tryd.prog 20 #[.slice A n c, .string (bs (tabs (d)))] w fun e w' => e = .returned (.string (bs (slines xs (d)))) ∧ Below w.heap.size w w' := by
  induction m with
  | zero =>
    intro xs hx
    cases xs <;> simp at hx
  | succ m ih =>
    intro xs hx d A n c w hC hg hf hl
    refine stm_step xs d A n c w hC hg hl (fun s hs => hf.mem s hs) fun s hs => ?_
    obtain ⟨f1, f2, f3, f4, f5⟩ := (hf.mem s hs).open
    have hz := List.sizeOf_lt_of_mem hs
    exact ⟨fun hh A n c w hC hg => ih s.thens (by have := thens_size s; omega) (d + 1) A n c w hC hg f4 hh, fun hh A n c w hC hg => ih s.elses (by have := elses_size s; omega) (d + 1) A n c w hC hg f5 hh⟩
end Go.Proofs.YtpbeplepcbhamaaDoor
