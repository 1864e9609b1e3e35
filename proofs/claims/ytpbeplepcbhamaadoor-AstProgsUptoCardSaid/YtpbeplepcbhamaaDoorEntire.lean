/- AstProgs: what it computes. -/
import Derived.Test.YtpbeplepcbhamaaDoorFewP
import Derived.Test.YtpbeplepcbhamaaDoorStm
import Derived.Test.YtpbeplepcbhamaaDoorSigns
namespace Go.Proofs.YtpbeplepcbhamaaDoor
open Go.RowKit Go.Proofs.YtpbeplepcbhamaaDoorW.PrintWords Go.Proofs.YtpbeplepcbhamaaDoorW.PrintLast Go.Proofs.YtpbeplepcbhamaaDoorW.PrintMore
set_option linter.unusedVariables false
set_option linter.unusedSimpArgs false

set_option maxRecDepth 100000 in
set_option maxHeartbeats 6400000 in
theorem progs_few (x : Prog) (cs : List Value) (w : World) (hx : kProg.K w x cs) (hg : Glob w) (hf : fewP x = false) : Calls Tryd.prog 6 #[.agg cs.toArray] w fun e w' => e = .returned (.bool true) ∧ Below w.heap.size w w' := by
  have KX := Aside0.mk hx
  obtain ⟨A0, a0, A1, a1, rfl, el0, eg0, el1, eg1⟩ := kProg_open hx
  have HFP := Lib.hid hf
  clear hx el0 eg0 el1 eg1 hf
  go_enter Tryd.func6, Tryd.ntmps6
  go_wp2_with (first | ((with_reducible refine gate_dst (N := 1) rfl ?_); refine box_event ?hg (N := 1) ?hd (cs := #[.slice A0 x.globals.length a0, .slice A1 x.funcs.length a1]) (t := 45) ?hr ?_; (case hd => rfl); (case hg => rfl); (case hr => first | (go_simp; done) | (go_simp; rfl)); intro g1 hgE_ W1 hbox_ hb_; have GEg1 := Aside0.mk (show w.heap.size ≤ g1 from Nat.le_of_eq hgE_.symm); have HB := Aside0.mk hb_; have BKg1 := Aside0.mk hbox_; have cg1_0 : W1.cell? ⟨g1, 0, none⟩ = some (.slice A0 x.globals.length a0) := (blk_cell BKg1.out 0).trans rfl; have cg1_1 : W1.cell? ⟨g1, 1, none⟩ = some (.slice A1 x.funcs.length a1) := (blk_cell BKg1.out 1).trans rfl; clear hb_ hbox_ hgE_; replace KX := Aside0.mk (kProg.K_below HB.out KX.out)) | (go_at_call 7; (with_reducible refine (head_calls _ (hg.below hg.size HB.out)).mono ?_); rintro e W2 ⟨rfl, hb_⟩; replace HB := Aside0.mk (below_step HB.out hb_); replace BKg1 := Aside0.mk (blk_below BKg1.out hb_); replace cg1_0 : W2.cell? ⟨g1, 0, none⟩ = some (.slice A0 x.globals.length a0) := (blk_cell BKg1.out 0).trans rfl; replace cg1_1 : W2.cell? ⟨g1, 1, none⟩ = some (.slice A1 x.funcs.length a1) := (blk_cell BKg1.out 1).trans rfl; replace KX := Aside0.mk (kProg.K_below hb_ KX.out); clear hb_ ) | (go_at_call 18; (with_reducible refine (fewp_calls x _ _ KX.out).mono ?_); rintro e W3 ⟨rfl, hb_⟩; rw [HFP.out]; replace HB := Aside0.mk (below_step HB.out hb_); replace BKg1 := Aside0.mk (blk_below BKg1.out hb_); replace cg1_0 : W3.cell? ⟨g1, 0, none⟩ = some (.slice A0 x.globals.length a0) := (blk_cell BKg1.out 0).trans rfl; replace cg1_1 : W3.cell? ⟨g1, 1, none⟩ = some (.slice A1 x.funcs.length a1) := (blk_cell BKg1.out 1).trans rfl; replace KX := Aside0.mk (kProg.K_below hb_ KX.out); clear hb_ ))
  go_ret
  exact ⟨rfl, HB.out⟩

set_option maxRecDepth 100000 in
set_option maxHeartbeats 12800000 in
theorem progs_walk (x : Prog) (cs : List Value) (w : World) (hx : kProg.K w x cs) (hg : Glob w) (hf : fewP x = true) (hfit : PrFit x) : Calls Tryd.prog 6 #[.agg cs.toArray] w fun e w' => e = .returned (.bool true) ∧ Below w.heap.size w w' := by
  have KX := Aside0.mk hx
  obtain ⟨A0, a0, A1, a1, rfl, el0, eg0, el1, eg1⟩ := kProg_open hx
  have HFP := Lib.hid hf
  have HG := Aside0.mk eg0
  have HFN := Aside0.mk eg1
  have hm0 := eg0.2.1
  have hm1 := eg1.2.1
  have HF := Aside0.mk hfit
  clear hx el0 eg0 el1 eg1 hf hfit
  go_enter Tryd.func6, Tryd.ntmps6
  go_wp2_with (first | ((with_reducible refine gate_dst (N := 1) rfl ?_); refine box_event ?hg (N := 1) ?hd (cs := #[.slice A0 x.globals.length a0, .slice A1 x.funcs.length a1]) (t := 45) ?hr ?_; (case hd => rfl); (case hg => rfl); (case hr => first | (go_simp; done) | (go_simp; rfl)); intro g1 hgE_ W1 hbox_ hb_; have GEg1 := Aside0.mk (show w.heap.size ≤ g1 from Nat.le_of_eq hgE_.symm); have HB := Aside0.mk hb_; have BKg1 := Aside0.mk hbox_; have cg1_0 : W1.cell? ⟨g1, 0, none⟩ = some (.slice A0 x.globals.length a0) := (blk_cell BKg1.out 0).trans rfl; have cg1_1 : W1.cell? ⟨g1, 1, none⟩ = some (.slice A1 x.funcs.length a1) := (blk_cell BKg1.out 1).trans rfl; clear hb_ hbox_ hgE_; replace KX := Aside0.mk (kProg.K_below HB.out KX.out)) | (go_at_call 7; (with_reducible refine (head_calls _ (hg.below hg.size HB.out)).mono ?_); rintro e W2 ⟨rfl, hb_⟩; replace HB := Aside0.mk (below_step HB.out hb_); replace BKg1 := Aside0.mk (blk_below BKg1.out hb_); replace cg1_0 : W2.cell? ⟨g1, 0, none⟩ = some (.slice A0 x.globals.length a0) := (blk_cell BKg1.out 0).trans rfl; replace cg1_1 : W2.cell? ⟨g1, 1, none⟩ = some (.slice A1 x.funcs.length a1) := (blk_cell BKg1.out 1).trans rfl; replace KX := Aside0.mk (kProg.K_below hb_ KX.out); clear hb_ ) | (go_at_call 18; (with_reducible refine (fewp_calls x _ _ KX.out).mono ?_); rintro e W3 ⟨rfl, hb_⟩; rw [HFP.out]; replace HB := Aside0.mk (below_step HB.out hb_); replace BKg1 := Aside0.mk (blk_below BKg1.out hb_); replace cg1_0 : W3.cell? ⟨g1, 0, none⟩ = some (.slice A0 x.globals.length a0) := (blk_cell BKg1.out 0).trans rfl; replace cg1_1 : W3.cell? ⟨g1, 1, none⟩ = some (.slice A1 x.funcs.length a1) := (blk_cell BKg1.out 1).trans rfl; replace KX := Aside0.mk (kProg.K_below hb_ KX.out); clear hb_ ))
  replace HG := Aside0.mk (Kd.C_below HG.out HB.out)
  replace HFN := Aside0.mk (Kd.C_below HFN.out HB.out)
  clear cg1_0 cg1_1
  go_loopg [3, 18] x.globals.length (fun kq v3 v18 w' => ∃ i : Int, v18 = .int .i64 i ∧ 0 ≤ i ∧ kq + i.toNat = x.globals.length ∧ v3 = .string (bs (((x.globals.take i.toNat).map gtext).flatten)) ∧ Aside0 (Below W3.heap.size W3 w'))
  case atStart => exact ⟨0, rfl, by omega, by simp, by simp [bs], ⟨Below.refl _ _⟩⟩
  case round =>
    obtain ⟨i, rfl, hi0, hk, rfl, HBL⟩ := hrel
    cases gk with
    | zero =>
      have hge : decide (i < (x.globals.length : Int)) = false := by simp; omega
      rw [List.take_of_length_le (by omega)]
      have cg1_1 := (blk_cell (blk_below BKg1.out HBL.out) 1).trans rfl
      replace BKg1 := Aside0.mk (blk_below BKg1.out HBL.out)
      replace HFN := Aside0.mk (Kd.C_below HFN.out HBL.out)
      replace KX := Aside0.mk (kProg.K_below HBL.out KX.out)
      replace HB := Aside0.mk (below_step HB.out HBL.out)
      clear HBL HG
      go_wp2_with fail
      go_loopg [3, 56] x.funcs.length (fun kq v3 v56 w' => ∃ i : Int, v56 = .int .i64 i ∧ 0 ≤ i ∧ kq + i.toNat = x.funcs.length ∧ v3 = .string (bs ((x.globals.map gtext).flatten ++ ((x.funcs.take i.toNat).map ftext).flatten)) ∧ Aside0 (Below wr.heap.size wr w'))
      case atStart => exact ⟨0, rfl, by omega, by simp, by simp, ⟨Below.refl _ _⟩⟩
      case round =>
        clear cg1_1
        obtain ⟨i, rfl, hi0, hk, rfl, HBL⟩ := hrel
        cases gk with
        | zero =>
          have hge : decide (i < (x.funcs.length : Int)) = false := by simp; omega
          rw [List.take_of_length_le (by omega)]
          obtain ⟨Q, hQ⟩ : ∃ P, P = bs (ptext x) := ⟨_, rfl⟩
          rw [show (x.globals.map gtext).flatten ++ (x.funcs.map ftext).flatten = ptext x from rfl, ← hQ]
          have HQ := Lib.hid hQ
          have heq : (Q.toList == Q.toList) = true := beq_self_eq_true Q.toList
          clear hQ
          have cg1_0 := (blk_cell (blk_below BKg1.out HBL.out) 0).trans rfl
          have cg1_1 := (blk_cell (blk_below BKg1.out HBL.out) 1).trans rfl
          go_wp2_with (first | (go_at_call 21; (with_reducible refine (ptext_calls x _ _ (kProg.K_below HBL.out KX.out) (hg.below hg.size (below_step HB.out HBL.out)) HF.out).mono ?_); rintro e w8 ⟨rfl, hb_⟩; rw [← HQ.out]; replace HBL := Aside0.mk (below_step HBL.out hb_); clear hb_))
          go_ret
          exact ⟨rfl, below_step HB.out HBL.out⟩
        | succ k2_ =>
          have hi1 : i < (x.funcs.length : Int) := by omega
          obtain ⟨ad, B1, b1, B2, b2, ea, e0, e1, e2, e3, e4, el1, eg1, el2, eg2⟩ := atFun (Kd.C_below HFN.out HBL.out) i hi0 hi1
          obtain rfl := ea
          have HPA := Aside0.mk eg1
          have HBO := Aside0.mk eg2
          have hmp := eg1.2.1
          have hms := rdFun_mem x.funcs i hi0 hi1
          have htk := flat_take ftext x.funcs i.toNat _ (rdFun_get _ _ hi0 hi1)
          have hle := flat_le ftext x.funcs (i.toNat + 1)
          have hall := HF.out.all
          rw [ptext, List.length_append] at hall
          rw [htk, List.length_append, ftext] at hle
          simp only [List.length_append, List.length_cons, List.length_nil, size_toList] at hle
          have HTK := Lib.hid htk
          have hsl : (slines (rdFun x.funcs i).body 1).length ≤ 140737488355328 := by omega
          have stm1 : ∀ A n c w, kStmt.C w A n (rdFun x.funcs i).body → Glob w → Calls Tryd.prog 20 #[.slice A n c, .string ⟨#[9]⟩] w fun e w' => e = .returned (.string (bs (slines (rdFun x.funcs i).body 1))) ∧ Below w.heap.size w w' :=
            fun A n c w hC hG => stm_all _ _ (Nat.le_refl _) 1 A n c w hC hG (HF.out.body _ hms) hsl
          obtain ⟨P, hP⟩ : ∃ P, P = bs ((x.globals.map gtext).flatten ++ ((x.funcs.take i.toNat).map ftext).flatten) := ⟨_, rfl⟩
          have sP : P.size = ((x.globals.map gtext).flatten).length + (((x.funcs.take i.toNat).map ftext).flatten).length := by rw [hP, bs_size, List.length_append]
          rw [← hP]
          obtain ⟨L0, hL0⟩ : ∃ L, L = (x.globals.map gtext).flatten ++ ((x.funcs.take i.toNat).map ftext).flatten ++ ([102, 117, 110, 99, 32] ++ (rdFun x.funcs i).name.data.toList ++ [40]) := ⟨_, rfl⟩
          have sL0 : L0.length = ((x.globals.map gtext).flatten).length + (((x.funcs.take i.toNat).map ftext).flatten).length + (5 + (rdFun x.funcs i).name.size + 1) := by
            rw [hL0]
            simp only [List.length_append, List.length_cons, List.length_nil, size_toList]
          have HLEN := Aside0.mk (show L0.length + (Lib.join ((rdFun x.funcs i).params.map (·.data.toList)) [44, 32]).length + 4 + (slines (rdFun x.funcs i).body 1).length + 2 ≤ 140737488355328 by omega)
          have hy1 : ¬ 9223372036854775807 < P.size + 5 := by omega
          have hy2 : ¬ 9223372036854775807 < P.size + 5 + (rdFun x.funcs i).name.size := by omega
          have hy3 : ¬ 9223372036854775807 < P.size + 5 + (rdFun x.funcs i).name.size + 1 := by omega
          have HL0 := Lib.hid hL0
          have hL1 : bs (L0 ++ Lib.join (((rdFun x.funcs i).params.map (·.data.toList)).take 0) [44, 32]) = P ++ ⟨#[102, 117, 110, 99, 32]⟩ ++ (rdFun x.funcs i).name ++ ⟨#[40]⟩ := by
            rw [List.take_zero, Lib.join_nil, List.append_nil, hL0, hP]
            have hnm := bs_of (rdFun x.funcs i).name
            generalize (rdFun x.funcs i).name.data.toList = nm at hnm ⊢
            rw [hnm]
            simp only [lit_bs, bs_add, List.append_assoc]
          have HL1 := Lib.hid hL1
          clear hP sP hL0 sL0 hL1 hle hall htk hsl hms el1 eg1 el2 eg2
          go_wp2_with (first | ((with_reducible refine gate_dst (N := 7) rfl ?_); refine var_event (W1 := ?w1_7) (N := 7) (cs := #[.string (rdFun x.funcs i).name, .slice B1 (rdFun x.funcs i).params.length b1, .slice B2 (rdFun x.funcs i).body.length b2, .int .i64 (rdFun x.funcs i).pos.line, .int .i64 (rdFun x.funcs i).pos.col]) (t := 41) ?hg ?hd ?hg2 ?hd2 ?hr ?hr2 ?_; (case hd => rfl); (case hg => rfl); (case hd2 => rfl); (case hg2 => rfl); (case hr => first | (go_simp; done) | (go_simp; rfl)); (case hr2 => first | (go_simp; done) | (go_simp; rfl)); intro g7 hgE_ W1 hbox_ hb_; replace HBL := Aside0.mk (below_step HBL.out hb_); replace HPA := Aside0.mk (Kd.C_below HPA.out hb_); replace HBO := Aside0.mk (Kd.C_below HBO.out hb_); have BKg7 := Aside0.mk hbox_; have cg7_0 : W1.cell? ⟨g7, 0, none⟩ = some (.string (rdFun x.funcs i).name) := (blk_cell BKg7.out 0).trans rfl; have cg7_1 : W1.cell? ⟨g7, 1, none⟩ = some (.slice B1 (rdFun x.funcs i).params.length b1) := (blk_cell BKg7.out 1).trans rfl; have cg7_2 : W1.cell? ⟨g7, 2, none⟩ = some (.slice B2 (rdFun x.funcs i).body.length b2) := (blk_cell BKg7.out 2).trans rfl; have cg7_3 : W1.cell? ⟨g7, 3, none⟩ = some (.int .i64 (rdFun x.funcs i).pos.line) := (blk_cell BKg7.out 3).trans rfl; have cg7_4 : W1.cell? ⟨g7, 4, none⟩ = some (.int .i64 (rdFun x.funcs i).pos.col) := (blk_cell BKg7.out 4).trans rfl; clear hb_ hbox_ hgE_))
          clear cg7_0 cg7_1 BKg7
          go_loopg [3, 69] (rdFun x.funcs i).params.length (fun kq v3 v69 w' => ∃ j : Int, v69 = .int .i64 j ∧ 0 ≤ j ∧ kq + j.toNat = (rdFun x.funcs i).params.length ∧ v3 = .string (bs (L0 ++ Lib.join (((rdFun x.funcs i).params.map (·.data.toList)).take j.toNat) [44, 32])) ∧ w' = W1)
          case atStart => exact ⟨0, rfl, by omega, by simp, by rw [show Int.toNat 0 = 0 from rfl, HL1.out], rfl⟩
          case round =>
            obtain ⟨j, rfl, hj0, hkj, rfl, rfl⟩ := hrel
            cases gk with
            | zero =>
              have hgj : decide (j < ((rdFun x.funcs i).params.length : Int)) = false := by simp; omega
              rw [List.take_of_length_le (by rw [List.length_map]; omega)]
              obtain ⟨P, hP⟩ : ∃ P, P = bs (L0 ++ Lib.join ((rdFun x.funcs i).params.map (·.data.toList)) [44, 32]) := ⟨_, rfl⟩
              rw [← hP]
              obtain ⟨Q, hQ⟩ : ∃ P, P = bs (slines (rdFun x.funcs i).body 1) := ⟨_, rfl⟩
              have hlen := HLEN.out
              have sP : P.size = L0.length + (Lib.join ((rdFun x.funcs i).params.map (·.data.toList)) [44, 32]).length := by rw [hP, bs_size, List.length_append]
              have sQ : Q.size = (slines (rdFun x.funcs i).body 1).length := by rw [hQ, bs_size]
              have hz1 : ¬ 9223372036854775807 < P.size + 4 := by omega
              have hz2 : ¬ 9223372036854775807 < P.size + 4 + Q.size := by omega
              have hz3 : ¬ 9223372036854775807 < P.size + 4 + Q.size + 2 := by omega
              have HP := Lib.hid hP
              have HQ := Lib.hid hQ
              clear hP hQ sP sQ hlen
              go_wp2_with (first | (go_at_call 20; (with_reducible refine (stm1 _ _ _ _ HBO.out (hg.below hg.size (below_step HB.out HBL.out))).mono ?_); rintro e w8 ⟨rfl, hb_⟩; rw [← HQ.out]; replace HBL := Aside0.mk (below_step HBL.out hb_); clear hb_))
              go_roundg k2_
              case measure => omega
              case rel =>
                refine ⟨i + 1, rfl, by omega, by omega, ?_, HBL⟩
                rw [show (i + 1).toNat = i.toNat + 1 by omega, HTK.out, ftext, HP.out, HQ.out, HL0.out]
                simp only [lit_bs, bs_add, List.append_assoc]
            | succ k3_ =>
              have hj1 : j < ((rdFun x.funcs i).params.length : Int) := by omega
              obtain ⟨bd, fa, f0⟩ := atStr HPA.out j hj0 hj1
              obtain rfl := fa
              have hlen := HLEN.out
              have hjl : j.toNat < (rdFun x.funcs i).params.length := by omega
              have hget : ((rdFun x.funcs i).params.map (·.data.toList))[j.toNat]? = some (rdStr (rdFun x.funcs i).params j).data.toList := by
                rw [List.getElem?_map, List.getElem?_eq_getElem hjl]
                simp [rdStr, List.getD_eq_getElem?_getD, hjl]
              have z1 := join_take_le ((rdFun x.funcs i).params.map (·.data.toList)) [44, 32] j.toNat
              have z2 := join_take_le ((rdFun x.funcs i).params.map (·.data.toList)) [44, 32] (j.toNat + 1)
              have z3 := congrArg List.length (join_take ((rdFun x.funcs i).params.map (·.data.toList)) [44, 32] j.toNat _ hget)
              obtain ⟨P, hP⟩ : ∃ P, P = bs (L0 ++ Lib.join (((rdFun x.funcs i).params.map (·.data.toList)).take j.toNat) [44, 32]) := ⟨_, rfl⟩
              have sP : P.size = L0.length + (Lib.join (((rdFun x.funcs i).params.map (·.data.toList)).take j.toNat) [44, 32]).length := by rw [hP, bs_size, List.length_append]
              have zR : (rdStr (rdFun x.funcs i).params j).size ≤ 140737488355328 := by
                rw [← size_toList]
                split at z3
                · omega
                · simp only [List.length_append] at z3
                  omega
              have zP : P.size ≤ 140737488355328 := by omega
              rw [← hP]
              clear z1 z2 z3 sP hlen
              by_cases hp : 0 < j
              · have hpos : decide ((0 : Int) < j) = true := by simp; omega
                have ht : bs (L0 ++ Lib.join (((rdFun x.funcs i).params.map (·.data.toList)).take (j + 1).toNat) [44, 32]) = P ++ ⟨#[44, 32]⟩ ++ (rdStr (rdFun x.funcs i).params j) := by
                  rw [show (j + 1).toNat = j.toNat + 1 by omega, join_take _ _ _ _ hget, if_neg (by omega), hP]
                  conv => rhs; rw [bs_of (rdStr (rdFun x.funcs i).params j)]
                  simp only [lit_bs, bs_add, List.append_assoc]
                have HT := Lib.hid ht
                clear ht hP hget
                go_wp2_with fail
                go_roundg k3_
                case measure => omega
                case rel => exact ⟨j + 1, rfl, by omega, by omega, by rw [HT.out], rfl⟩
              · have hpos : decide ((0 : Int) < j) = false := by simp; omega
                have ht : bs (L0 ++ Lib.join (((rdFun x.funcs i).params.map (·.data.toList)).take (j + 1).toNat) [44, 32]) = P ++ (rdStr (rdFun x.funcs i).params j) := by
                  rw [show (j + 1).toNat = j.toNat + 1 by omega, join_take _ _ _ _ hget, if_pos (by omega), hP]
                  conv => rhs; rw [bs_of (rdStr (rdFun x.funcs i).params j)]
                  rw [show j.toNat = 0 by omega, List.take_zero, Lib.join_nil, List.append_nil, bs_add]
                have HT := Lib.hid ht
                clear ht hP hget
                go_wp2_with fail
                go_roundg k3_
                case measure => omega
                case rel => exact ⟨j + 1, rfl, by omega, by omega, by rw [HT.out], rfl⟩
    | succ k1_ =>
      have hi1 : i < (x.globals.length : Int) := by omega
      obtain ⟨ad, ea, e0, e1, e2, e3, e4, em0⟩ := atGlobal (Kd.C_below HG.out HBL.out) i hi0 hi1
      obtain rfl := ea
      have HNZ := Lib.hid em0
      have htk := flat_take gtext x.globals i.toNat _ (rdGlobal_get _ _ hi0 hi1)
      have hlen := flat_le gtext x.globals (i.toNat + 1)
      have hall := HF.out.all
      rw [ptext, List.length_append] at hall
      rw [htk, List.length_append] at hlen
      replace hlen := Nat.le_trans hlen (Nat.le_trans (Nat.le_add_right _ _) hall)
      have HTK := Lib.hid htk
      obtain ⟨P, hP⟩ : ∃ P, P = bs (((x.globals.take i.toNat).map gtext).flatten) := ⟨_, rfl⟩
      have sP : P.size = (((x.globals.take i.toNat).map gtext).flatten).length := by rw [hP, bs_size]
      rw [← hP]
      have HP := Lib.hid hP
      clear hP htk hall em0
      by_cases hz : 0 < (rdGlobal x.globals i).size
      · by_cases h0 : (rdGlobal x.globals i).hold ≤ 0
        · skip
          have hH : holdL (rdGlobal x.globals i).hold = [118, 97, 114, 32] := by unfold holdL; rw [if_pos (by omega)]
          have m1 : decide ((rdGlobal x.globals i).hold ≤ 0) = true := by simp; omega
          have kz : decide (0 < (rdGlobal x.globals i).size) = true := decide_eq_true hz
          rw [gtext, hH, if_pos hz] at hlen
          simp only [List.length_append, List.length_cons, List.length_nil, size_toList] at hlen
          obtain ⟨I, hI⟩ : ∃ I : ByteArray, I = ⟨(Lib.itoa (rdGlobal x.globals i).size).toArray⟩ := ⟨_, rfl⟩
          have sI : I.size = (Lib.itoa (rdGlobal x.globals i).size).length := by rw [hI]; exact bs_size _
          have HI := Lib.hid hI
          have hz0 : ¬ 9223372036854775807 < P.size + 4 := by omega
          have hz1 : ¬ 9223372036854775807 < P.size + 4 + (rdGlobal x.globals i).name.size := by omega
          have hz2 : ¬ 9223372036854775807 < P.size + 4 + (rdGlobal x.globals i).name.size + 1 := by omega
          have hz3 : ¬ 9223372036854775807 < P.size + 4 + (rdGlobal x.globals i).name.size + 1 + I.size := by omega
          have hz4 : ¬ 9223372036854775807 < P.size + 4 + (rdGlobal x.globals i).name.size + 1 + I.size + 1 := by omega
          have hz5 : ¬ 9223372036854775807 < P.size + 4 + (rdGlobal x.globals i).name.size + 1 + I.size + 1 + 2 := by omega
          have HH := Lib.hid hH
          have HZ := Lib.hid hz
          clear hH hz hlen sP h0 hI sI
          go_wp2_with (first | ((with_reducible refine gate_dst (N := 5) rfl ?_); refine var_event (W1 := ?w1_5_1) (N := 5) (cs := #[.string (rdGlobal x.globals i).name, .int .i64 (rdGlobal x.globals i).hold, .int .i64 (rdGlobal x.globals i).size, .int .i64 (rdGlobal x.globals i).pos.line, .int .i64 (rdGlobal x.globals i).pos.col]) (t := 54) ?hg ?hd ?hg2 ?hd2 ?hr ?hr2 ?_; (case hd => rfl); (case hg => rfl); (case hd2 => rfl); (case hg2 => rfl); (case hr => first | (go_simp; done) | (go_simp; rfl)); (case hr2 => first | (go_simp; done) | (go_simp; rfl)); intro g5 hgE_ W1 hbox_ hb_; replace HBL := Aside0.mk (below_step HBL.out hb_); have BKg5 := Aside0.mk hbox_; have cg5_0 : W1.cell? ⟨g5, 0, none⟩ = some (.string (rdGlobal x.globals i).name) := (blk_cell BKg5.out 0).trans rfl; have cg5_1 : W1.cell? ⟨g5, 1, none⟩ = some (.int .i64 (rdGlobal x.globals i).hold) := (blk_cell BKg5.out 1).trans rfl; have cg5_2 : W1.cell? ⟨g5, 2, none⟩ = some (.int .i64 (rdGlobal x.globals i).size) := (blk_cell BKg5.out 2).trans rfl; have cg5_3 : W1.cell? ⟨g5, 3, none⟩ = some (.int .i64 (rdGlobal x.globals i).pos.line) := (blk_cell BKg5.out 3).trans rfl; have cg5_4 : W1.cell? ⟨g5, 4, none⟩ = some (.int .i64 (rdGlobal x.globals i).pos.col) := (blk_cell BKg5.out 4).trans rfl; clear hb_ hbox_ hgE_) | (go_at_call 19; refine (Tryd.strconv_Itoa _ HNZ.out.1 HNZ.out.2 _ (hg.below hg.size (below_step HB.out HBL.out)).pow).mono ?_; rintro e w8 ⟨rfl, hw_⟩; have hb_ := below_of_grow hw_; clear hw_; rw [← HI.out]; replace HBL := Aside0.mk (below_step HBL.out hb_); clear hb_))
          go_roundg k1_
          case measure => omega
          case rel =>
            refine ⟨i + 1, rfl, by omega, by omega, ?_, HBL⟩
            rw [show (i + 1).toNat = i.toNat + 1 by omega, HTK.out, gtext, HH.out, if_pos HZ.out, HP.out, HI.out]
            have hnm := bs_of (rdGlobal x.globals i).name
            generalize (rdGlobal x.globals i).name.data.toList = nm at hnm ⊢
            rw [hnm]
            simp only [lit_bs, bs_add, List.append_assoc, List.append_nil, List.nil_append, List.cons_append]
        by_cases h1 : (rdGlobal x.globals i).hold = 1
        · skip
          have hH : holdL (rdGlobal x.globals i).hold = [112, 117, 98, 108, 105, 99, 32] := by unfold holdL; rw [if_neg (by omega), if_pos (by omega)]
          have m1 : decide ((rdGlobal x.globals i).hold ≤ 0) = false := by simp; omega
          have m2 : ((rdGlobal x.globals i).hold == 1) = true := by rw [h1]; rfl
          have kz : decide (0 < (rdGlobal x.globals i).size) = true := decide_eq_true hz
          rw [gtext, hH, if_pos hz] at hlen
          simp only [List.length_append, List.length_cons, List.length_nil, size_toList] at hlen
          obtain ⟨I, hI⟩ : ∃ I : ByteArray, I = ⟨(Lib.itoa (rdGlobal x.globals i).size).toArray⟩ := ⟨_, rfl⟩
          have sI : I.size = (Lib.itoa (rdGlobal x.globals i).size).length := by rw [hI]; exact bs_size _
          have HI := Lib.hid hI
          have hz0 : ¬ 9223372036854775807 < P.size + 7 := by omega
          have hz1 : ¬ 9223372036854775807 < P.size + 7 + (rdGlobal x.globals i).name.size := by omega
          have hz2 : ¬ 9223372036854775807 < P.size + 7 + (rdGlobal x.globals i).name.size + 1 := by omega
          have hz3 : ¬ 9223372036854775807 < P.size + 7 + (rdGlobal x.globals i).name.size + 1 + I.size := by omega
          have hz4 : ¬ 9223372036854775807 < P.size + 7 + (rdGlobal x.globals i).name.size + 1 + I.size + 1 := by omega
          have hz5 : ¬ 9223372036854775807 < P.size + 7 + (rdGlobal x.globals i).name.size + 1 + I.size + 1 + 2 := by omega
          have HH := Lib.hid hH
          have HZ := Lib.hid hz
          clear hH hz hlen sP h0 h1 hI sI
          go_wp2_with (first | ((with_reducible refine gate_dst (N := 5) rfl ?_); refine var_event (W1 := ?w1_5_2) (N := 5) (cs := #[.string (rdGlobal x.globals i).name, .int .i64 (rdGlobal x.globals i).hold, .int .i64 (rdGlobal x.globals i).size, .int .i64 (rdGlobal x.globals i).pos.line, .int .i64 (rdGlobal x.globals i).pos.col]) (t := 54) ?hg ?hd ?hg2 ?hd2 ?hr ?hr2 ?_; (case hd => rfl); (case hg => rfl); (case hd2 => rfl); (case hg2 => rfl); (case hr => first | (go_simp; done) | (go_simp; rfl)); (case hr2 => first | (go_simp; done) | (go_simp; rfl)); intro g5 hgE_ W1 hbox_ hb_; replace HBL := Aside0.mk (below_step HBL.out hb_); have BKg5 := Aside0.mk hbox_; have cg5_0 : W1.cell? ⟨g5, 0, none⟩ = some (.string (rdGlobal x.globals i).name) := (blk_cell BKg5.out 0).trans rfl; have cg5_1 : W1.cell? ⟨g5, 1, none⟩ = some (.int .i64 (rdGlobal x.globals i).hold) := (blk_cell BKg5.out 1).trans rfl; have cg5_2 : W1.cell? ⟨g5, 2, none⟩ = some (.int .i64 (rdGlobal x.globals i).size) := (blk_cell BKg5.out 2).trans rfl; have cg5_3 : W1.cell? ⟨g5, 3, none⟩ = some (.int .i64 (rdGlobal x.globals i).pos.line) := (blk_cell BKg5.out 3).trans rfl; have cg5_4 : W1.cell? ⟨g5, 4, none⟩ = some (.int .i64 (rdGlobal x.globals i).pos.col) := (blk_cell BKg5.out 4).trans rfl; clear hb_ hbox_ hgE_) | (go_at_call 19; refine (Tryd.strconv_Itoa _ HNZ.out.1 HNZ.out.2 _ (hg.below hg.size (below_step HB.out HBL.out)).pow).mono ?_; rintro e w8 ⟨rfl, hw_⟩; have hb_ := below_of_grow hw_; clear hw_; rw [← HI.out]; replace HBL := Aside0.mk (below_step HBL.out hb_); clear hb_))
          go_roundg k1_
          case measure => omega
          case rel =>
            refine ⟨i + 1, rfl, by omega, by omega, ?_, HBL⟩
            rw [show (i + 1).toNat = i.toNat + 1 by omega, HTK.out, gtext, HH.out, if_pos HZ.out, HP.out, HI.out]
            have hnm := bs_of (rdGlobal x.globals i).name
            generalize (rdGlobal x.globals i).name.data.toList = nm at hnm ⊢
            rw [hnm]
            simp only [lit_bs, bs_add, List.append_assoc, List.append_nil, List.nil_append, List.cons_append]
        · skip
          have hH : holdL (rdGlobal x.globals i).hold = [115, 101, 99, 114, 101, 116, 32] := by unfold holdL; rw [if_neg (by omega), if_neg (by omega)]
          have m1 : decide ((rdGlobal x.globals i).hold ≤ 0) = false := by simp; omega
          have m2 : ((rdGlobal x.globals i).hold == 1) = false := by exact beq_eq_false_iff_ne.2 h1
          have kz : decide (0 < (rdGlobal x.globals i).size) = true := decide_eq_true hz
          rw [gtext, hH, if_pos hz] at hlen
          simp only [List.length_append, List.length_cons, List.length_nil, size_toList] at hlen
          obtain ⟨I, hI⟩ : ∃ I : ByteArray, I = ⟨(Lib.itoa (rdGlobal x.globals i).size).toArray⟩ := ⟨_, rfl⟩
          have sI : I.size = (Lib.itoa (rdGlobal x.globals i).size).length := by rw [hI]; exact bs_size _
          have HI := Lib.hid hI
          have hz0 : ¬ 9223372036854775807 < P.size + 7 := by omega
          have hz1 : ¬ 9223372036854775807 < P.size + 7 + (rdGlobal x.globals i).name.size := by omega
          have hz2 : ¬ 9223372036854775807 < P.size + 7 + (rdGlobal x.globals i).name.size + 1 := by omega
          have hz3 : ¬ 9223372036854775807 < P.size + 7 + (rdGlobal x.globals i).name.size + 1 + I.size := by omega
          have hz4 : ¬ 9223372036854775807 < P.size + 7 + (rdGlobal x.globals i).name.size + 1 + I.size + 1 := by omega
          have hz5 : ¬ 9223372036854775807 < P.size + 7 + (rdGlobal x.globals i).name.size + 1 + I.size + 1 + 2 := by omega
          have HH := Lib.hid hH
          have HZ := Lib.hid hz
          clear hH hz hlen sP h0 h1 hI sI
          go_wp2_with (first | ((with_reducible refine gate_dst (N := 5) rfl ?_); refine var_event (W1 := ?w1_5_3) (N := 5) (cs := #[.string (rdGlobal x.globals i).name, .int .i64 (rdGlobal x.globals i).hold, .int .i64 (rdGlobal x.globals i).size, .int .i64 (rdGlobal x.globals i).pos.line, .int .i64 (rdGlobal x.globals i).pos.col]) (t := 54) ?hg ?hd ?hg2 ?hd2 ?hr ?hr2 ?_; (case hd => rfl); (case hg => rfl); (case hd2 => rfl); (case hg2 => rfl); (case hr => first | (go_simp; done) | (go_simp; rfl)); (case hr2 => first | (go_simp; done) | (go_simp; rfl)); intro g5 hgE_ W1 hbox_ hb_; replace HBL := Aside0.mk (below_step HBL.out hb_); have BKg5 := Aside0.mk hbox_; have cg5_0 : W1.cell? ⟨g5, 0, none⟩ = some (.string (rdGlobal x.globals i).name) := (blk_cell BKg5.out 0).trans rfl; have cg5_1 : W1.cell? ⟨g5, 1, none⟩ = some (.int .i64 (rdGlobal x.globals i).hold) := (blk_cell BKg5.out 1).trans rfl; have cg5_2 : W1.cell? ⟨g5, 2, none⟩ = some (.int .i64 (rdGlobal x.globals i).size) := (blk_cell BKg5.out 2).trans rfl; have cg5_3 : W1.cell? ⟨g5, 3, none⟩ = some (.int .i64 (rdGlobal x.globals i).pos.line) := (blk_cell BKg5.out 3).trans rfl; have cg5_4 : W1.cell? ⟨g5, 4, none⟩ = some (.int .i64 (rdGlobal x.globals i).pos.col) := (blk_cell BKg5.out 4).trans rfl; clear hb_ hbox_ hgE_) | (go_at_call 19; refine (Tryd.strconv_Itoa _ HNZ.out.1 HNZ.out.2 _ (hg.below hg.size (below_step HB.out HBL.out)).pow).mono ?_; rintro e w8 ⟨rfl, hw_⟩; have hb_ := below_of_grow hw_; clear hw_; rw [← HI.out]; replace HBL := Aside0.mk (below_step HBL.out hb_); clear hb_))
          go_roundg k1_
          case measure => omega
          case rel =>
            refine ⟨i + 1, rfl, by omega, by omega, ?_, HBL⟩
            rw [show (i + 1).toNat = i.toNat + 1 by omega, HTK.out, gtext, HH.out, if_pos HZ.out, HP.out, HI.out]
            have hnm := bs_of (rdGlobal x.globals i).name
            generalize (rdGlobal x.globals i).name.data.toList = nm at hnm ⊢
            rw [hnm]
            simp only [lit_bs, bs_add, List.append_assoc, List.append_nil, List.nil_append, List.cons_append]
      · by_cases h0 : (rdGlobal x.globals i).hold ≤ 0
        · skip
          have hH : holdL (rdGlobal x.globals i).hold = [118, 97, 114, 32] := by unfold holdL; rw [if_pos (by omega)]
          have m1 : decide ((rdGlobal x.globals i).hold ≤ 0) = true := by simp; omega
          have kz : decide (0 < (rdGlobal x.globals i).size) = false := decide_eq_false hz
          rw [gtext, hH, if_neg hz] at hlen
          simp only [List.length_append, List.length_cons, List.length_nil, size_toList] at hlen
          have hz0 : ¬ 9223372036854775807 < P.size + 4 := by omega
          have hz1 : ¬ 9223372036854775807 < P.size + 4 + (rdGlobal x.globals i).name.size := by omega
          have hz2 : ¬ 9223372036854775807 < P.size + 4 + (rdGlobal x.globals i).name.size + 2 := by omega
          have HH := Lib.hid hH
          have HZ := Lib.hid hz
          clear hH hz hlen sP h0
          go_wp2_with (first | ((with_reducible refine gate_dst (N := 5) rfl ?_); refine var_event (W1 := ?w1_5_4) (N := 5) (cs := #[.string (rdGlobal x.globals i).name, .int .i64 (rdGlobal x.globals i).hold, .int .i64 (rdGlobal x.globals i).size, .int .i64 (rdGlobal x.globals i).pos.line, .int .i64 (rdGlobal x.globals i).pos.col]) (t := 54) ?hg ?hd ?hg2 ?hd2 ?hr ?hr2 ?_; (case hd => rfl); (case hg => rfl); (case hd2 => rfl); (case hg2 => rfl); (case hr => first | (go_simp; done) | (go_simp; rfl)); (case hr2 => first | (go_simp; done) | (go_simp; rfl)); intro g5 hgE_ W1 hbox_ hb_; replace HBL := Aside0.mk (below_step HBL.out hb_); have BKg5 := Aside0.mk hbox_; have cg5_0 : W1.cell? ⟨g5, 0, none⟩ = some (.string (rdGlobal x.globals i).name) := (blk_cell BKg5.out 0).trans rfl; have cg5_1 : W1.cell? ⟨g5, 1, none⟩ = some (.int .i64 (rdGlobal x.globals i).hold) := (blk_cell BKg5.out 1).trans rfl; have cg5_2 : W1.cell? ⟨g5, 2, none⟩ = some (.int .i64 (rdGlobal x.globals i).size) := (blk_cell BKg5.out 2).trans rfl; have cg5_3 : W1.cell? ⟨g5, 3, none⟩ = some (.int .i64 (rdGlobal x.globals i).pos.line) := (blk_cell BKg5.out 3).trans rfl; have cg5_4 : W1.cell? ⟨g5, 4, none⟩ = some (.int .i64 (rdGlobal x.globals i).pos.col) := (blk_cell BKg5.out 4).trans rfl; clear hb_ hbox_ hgE_))
          go_roundg k1_
          case measure => omega
          case rel =>
            refine ⟨i + 1, rfl, by omega, by omega, ?_, HBL⟩
            rw [show (i + 1).toNat = i.toNat + 1 by omega, HTK.out, gtext, HH.out, if_neg (by have := HZ.out; omega), HP.out]
            have hnm := bs_of (rdGlobal x.globals i).name
            generalize (rdGlobal x.globals i).name.data.toList = nm at hnm ⊢
            rw [hnm]
            simp only [lit_bs, bs_add, List.append_assoc, List.append_nil, List.nil_append, List.cons_append]
        by_cases h1 : (rdGlobal x.globals i).hold = 1
        · skip
          have hH : holdL (rdGlobal x.globals i).hold = [112, 117, 98, 108, 105, 99, 32] := by unfold holdL; rw [if_neg (by omega), if_pos (by omega)]
          have m1 : decide ((rdGlobal x.globals i).hold ≤ 0) = false := by simp; omega
          have m2 : ((rdGlobal x.globals i).hold == 1) = true := by rw [h1]; rfl
          have kz : decide (0 < (rdGlobal x.globals i).size) = false := decide_eq_false hz
          rw [gtext, hH, if_neg hz] at hlen
          simp only [List.length_append, List.length_cons, List.length_nil, size_toList] at hlen
          have hz0 : ¬ 9223372036854775807 < P.size + 7 := by omega
          have hz1 : ¬ 9223372036854775807 < P.size + 7 + (rdGlobal x.globals i).name.size := by omega
          have hz2 : ¬ 9223372036854775807 < P.size + 7 + (rdGlobal x.globals i).name.size + 2 := by omega
          have HH := Lib.hid hH
          have HZ := Lib.hid hz
          clear hH hz hlen sP h0 h1
          go_wp2_with (first | ((with_reducible refine gate_dst (N := 5) rfl ?_); refine var_event (W1 := ?w1_5_5) (N := 5) (cs := #[.string (rdGlobal x.globals i).name, .int .i64 (rdGlobal x.globals i).hold, .int .i64 (rdGlobal x.globals i).size, .int .i64 (rdGlobal x.globals i).pos.line, .int .i64 (rdGlobal x.globals i).pos.col]) (t := 54) ?hg ?hd ?hg2 ?hd2 ?hr ?hr2 ?_; (case hd => rfl); (case hg => rfl); (case hd2 => rfl); (case hg2 => rfl); (case hr => first | (go_simp; done) | (go_simp; rfl)); (case hr2 => first | (go_simp; done) | (go_simp; rfl)); intro g5 hgE_ W1 hbox_ hb_; replace HBL := Aside0.mk (below_step HBL.out hb_); have BKg5 := Aside0.mk hbox_; have cg5_0 : W1.cell? ⟨g5, 0, none⟩ = some (.string (rdGlobal x.globals i).name) := (blk_cell BKg5.out 0).trans rfl; have cg5_1 : W1.cell? ⟨g5, 1, none⟩ = some (.int .i64 (rdGlobal x.globals i).hold) := (blk_cell BKg5.out 1).trans rfl; have cg5_2 : W1.cell? ⟨g5, 2, none⟩ = some (.int .i64 (rdGlobal x.globals i).size) := (blk_cell BKg5.out 2).trans rfl; have cg5_3 : W1.cell? ⟨g5, 3, none⟩ = some (.int .i64 (rdGlobal x.globals i).pos.line) := (blk_cell BKg5.out 3).trans rfl; have cg5_4 : W1.cell? ⟨g5, 4, none⟩ = some (.int .i64 (rdGlobal x.globals i).pos.col) := (blk_cell BKg5.out 4).trans rfl; clear hb_ hbox_ hgE_))
          go_roundg k1_
          case measure => omega
          case rel =>
            refine ⟨i + 1, rfl, by omega, by omega, ?_, HBL⟩
            rw [show (i + 1).toNat = i.toNat + 1 by omega, HTK.out, gtext, HH.out, if_neg (by have := HZ.out; omega), HP.out]
            have hnm := bs_of (rdGlobal x.globals i).name
            generalize (rdGlobal x.globals i).name.data.toList = nm at hnm ⊢
            rw [hnm]
            simp only [lit_bs, bs_add, List.append_assoc, List.append_nil, List.nil_append, List.cons_append]
        · skip
          have hH : holdL (rdGlobal x.globals i).hold = [115, 101, 99, 114, 101, 116, 32] := by unfold holdL; rw [if_neg (by omega), if_neg (by omega)]
          have m1 : decide ((rdGlobal x.globals i).hold ≤ 0) = false := by simp; omega
          have m2 : ((rdGlobal x.globals i).hold == 1) = false := by exact beq_eq_false_iff_ne.2 h1
          have kz : decide (0 < (rdGlobal x.globals i).size) = false := decide_eq_false hz
          rw [gtext, hH, if_neg hz] at hlen
          simp only [List.length_append, List.length_cons, List.length_nil, size_toList] at hlen
          have hz0 : ¬ 9223372036854775807 < P.size + 7 := by omega
          have hz1 : ¬ 9223372036854775807 < P.size + 7 + (rdGlobal x.globals i).name.size := by omega
          have hz2 : ¬ 9223372036854775807 < P.size + 7 + (rdGlobal x.globals i).name.size + 2 := by omega
          have HH := Lib.hid hH
          have HZ := Lib.hid hz
          clear hH hz hlen sP h0 h1
          go_wp2_with (first | ((with_reducible refine gate_dst (N := 5) rfl ?_); refine var_event (W1 := ?w1_5_6) (N := 5) (cs := #[.string (rdGlobal x.globals i).name, .int .i64 (rdGlobal x.globals i).hold, .int .i64 (rdGlobal x.globals i).size, .int .i64 (rdGlobal x.globals i).pos.line, .int .i64 (rdGlobal x.globals i).pos.col]) (t := 54) ?hg ?hd ?hg2 ?hd2 ?hr ?hr2 ?_; (case hd => rfl); (case hg => rfl); (case hd2 => rfl); (case hg2 => rfl); (case hr => first | (go_simp; done) | (go_simp; rfl)); (case hr2 => first | (go_simp; done) | (go_simp; rfl)); intro g5 hgE_ W1 hbox_ hb_; replace HBL := Aside0.mk (below_step HBL.out hb_); have BKg5 := Aside0.mk hbox_; have cg5_0 : W1.cell? ⟨g5, 0, none⟩ = some (.string (rdGlobal x.globals i).name) := (blk_cell BKg5.out 0).trans rfl; have cg5_1 : W1.cell? ⟨g5, 1, none⟩ = some (.int .i64 (rdGlobal x.globals i).hold) := (blk_cell BKg5.out 1).trans rfl; have cg5_2 : W1.cell? ⟨g5, 2, none⟩ = some (.int .i64 (rdGlobal x.globals i).size) := (blk_cell BKg5.out 2).trans rfl; have cg5_3 : W1.cell? ⟨g5, 3, none⟩ = some (.int .i64 (rdGlobal x.globals i).pos.line) := (blk_cell BKg5.out 3).trans rfl; have cg5_4 : W1.cell? ⟨g5, 4, none⟩ = some (.int .i64 (rdGlobal x.globals i).pos.col) := (blk_cell BKg5.out 4).trans rfl; clear hb_ hbox_ hgE_))
          go_roundg k1_
          case measure => omega
          case rel =>
            refine ⟨i + 1, rfl, by omega, by omega, ?_, HBL⟩
            rw [show (i + 1).toNat = i.toNat + 1 by omega, HTK.out, gtext, HH.out, if_neg (by have := HZ.out; omega), HP.out]
            have hnm := bs_of (rdGlobal x.globals i).name
            generalize (rdGlobal x.globals i).name.data.toList = nm at hnm ⊢
            rw [hnm]
            simp only [lit_bs, bs_add, List.append_assoc, List.append_nil, List.nil_append, List.cons_append]
end Go.Proofs.YtpbeplepcbhamaaDoor
