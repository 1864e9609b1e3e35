/- FewProg: what it computes. -/
import Derived.Test.YtpbeplepcbhamaaDoorFews
import Derived.Test.YtpbeplepcbhamaaDoorPtext
namespace Go.Proofs.YtpbeplepcbhamaaDoor
open Go.RowKit Go.Proofs.YtpbeplepcbhamaaDoorW.PrintWords Go.Proofs.YtpbeplepcbhamaaDoorW.PrintLast Go.Proofs.YtpbeplepcbhamaaDoorW.PrintMore
set_option linter.unusedVariables false
set_option linter.unusedSimpArgs false

def fewG (g : Global) : Bool := decide (g.name.size ≤ 40)
def fewF (f : Fun) : Bool := decide (f.name.size ≤ 40) && (decide (f.params.length ≤ 10) && (fewSs f.body 0 && f.params.all fun s => decide (s.size ≤ 40)))
/-- Has a program few parts? -/
def fewP (p : Prog) : Bool := decide (p.globals.length ≤ 10) && (decide (p.funcs.length ≤ 6) && (p.globals.all fewG && p.funcs.all fewF))
def rdStr (xs : List ByteArray) (i : Int) : ByteArray := xs.getD i.toNat ByteArray.empty
theorem atStr {w : World} {A : Option Addr} {n : Nat} {xs : List ByteArray} (h : Kd.string.C w A n xs) (i : Int) (h0 : 0 ≤ i) (h1 : i < n) : ∃ ad, A = some ad ∧ w.cell? (ad.add i.toNat) = some (.string (rdStr xs i)) := by
  obtain ⟨ad', c, e', hl', hK', hc⟩ := Kd.C_get h ByteArray.empty i h0 h1
  obtain rfl : c = [.string (xs.getD i.toNat ByteArray.empty)] := hK'
  have h2 : w.cell? (ad'.add (i.toNat * 1 + 0)) = some (.string (xs.getD i.toNat ByteArray.empty)) := hc 0 _ rfl
  exact ⟨ad', e', by simpa [rdStr] using h2⟩

set_option maxRecDepth 100000 in
set_option maxHeartbeats 6400000 in
theorem fewp_calls (x : Prog) (cs : List Value) (w : World) (hx : kProg.K w x cs) : Calls Tryd.prog 18 #[.agg cs.toArray] w fun e w' => e = .returned (.bool (fewP x)) ∧ Below w.heap.size w w' := by
  obtain ⟨A0, a0, A1, a1, rfl, el0, eg0, el1, eg1⟩ := kProg_open hx
  have HG := Aside0.mk eg0
  have HFN := Aside0.mk eg1
  have hm0 := eg0.2.1
  have hm1 := eg1.2.1
  clear hx el0 eg0 el1 eg1
  by_cases c1_ : ¬ (x.globals.length ≤ 10)
  · have k1 : decide (10 < (x.globals.length : Int)) = true := by simp; omega
    have V := Aside0.mk (decide_eq_false c1_)
    clear c1_
    go_enter Tryd.func18, Tryd.ntmps18
    go_wp2_with (first | ((with_reducible refine gate_dst (N := 1) rfl ?_); refine box_event ?hg (N := 1) ?hd (cs := #[.slice A0 x.globals.length a0, .slice A1 x.funcs.length a1]) (t := 45) ?hr ?_; (case hd => rfl); (case hg => rfl); (case hr => first | (go_simp; done) | (go_simp; rfl)); intro g1 hgE_ W1 hbox_ hb_; have GEg1 := Aside0.mk (show w.heap.size ≤ g1 from Nat.le_of_eq hgE_.symm); have HB := Aside0.mk hb_; have BKg1 := Aside0.mk hbox_; have cg1_0 : W1.cell? ⟨g1, 0, none⟩ = some (.slice A0 x.globals.length a0) := (blk_cell BKg1.out 0).trans rfl; have cg1_1 : W1.cell? ⟨g1, 1, none⟩ = some (.slice A1 x.funcs.length a1) := (blk_cell BKg1.out 1).trans rfl; clear hb_ hbox_ hgE_))
    go_ret
    refine ⟨?_, HB.out⟩
    rw [fewP, V.out]
    rfl
  have c1 : x.globals.length ≤ 10 := Decidable.not_not.1 c1_
  clear c1_
  have k1 : decide (10 < (x.globals.length : Int)) = false := by simp; omega
  by_cases c2_ : ¬ (x.funcs.length ≤ 6)
  · have k2 : decide (6 < (x.funcs.length : Int)) = true := by simp; omega
    have V := Aside0.mk (decide_eq_false c2_)
    clear c1 c2_
    go_enter Tryd.func18, Tryd.ntmps18
    go_wp2_with (first | ((with_reducible refine gate_dst (N := 1) rfl ?_); refine box_event ?hg (N := 1) ?hd (cs := #[.slice A0 x.globals.length a0, .slice A1 x.funcs.length a1]) (t := 45) ?hr ?_; (case hd => rfl); (case hg => rfl); (case hr => first | (go_simp; done) | (go_simp; rfl)); intro g1 hgE_ W1 hbox_ hb_; have GEg1 := Aside0.mk (show w.heap.size ≤ g1 from Nat.le_of_eq hgE_.symm); have HB := Aside0.mk hb_; have BKg1 := Aside0.mk hbox_; have cg1_0 : W1.cell? ⟨g1, 0, none⟩ = some (.slice A0 x.globals.length a0) := (blk_cell BKg1.out 0).trans rfl; have cg1_1 : W1.cell? ⟨g1, 1, none⟩ = some (.slice A1 x.funcs.length a1) := (blk_cell BKg1.out 1).trans rfl; clear hb_ hbox_ hgE_))
    go_ret
    refine ⟨?_, HB.out⟩
    rw [fewP, V.out, Bool.false_and, Bool.and_false]
    rfl
  have c2 : x.funcs.length ≤ 6 := Decidable.not_not.1 c2_
  clear c2_
  have k2 : decide (6 < (x.funcs.length : Int)) = false := by simp; omega
  have HV := Aside0.mk (show fewP x = (x.globals.all fewG && x.funcs.all fewF) by rw [fewP, decide_eq_true c1, decide_eq_true c2, Bool.true_and, Bool.true_and])
  clear c1 c2
  go_enter Tryd.func18, Tryd.ntmps18
  go_wp2_with (first | ((with_reducible refine gate_dst (N := 1) rfl ?_); refine box_event ?hg (N := 1) ?hd (cs := #[.slice A0 x.globals.length a0, .slice A1 x.funcs.length a1]) (t := 45) ?hr ?_; (case hd => rfl); (case hg => rfl); (case hr => first | (go_simp; done) | (go_simp; rfl)); intro g1 hgE_ W1 hbox_ hb_; have GEg1 := Aside0.mk (show w.heap.size ≤ g1 from Nat.le_of_eq hgE_.symm); have HB := Aside0.mk hb_; have BKg1 := Aside0.mk hbox_; have cg1_0 : W1.cell? ⟨g1, 0, none⟩ = some (.slice A0 x.globals.length a0) := (blk_cell BKg1.out 0).trans rfl; have cg1_1 : W1.cell? ⟨g1, 1, none⟩ = some (.slice A1 x.funcs.length a1) := (blk_cell BKg1.out 1).trans rfl; clear hb_ hbox_ hgE_))
  replace HG := Aside0.mk (Kd.C_below HG.out HB.out)
  replace HFN := Aside0.mk (Kd.C_below HFN.out HB.out)
  clear cg1_0 cg1_1
  go_loopg [22] x.globals.length (fun kq v22 w' => ∃ i : Int, v22 = .int .i64 i ∧ 0 ≤ i ∧ kq + i.toNat = x.globals.length ∧ Aside0 (∀ j, j < i.toNat → fewG (x.globals.getD j zGlobal) = true) ∧ Aside0 (Below W1.heap.size W1 w'))
  case atStart => exact ⟨0, rfl, by omega, by simp, ⟨fun j hj => absurd hj (by simp)⟩, ⟨Below.refl _ _⟩⟩
  case round =>
    obtain ⟨i, rfl, hi0, hk, HS, HBL⟩ := hrel
    cases gk with
    | zero =>
      have hge : decide (i < (x.globals.length : Int)) = false := by simp; omega
      have HGA := Aside0.mk (all_true fewG zGlobal x.globals (fun j hj => HS.out j (by omega)))
      clear HS
      have cg1_1 := (blk_cell (blk_below BKg1.out HBL.out) 1).trans rfl
      replace HFN := Aside0.mk (Kd.C_below HFN.out HBL.out)
      replace HB := Aside0.mk (below_step HB.out HBL.out)
      clear HBL BKg1
      go_wp2_with fail
      go_loopg [34] x.funcs.length (fun kq v34 w' => ∃ i : Int, v34 = .int .i64 i ∧ 0 ≤ i ∧ kq + i.toNat = x.funcs.length ∧ Aside0 (∀ j, j < i.toNat → fewF (x.funcs.getD j zFun) = true) ∧ Aside0 (Below wr.heap.size wr w'))
      case atStart => exact ⟨0, rfl, by omega, by simp, ⟨fun j hj => absurd hj (by simp)⟩, ⟨Below.refl _ _⟩⟩
      case round =>
        obtain ⟨i, rfl, hi0, hk, HS, HBL⟩ := hrel
        cases gk with
        | zero =>
          have hge : decide (i < (x.funcs.length : Int)) = false := by simp; omega
          go_wp2_with fail
          go_ret
          refine ⟨?_, below_step HB.out HBL.out⟩
          rw [HV.out, HGA.out, all_true fewF zFun x.funcs (fun j hj => HS.out j (by omega))]
          rfl
        | succ k2_ =>
          have hi1 : i < (x.funcs.length : Int) := by omega
          obtain ⟨ad, B1, b1, B2, b2, ea, e0, e1, e2, e3, e4, el1, eg1, el2, eg2⟩ := atFun (Kd.C_below HFN.out HBL.out) i hi0 hi1
          obtain rfl := ea
          have HPA := Aside0.mk eg1
          have HBO := Aside0.mk eg2
          have hno : fewF (rdFun x.funcs i) = false → fewP x = false := fun h => HV.out.trans (by rw [all_false fewF zFun x.funcs i.toNat (by omega) h, Bool.and_false])
          have HNO := Aside0.mk hno
          have hmp := eg1.2.1
          clear hno el1 eg1 el2 eg2
          by_cases c3_ : ¬ ((rdFun x.funcs i).name.size ≤ 40)
          · have k3 : decide (40 < ((rdFun x.funcs i).name.size : Int)) = true := by simp; omega
            have V := Aside0.mk (decide_eq_false c3_)
            clear c3_
            go_wp2_with (first | ((with_reducible refine gate_dst (N := 6) rfl ?_); refine var_event (W1 := ?w1_6_1) (N := 6) (cs := #[.string (rdFun x.funcs i).name, .slice B1 (rdFun x.funcs i).params.length b1, .slice B2 (rdFun x.funcs i).body.length b2, .int .i64 (rdFun x.funcs i).pos.line, .int .i64 (rdFun x.funcs i).pos.col]) (t := 41) ?hg ?hd ?hg2 ?hd2 ?hr ?hr2 ?_; (case hd => rfl); (case hg => rfl); (case hd2 => rfl); (case hg2 => rfl); (case hr => first | (go_simp; done) | (go_simp; rfl)); (case hr2 => first | (go_simp; done) | (go_simp; rfl)); intro g6 hgE_ W1 hbox_ hb_; replace HBL := Aside0.mk (below_step HBL.out hb_); replace HPA := Aside0.mk (Kd.C_below HPA.out hb_); replace HBO := Aside0.mk (Kd.C_below HBO.out hb_); have BKg6 := Aside0.mk hbox_; have cg6_0 : W1.cell? ⟨g6, 0, none⟩ = some (.string (rdFun x.funcs i).name) := (blk_cell BKg6.out 0).trans rfl; have cg6_1 : W1.cell? ⟨g6, 1, none⟩ = some (.slice B1 (rdFun x.funcs i).params.length b1) := (blk_cell BKg6.out 1).trans rfl; have cg6_2 : W1.cell? ⟨g6, 2, none⟩ = some (.slice B2 (rdFun x.funcs i).body.length b2) := (blk_cell BKg6.out 2).trans rfl; have cg6_3 : W1.cell? ⟨g6, 3, none⟩ = some (.int .i64 (rdFun x.funcs i).pos.line) := (blk_cell BKg6.out 3).trans rfl; have cg6_4 : W1.cell? ⟨g6, 4, none⟩ = some (.int .i64 (rdFun x.funcs i).pos.col) := (blk_cell BKg6.out 4).trans rfl; clear hb_ hbox_ hgE_))
            go_ret
            refine ⟨?_, below_step HB.out HBL.out⟩
            rw [HNO.out (by rw [fewF, V.out]; rfl)]
            rfl
          have c3 := Decidable.not_not.1 c3_
          clear c3_
          have k3 : decide (40 < ((rdFun x.funcs i).name.size : Int)) = false := by simp; omega
          by_cases c4_ : ¬ ((rdFun x.funcs i).params.length ≤ 10)
          · have k4 : decide (10 < ((rdFun x.funcs i).params.length : Int)) = true := by simp; omega
            have V := Aside0.mk (decide_eq_false c4_)
            clear c3 c4_
            go_wp2_with (first | ((with_reducible refine gate_dst (N := 6) rfl ?_); refine var_event (W1 := ?w1_6_2) (N := 6) (cs := #[.string (rdFun x.funcs i).name, .slice B1 (rdFun x.funcs i).params.length b1, .slice B2 (rdFun x.funcs i).body.length b2, .int .i64 (rdFun x.funcs i).pos.line, .int .i64 (rdFun x.funcs i).pos.col]) (t := 41) ?hg ?hd ?hg2 ?hd2 ?hr ?hr2 ?_; (case hd => rfl); (case hg => rfl); (case hd2 => rfl); (case hg2 => rfl); (case hr => first | (go_simp; done) | (go_simp; rfl)); (case hr2 => first | (go_simp; done) | (go_simp; rfl)); intro g6 hgE_ W1 hbox_ hb_; replace HBL := Aside0.mk (below_step HBL.out hb_); replace HPA := Aside0.mk (Kd.C_below HPA.out hb_); replace HBO := Aside0.mk (Kd.C_below HBO.out hb_); have BKg6 := Aside0.mk hbox_; have cg6_0 : W1.cell? ⟨g6, 0, none⟩ = some (.string (rdFun x.funcs i).name) := (blk_cell BKg6.out 0).trans rfl; have cg6_1 : W1.cell? ⟨g6, 1, none⟩ = some (.slice B1 (rdFun x.funcs i).params.length b1) := (blk_cell BKg6.out 1).trans rfl; have cg6_2 : W1.cell? ⟨g6, 2, none⟩ = some (.slice B2 (rdFun x.funcs i).body.length b2) := (blk_cell BKg6.out 2).trans rfl; have cg6_3 : W1.cell? ⟨g6, 3, none⟩ = some (.int .i64 (rdFun x.funcs i).pos.line) := (blk_cell BKg6.out 3).trans rfl; have cg6_4 : W1.cell? ⟨g6, 4, none⟩ = some (.int .i64 (rdFun x.funcs i).pos.col) := (blk_cell BKg6.out 4).trans rfl; clear hb_ hbox_ hgE_))
            go_ret
            refine ⟨?_, below_step HB.out HBL.out⟩
            rw [HNO.out (by rw [fewF, V.out, Bool.false_and, Bool.and_false])]
            rfl
          have c4 := Decidable.not_not.1 c4_
          clear c4_
          have k4 : decide (10 < ((rdFun x.funcs i).params.length : Int)) = false := by simp; omega
          cases hvb : fewSs (rdFun x.funcs i).body 0 with
          | false =>
            have VB := Aside0.mk hvb
            clear hvb c3 c4
            go_wp2_with (first | ((with_reducible refine gate_dst (N := 6) rfl ?_); refine var_event (W1 := ?w1_6_3) (N := 6) (cs := #[.string (rdFun x.funcs i).name, .slice B1 (rdFun x.funcs i).params.length b1, .slice B2 (rdFun x.funcs i).body.length b2, .int .i64 (rdFun x.funcs i).pos.line, .int .i64 (rdFun x.funcs i).pos.col]) (t := 41) ?hg ?hd ?hg2 ?hd2 ?hr ?hr2 ?_; (case hd => rfl); (case hg => rfl); (case hd2 => rfl); (case hg2 => rfl); (case hr => first | (go_simp; done) | (go_simp; rfl)); (case hr2 => first | (go_simp; done) | (go_simp; rfl)); intro g6 hgE_ W1 hbox_ hb_; replace HBL := Aside0.mk (below_step HBL.out hb_); replace HPA := Aside0.mk (Kd.C_below HPA.out hb_); replace HBO := Aside0.mk (Kd.C_below HBO.out hb_); have BKg6 := Aside0.mk hbox_; have cg6_0 : W1.cell? ⟨g6, 0, none⟩ = some (.string (rdFun x.funcs i).name) := (blk_cell BKg6.out 0).trans rfl; have cg6_1 : W1.cell? ⟨g6, 1, none⟩ = some (.slice B1 (rdFun x.funcs i).params.length b1) := (blk_cell BKg6.out 1).trans rfl; have cg6_2 : W1.cell? ⟨g6, 2, none⟩ = some (.slice B2 (rdFun x.funcs i).body.length b2) := (blk_cell BKg6.out 2).trans rfl; have cg6_3 : W1.cell? ⟨g6, 3, none⟩ = some (.int .i64 (rdFun x.funcs i).pos.line) := (blk_cell BKg6.out 3).trans rfl; have cg6_4 : W1.cell? ⟨g6, 4, none⟩ = some (.int .i64 (rdFun x.funcs i).pos.col) := (blk_cell BKg6.out 4).trans rfl; clear hb_ hbox_ hgE_) | (go_at_call 14; (with_reducible refine (fews_any (rdFun x.funcs i).body 0 _ _ _ _ HBO.out (by decide) (by decide)).mono ?_); rintro e W2 ⟨rfl, hb_⟩; rw [VB.out]; replace HBL := Aside0.mk (below_step HBL.out hb_); replace BKg6 := Aside0.mk (blk_below BKg6.out hb_); replace cg6_0 : W2.cell? ⟨g6, 0, none⟩ = some (.string (rdFun x.funcs i).name) := (blk_cell BKg6.out 0).trans rfl; replace cg6_1 : W2.cell? ⟨g6, 1, none⟩ = some (.slice B1 (rdFun x.funcs i).params.length b1) := (blk_cell BKg6.out 1).trans rfl; replace cg6_2 : W2.cell? ⟨g6, 2, none⟩ = some (.slice B2 (rdFun x.funcs i).body.length b2) := (blk_cell BKg6.out 2).trans rfl; replace cg6_3 : W2.cell? ⟨g6, 3, none⟩ = some (.int .i64 (rdFun x.funcs i).pos.line) := (blk_cell BKg6.out 3).trans rfl; replace cg6_4 : W2.cell? ⟨g6, 4, none⟩ = some (.int .i64 (rdFun x.funcs i).pos.col) := (blk_cell BKg6.out 4).trans rfl; replace HPA := Aside0.mk (Kd.C_below HPA.out hb_); replace HBO := Aside0.mk (Kd.C_below HBO.out hb_); clear hb_ ))
            go_ret
            refine ⟨?_, below_step HB.out HBL.out⟩
            rw [HNO.out (by rw [fewF, VB.out]; simp)]
            rfl
          | true =>
          have VB := Aside0.mk hvb
          have HST := Aside0.mk (show fewF (rdFun x.funcs i) = (rdFun x.funcs i).params.all fun s => decide (s.size ≤ 40) by rw [fewF, hvb, decide_eq_true c3, decide_eq_true c4, Bool.true_and, Bool.true_and, Bool.true_and])
          clear hvb c3 c4
          go_wp2_with (first | ((with_reducible refine gate_dst (N := 6) rfl ?_); refine var_event (W1 := ?w1_6_4) (N := 6) (cs := #[.string (rdFun x.funcs i).name, .slice B1 (rdFun x.funcs i).params.length b1, .slice B2 (rdFun x.funcs i).body.length b2, .int .i64 (rdFun x.funcs i).pos.line, .int .i64 (rdFun x.funcs i).pos.col]) (t := 41) ?hg ?hd ?hg2 ?hd2 ?hr ?hr2 ?_; (case hd => rfl); (case hg => rfl); (case hd2 => rfl); (case hg2 => rfl); (case hr => first | (go_simp; done) | (go_simp; rfl)); (case hr2 => first | (go_simp; done) | (go_simp; rfl)); intro g6 hgE_ W1 hbox_ hb_; replace HBL := Aside0.mk (below_step HBL.out hb_); replace HPA := Aside0.mk (Kd.C_below HPA.out hb_); replace HBO := Aside0.mk (Kd.C_below HBO.out hb_); have BKg6 := Aside0.mk hbox_; have cg6_0 : W1.cell? ⟨g6, 0, none⟩ = some (.string (rdFun x.funcs i).name) := (blk_cell BKg6.out 0).trans rfl; have cg6_1 : W1.cell? ⟨g6, 1, none⟩ = some (.slice B1 (rdFun x.funcs i).params.length b1) := (blk_cell BKg6.out 1).trans rfl; have cg6_2 : W1.cell? ⟨g6, 2, none⟩ = some (.slice B2 (rdFun x.funcs i).body.length b2) := (blk_cell BKg6.out 2).trans rfl; have cg6_3 : W1.cell? ⟨g6, 3, none⟩ = some (.int .i64 (rdFun x.funcs i).pos.line) := (blk_cell BKg6.out 3).trans rfl; have cg6_4 : W1.cell? ⟨g6, 4, none⟩ = some (.int .i64 (rdFun x.funcs i).pos.col) := (blk_cell BKg6.out 4).trans rfl; clear hb_ hbox_ hgE_) | (go_at_call 14; (with_reducible refine (fews_any (rdFun x.funcs i).body 0 _ _ _ _ HBO.out (by decide) (by decide)).mono ?_); rintro e W2 ⟨rfl, hb_⟩; rw [VB.out]; replace HBL := Aside0.mk (below_step HBL.out hb_); replace BKg6 := Aside0.mk (blk_below BKg6.out hb_); replace cg6_0 : W2.cell? ⟨g6, 0, none⟩ = some (.string (rdFun x.funcs i).name) := (blk_cell BKg6.out 0).trans rfl; replace cg6_1 : W2.cell? ⟨g6, 1, none⟩ = some (.slice B1 (rdFun x.funcs i).params.length b1) := (blk_cell BKg6.out 1).trans rfl; replace cg6_2 : W2.cell? ⟨g6, 2, none⟩ = some (.slice B2 (rdFun x.funcs i).body.length b2) := (blk_cell BKg6.out 2).trans rfl; replace cg6_3 : W2.cell? ⟨g6, 3, none⟩ = some (.int .i64 (rdFun x.funcs i).pos.line) := (blk_cell BKg6.out 3).trans rfl; replace cg6_4 : W2.cell? ⟨g6, 4, none⟩ = some (.int .i64 (rdFun x.funcs i).pos.col) := (blk_cell BKg6.out 4).trans rfl; replace HPA := Aside0.mk (Kd.C_below HPA.out hb_); replace HBO := Aside0.mk (Kd.C_below HBO.out hb_); clear hb_ ))
          clear cg6_0 cg6_1 cg6_2 cg6_3 cg6_4 BKg6
          go_loopg [57] (rdFun x.funcs i).params.length (fun kq v57 w' => ∃ j : Int, v57 = .int .i64 j ∧ 0 ≤ j ∧ kq + j.toNat = (rdFun x.funcs i).params.length ∧ Aside0 (∀ q, q < j.toNat → decide (((rdFun x.funcs i).params.getD q ByteArray.empty).size ≤ 40) = true) ∧ w' = W2)
          case atStart => exact ⟨0, rfl, by omega, by simp, ⟨fun j hj => absurd hj (by simp)⟩, rfl⟩
          case round =>
            obtain ⟨j, rfl, hj0, hkj, HSJ, rfl⟩ := hrel
            cases gk with
            | zero =>
              have hgj : decide (j < ((rdFun x.funcs i).params.length : Int)) = false := by simp; omega
              go_wp2_with fail
              go_roundg k2_
              case measure => omega
              case rel =>
                refine ⟨i + 1, rfl, by omega, by omega, ⟨fun q hq => ?_⟩, HBL⟩
                by_cases hqi : q < i.toNat
                · exact HS.out q hqi
                · obtain rfl : q = i.toNat := by omega
                  exact HST.out.trans (all_true (fun s : ByteArray => decide (s.size ≤ 40)) ByteArray.empty (rdFun x.funcs i).params (fun q hq => HSJ.out q (by omega)))
            | succ k3_ =>
              have hj1 : j < ((rdFun x.funcs i).params.length : Int) := by omega
              obtain ⟨bd, fa, f0⟩ := atStr HPA.out j hj0 hj1
              obtain rfl := fa
              by_cases c5_ : ¬ ((rdStr (rdFun x.funcs i).params j).size ≤ 40)
              · have k5 : decide (40 < ((rdStr (rdFun x.funcs i).params j).size : Int)) = true := by simp; omega
                have V := Aside0.mk (decide_eq_false c5_)
                clear c5_
                go_wp2_with fail
                go_ret
                refine ⟨?_, below_step HB.out HBL.out⟩
                rw [HNO.out (HST.out.trans (all_false (fun s : ByteArray => decide (s.size ≤ 40)) ByteArray.empty (rdFun x.funcs i).params j.toNat (by omega) V.out))]
                rfl
              · have c5 := Decidable.not_not.1 c5_
                have k5 : decide (40 < ((rdStr (rdFun x.funcs i).params j).size : Int)) = false := by simp; omega
                have V := Aside0.mk (decide_eq_true c5)
                clear c5_ c5
                go_wp2_with fail
                go_roundg k3_
                case measure => omega
                case rel =>
                  refine ⟨j + 1, rfl, by omega, by omega, ⟨fun q hq => ?_⟩, rfl⟩
                  by_cases hqj : q < j.toNat
                  · exact HSJ.out q hqj
                  · obtain rfl : q = j.toNat := by omega
                    exact V.out
    | succ k1_ =>
      have hi1 : i < (x.globals.length : Int) := by omega
      obtain ⟨ad, ea, e0, e1, e2, e3, e4, em0⟩ := atGlobal (Kd.C_below HG.out HBL.out) i hi0 hi1
      obtain rfl := ea
      have hno : fewG (rdGlobal x.globals i) = false → fewP x = false := fun h => HV.out.trans (by rw [all_false fewG zGlobal x.globals i.toNat (by omega) h, Bool.false_and])
      have HNO := Aside0.mk hno
      clear hno em0
      by_cases c3_ : ¬ ((rdGlobal x.globals i).name.size ≤ 40)
      · have k3 : decide (40 < ((rdGlobal x.globals i).name.size : Int)) = true := by simp; omega
        have V := Aside0.mk (decide_eq_false c3_)
        clear c3_
        go_wp2_with (first | ((with_reducible refine gate_dst (N := 4) rfl ?_); refine var_event (W1 := ?w1_4_1) (N := 4) (cs := #[.string (rdGlobal x.globals i).name, .int .i64 (rdGlobal x.globals i).hold, .int .i64 (rdGlobal x.globals i).size, .int .i64 (rdGlobal x.globals i).pos.line, .int .i64 (rdGlobal x.globals i).pos.col]) (t := 54) ?hg ?hd ?hg2 ?hd2 ?hr ?hr2 ?_; (case hd => rfl); (case hg => rfl); (case hd2 => rfl); (case hg2 => rfl); (case hr => first | (go_simp; done) | (go_simp; rfl)); (case hr2 => first | (go_simp; done) | (go_simp; rfl)); intro g4 hgE_ W1 hbox_ hb_; replace HBL := Aside0.mk (below_step HBL.out hb_); have BKg4 := Aside0.mk hbox_; have cg4_0 : W1.cell? ⟨g4, 0, none⟩ = some (.string (rdGlobal x.globals i).name) := (blk_cell BKg4.out 0).trans rfl; have cg4_1 : W1.cell? ⟨g4, 1, none⟩ = some (.int .i64 (rdGlobal x.globals i).hold) := (blk_cell BKg4.out 1).trans rfl; have cg4_2 : W1.cell? ⟨g4, 2, none⟩ = some (.int .i64 (rdGlobal x.globals i).size) := (blk_cell BKg4.out 2).trans rfl; have cg4_3 : W1.cell? ⟨g4, 3, none⟩ = some (.int .i64 (rdGlobal x.globals i).pos.line) := (blk_cell BKg4.out 3).trans rfl; have cg4_4 : W1.cell? ⟨g4, 4, none⟩ = some (.int .i64 (rdGlobal x.globals i).pos.col) := (blk_cell BKg4.out 4).trans rfl; clear hb_ hbox_ hgE_))
        go_ret
        refine ⟨?_, below_step HB.out HBL.out⟩
        rw [HNO.out (by rw [fewG, V.out])]
        rfl
      · have c3 := Decidable.not_not.1 c3_
        have V := Aside0.mk (decide_eq_true c3)
        have k3 : decide (40 < ((rdGlobal x.globals i).name.size : Int)) = false := by simp; omega
        clear c3_ c3
        go_wp2_with (first | ((with_reducible refine gate_dst (N := 4) rfl ?_); refine var_event (W1 := ?w1_4_2) (N := 4) (cs := #[.string (rdGlobal x.globals i).name, .int .i64 (rdGlobal x.globals i).hold, .int .i64 (rdGlobal x.globals i).size, .int .i64 (rdGlobal x.globals i).pos.line, .int .i64 (rdGlobal x.globals i).pos.col]) (t := 54) ?hg ?hd ?hg2 ?hd2 ?hr ?hr2 ?_; (case hd => rfl); (case hg => rfl); (case hd2 => rfl); (case hg2 => rfl); (case hr => first | (go_simp; done) | (go_simp; rfl)); (case hr2 => first | (go_simp; done) | (go_simp; rfl)); intro g4 hgE_ W1 hbox_ hb_; replace HBL := Aside0.mk (below_step HBL.out hb_); have BKg4 := Aside0.mk hbox_; have cg4_0 : W1.cell? ⟨g4, 0, none⟩ = some (.string (rdGlobal x.globals i).name) := (blk_cell BKg4.out 0).trans rfl; have cg4_1 : W1.cell? ⟨g4, 1, none⟩ = some (.int .i64 (rdGlobal x.globals i).hold) := (blk_cell BKg4.out 1).trans rfl; have cg4_2 : W1.cell? ⟨g4, 2, none⟩ = some (.int .i64 (rdGlobal x.globals i).size) := (blk_cell BKg4.out 2).trans rfl; have cg4_3 : W1.cell? ⟨g4, 3, none⟩ = some (.int .i64 (rdGlobal x.globals i).pos.line) := (blk_cell BKg4.out 3).trans rfl; have cg4_4 : W1.cell? ⟨g4, 4, none⟩ = some (.int .i64 (rdGlobal x.globals i).pos.col) := (blk_cell BKg4.out 4).trans rfl; clear hb_ hbox_ hgE_))
        go_roundg k1_
        case measure => omega
        case rel =>
          refine ⟨i + 1, rfl, by omega, by omega, ⟨fun q hq => ?_⟩, HBL⟩
          by_cases hqi : q < i.toNat
          · exact HS.out q hqi
          · obtain rfl : q = i.toNat := by omega
            exact V.out
end Go.Proofs.YtpbeplepcbhamaaDoor
