/- The operation that a mark writes, and two expressions with a mark between: what op and both compute. -/
import Derived.Test.YtgenlgfbjlclbaaDoorFr
namespace Go.Proofs.YtgenlgfbjlclbaaDoor
open Go.RowKit Go.Proofs.YtgenlgfbjlclbaaDoorW.PrintWords Go.Proofs.YtgenlgfbjlclbaaDoorW.PrintLast Go.Proofs.YtgenlgfbjlclbaaDoorW.PrintMore
set_option linter.unusedVariables false
set_option linter.unusedSimpArgs false

theorem opL_at : ∀ k : Nat, k < 15 → 1 ≤ k → opL (sgnL.getD k []) = ((k : Int), false) := by decide
theorem opL_none (l : Bytes) (h1 : l ≠ [62]) (h2 : l ≠ [62, 61]) (h : ∀ j, 1 ≤ j → j < 15 → sgnL.getD j [] ≠ l) : opL l = (0, false) := by
  have hn : opsL.findIdx? (· == l) = none := by
    rw [List.findIdx?_eq_none_iff]
    intro x hx
    have hd : ∀ x, x ∈ opsL → ∃ j, j < 15 ∧ 1 ≤ j ∧ sgnL.getD j [] = x := by decide
    obtain ⟨j, hj, hj1, rfl⟩ := hd x hx
    exact beq_eq_false_iff_ne.2 (h j hj1 hj)
  rw [opL, if_neg h1, if_neg h2, hn]
theorem sign_list (k : Nat) (h : k < 15) : (signOf (k : Int)).toList = sgnL.getD k [] := by
  rw [Lib.toList_data, signOf, if_neg (by omega)]
  rfl
set_option maxRecDepth 100000 in
set_option maxHeartbeats 1600000 in
theorem op_calls (m : ByteArray) (w : World) (hg : Glob w) :
    Calls Tryd.prog 97 #[.string m] w fun e w' => e = .returned (.tuple #[.int .i64 (opL m.data.toList).1, .bool (opL m.data.toList).2]) ∧ w' = w := by
  obtain ⟨l, hl⟩ : ∃ l, l = m.data.toList := ⟨_, rfl⟩
  rw [← hl]
  have hml : m.toList = l := by rw [Lib.toList_data, hl]
  by_cases h1 : l = [62]
  · have k1 : (m.toList == [62]) = true := by rw [hml]; exact beq_iff_eq.2 h1
    have HV := Lib.hid (show opL l = (13, true) by rw [h1]; rfl)
    clear h1 hml hl
    go_enter Tryd.func97, Tryd.ntmps97
    go_wp2
    go_ret2
    rw [HV.out]
    exact ⟨rfl, rfl⟩
  have k1 : (m.toList == [62]) = false := by rw [hml]; exact beq_eq_false_iff_ne.2 h1
  by_cases h2 : l = [62, 61]
  · have k2 : (m.toList == [62, 61]) = true := by rw [hml]; exact beq_iff_eq.2 h2
    have HV := Lib.hid (show opL l = (14, true) by rw [h2]; rfl)
    clear h1 h2 hml hl
    go_enter Tryd.func97, Tryd.ntmps97
    go_wp2
    go_ret2
    rw [HV.out]
    exact ⟨rfl, rfl⟩
  have k2 : (m.toList == [62, 61]) = false := by rw [hml]; exact beq_eq_false_iff_ne.2 h2
  have H1 := Lib.hid h1
  have H2 := Lib.hid h2
  have HML := Lib.hid hml
  clear h1 h2 hml hl
  go_enter Tryd.func97, Tryd.ntmps97
  go_wp2
  go_loopg [4] 14 (fun kq v4 w' => ∃ k : Nat, v4 = .int .i64 k ∧ kq + k = 15 ∧ 1 ≤ k ∧ Aside0 (∀ j, 1 ≤ j → j < k → sgnL.getD j [] ≠ l) ∧ w' = w)
  case atStart => exact ⟨1, rfl, by omega, by omega, ⟨fun j h1 h2 => by omega⟩, rfl⟩
  case round =>
    obtain ⟨k, rfl, hk, hk1, HNO, rfl⟩ := hrel
    cases gk with
    | zero =>
      have hge : decide ((k : Int) ≤ 14) = false := by simp; omega
      have HV := Lib.hid (opL_none l H1.out H2.out (fun j h1 h2 => HNO.out j h1 (by omega)))
      go_wp2
      go_ret2
      rw [HV.out]
      exact ⟨rfl, rfl⟩
    | succ k1_ =>
      have hlt : decide ((k : Int) ≤ 14) = true := by simp; omega
      have hsl := sign_list k (by omega)
      cases hx : ((signOf (k : Int)).toList == m.toList) with
      | true =>
        have hv : sgnL.getD k [] = l := by rw [← hsl, ← HML.out]; exact beq_iff_eq.1 hx
        have HV := Lib.hid (show opL l = ((k : Int), false) by rw [← hv]; exact opL_at k (by omega) hk1)
        clear hsl hv
        go_wp2_with (first | (go_at_call 29; (with_reducible refine (sign_calls _ _ hg).mono ?_); rintro e w_ ⟨rfl, hw_⟩; replace hw_ := hw_.symm; subst hw_))
        go_ret2
        rw [HV.out]
        exact ⟨rfl, rfl⟩
      | false =>
        have HN := Lib.hid (show sgnL.getD k [] ≠ l by
          rw [← hsl, ← HML.out]
          intro e
          rw [e] at hx
          simp at hx)
        clear hsl
        go_wp2_with (first | (go_at_call 29; (with_reducible refine (sign_calls _ _ hg).mono ?_); rintro e w_ ⟨rfl, hw_⟩; replace hw_ := hw_.symm; subst hw_))
        go_roundg k1_
        case measure => omega
        case rel =>
          refine ⟨k + 1, rfl, by omega, by omega, ⟨fun j h1 h2 => ?_⟩, rfl⟩
          by_cases e : j = k
          · rw [e]; exact HN.out
          · exact HNO.out j h1 (by omega)

set_option maxRecDepth 100000 in
set_option maxHeartbeats 6400000 in
theorem both_calls (m : ByteArray) (q : Pos) (x y : Expr) (A B : Option Addr) (c d : Nat) (ok : Nat → Prop) (w : World) (hx : Kd.FK kExpr w ok x [.int .i64 x.kind, .int .i64 x.pos.line, .int .i64 x.pos.col, .int .i64 x.num, .string x.name, .int .i64 x.op, .slice A x.kids.length c]) (hy : Kd.FK kExpr w ok y [.int .i64 y.kind, .int .i64 y.pos.line, .int .i64 y.pos.col, .int .i64 y.num, .string y.name, .int .i64 y.op, .slice B y.kids.length d]) (hg : Glob w) :
    Calls Tryd.prog 94 #[.string m, .agg #[.int .i64 q.line, .int .i64 q.col], .agg #[.int .i64 x.kind, .int .i64 x.pos.line, .int .i64 x.pos.col, .int .i64 x.num, .string x.name, .int .i64 x.op, .slice A x.kids.length c], .agg #[.int .i64 y.kind, .int .i64 y.pos.line, .int .i64 y.pos.col, .int .i64 y.num, .string y.name, .int .i64 y.op, .slice B y.kids.length d]] w fun e w' => ∃ A6 c6, e = .returned (.agg #[.int .i64 (bothL m.data.toList q x y).kind, .int .i64 (bothL m.data.toList q x y).pos.line, .int .i64 (bothL m.data.toList q x y).pos.col, .int .i64 (bothL m.data.toList q x y).num, .string (bothL m.data.toList q x y).name, .int .i64 (bothL m.data.toList q x y).op, .slice A6 (bothL m.data.toList q x y).kids.length c6]) ∧
      Kd.FK kExpr w' (fun k => ok k ∨ w.heap.size ≤ k) (bothL m.data.toList q x y) [.int .i64 (bothL m.data.toList q x y).kind, .int .i64 (bothL m.data.toList q x y).pos.line, .int .i64 (bothL m.data.toList q x y).pos.col, .int .i64 (bothL m.data.toList q x y).num, .string (bothL m.data.toList q x y).name, .int .i64 (bothL m.data.toList q x y).op, .slice A6 (bothL m.data.toList q x y).kids.length c6] ∧ Below w.heap.size w w' := by
  obtain ⟨okx, F1⟩ := (Fq.start (w := w) (fun k => ok k ∨ w.heap.size ≤ k) (fun k h => .inr h)).came hx (fun k h => .inl h)
  obtain ⟨oky, F2⟩ := F1.came hy (fun k h => .inl h)
  have FR := Aside0.mk F2
  have C := F2.c0
  clear F1 F2
  obtain ⟨l, hl⟩ : ∃ l, l = m.data.toList := ⟨_, rfl⟩
  have hml : m.toList = l := by rw [Lib.toList_data, hl]
  clear hx hy
  by_cases h1 : l = [38, 38]
  · have k1 : (m.toList == [38, 38]) = true := by rw [hml]; exact beq_iff_eq.2 h1
    have HV := Lib.hid (show bothL m.data.toList q x y = ⟨7, q, 0, ⟨#[]⟩, 0, [x, y]⟩ by rw [← hl, bothL, if_pos h1])
    clear h1 hml hl
    go_enter Tryd.func94, Tryd.ntmps94
    go_wp2_with (first | ((with_reducible refine gate_dst (N := 5) rfl ?_); refine FR.out.boxE (N := 5) #[.int .i64 q.line, .int .i64 q.col] 32 (by rfl) (by rfl) ?hr ?_; (case hr => first | (go_simp; done) | (go_simp; rfl)); intro b5 andW1 f_; replace FR := Aside0.mk f_; replace C := f_.c1; clear f_) | ((with_reducible refine gate_dst (N := 6) rfl ?_); refine FR.out.boxE (N := 6) #[.int .i64 x.kind, .int .i64 x.pos.line, .int .i64 x.pos.col, .int .i64 x.num, .string x.name, .int .i64 x.op, .slice A x.kids.length c] 51 (by rfl) (by rfl) ?hr ?_; (case hr => first | (go_simp; done) | (go_simp; rfl)); intro b6 andW2 f_; replace FR := Aside0.mk f_; replace C := f_.c2; clear f_) | ((with_reducible refine gate_dst (N := 7) rfl ?_); refine FR.out.boxE (N := 7) #[.int .i64 y.kind, .int .i64 y.pos.line, .int .i64 y.pos.col, .int .i64 y.num, .string y.name, .int .i64 y.op, .slice B y.kids.length d] 51 (by rfl) (by rfl) ?hr ?_; (case hr => first | (go_simp; done) | (go_simp; rfl)); intro b7 andW3 f_; replace FR := Aside0.mk f_; replace C := f_.c3; clear f_) | ((with_reducible refine gate_dst (N := 8) rfl ?_); refine FR.out.boxE (N := 8) #[.int .i64 0, .int .i64 0, .int .i64 0, .int .i64 0, .string ⟨#[]⟩, .int .i64 0, .slice none 0 0] 51 (by rfl) (by rfl) ?hr ?_; (case hr => first | (go_simp; done) | (go_simp; rfl)); intro b8 andW4 f_; replace FR := Aside0.mk f_; replace C := f_.c4; clear f_) | ((with_reducible refine gate_dst (N := 15) rfl ?_); refine FR.out.lit2E kExpr 51 (N := 15) [x, y] [.int .i64 x.kind, .int .i64 x.pos.line, .int .i64 x.pos.col, .int .i64 x.num, .string x.name, .int .i64 x.op, .slice A x.kids.length c, .int .i64 y.kind, .int .i64 y.pos.line, .int .i64 y.pos.col, .int .i64 y.num, .string y.name, .int .i64 y.op, .slice B y.kids.length d] (by rfl) (by rfl) ?hr (fun hy hx => reps2 (c1 := [.int .i64 x.kind, .int .i64 x.pos.line, .int .i64 x.pos.col, .int .i64 x.num, .string x.name, .int .i64 x.op, .slice A x.kids.length c]) (c2 := [.int .i64 y.kind, .int .i64 y.pos.line, .int .i64 y.pos.col, .int .i64 y.num, .string y.name, .int .i64 y.op, .slice B y.kids.length d]) hx hy rfl rfl) (show 2 ≤ 9223372036854775807 by decide) ?_; (case hr => first | (go_simp; done) | (go_simp; rfl)); intro A_l c_l andW5 okl f_; replace FR := Aside0.mk f_; replace C := f_.c4; clear f_) | ((with_reducible refine gate_dst (N := 9) rfl ?_); refine FR.out.varE (W1 := ?_) (N := 9) #[.int .i64 0, .int .i64 q.line, .int .i64 q.col, .int .i64 0, .string ⟨#[]⟩, .int .i64 0, .slice A_l 2 c_l] 51 (by rfl) (by rfl) (by rfl) (by rfl) ?hr ?hs ?_; (case hr => first | (go_simp; done) | (go_simp; rfl)); (case hs => first | (go_simp; done) | (go_simp; rfl)); intro b9 andW6 f_; replace FR := Aside0.mk f_; replace C := f_.c5; clear f_) | ((with_reducible refine gate_store (t := 48) (p := 33) (v := .const (.int .i64 7)) rfl ?_); refine FR.out.p1 (W1 := ?_) #[.int .i64 7, .int .i64 q.line, .int .i64 q.col, .int .i64 0, .string ⟨#[]⟩, .int .i64 0, .slice A_l 2 c_l] (by rfl) (by rfl) ?hr ?hk ?hb ?_; (case hr => first | (go_simp; done) | (go_simp; rfl)); (case hk => exact (Chg.refl _ _).set _ _); (case hb => exact fun h => blk_put h 0 _ rfl); intro andW7 f_; replace FR := Aside0.mk f_; replace C := f_.c5; clear f_) | ((with_reducible refine gate_store (t := 51) (p := 8) (v := .tmp 37) rfl ?_); refine FR.out.s2 [.int .i64 7, .int .i64 q.line, .int .i64 q.col, .int .i64 0, .string ⟨#[]⟩, .int .i64 0, .slice A_l 2 c_l] (by rfl) (by rfl) ?hr (by rfl) ?_; (case hr => first | (go_simp; done) | (go_simp; rfl)); intro andW8 f_; replace FR := Aside0.mk f_; replace C := f_.c5; clear f_))
    refine bodyPost_ret (results_cell_row rfl _ _ b8 _ _ (0, 0) _ rfl FR.out.b2 Tryd.underlying51 rfl (by kernel_rfl)) rfl ?_
    refine ⟨A_l, c_l, by rw [HV.out]; rfl, ?_, FR.out.bl⟩
    rw [HV.out]
    exact Foot.imp FR.out.v1 (fun W h => kExpr_mk W ⟨7, q, 0, ⟨#[]⟩, 0, [x, y]⟩ wf_zero h.1 h.2)
  have k1 : (m.toList == [38, 38]) = false := by rw [hml]; exact beq_eq_false_iff_ne.2 h1
  by_cases h2 : l = [124, 124]
  · have k2 : (m.toList == [124, 124]) = true := by rw [hml]; exact beq_iff_eq.2 h2
    have HV := Lib.hid (show bothL m.data.toList q x y = ⟨8, q, 0, ⟨#[]⟩, 0, [x, y]⟩ by rw [← hl, bothL, if_neg h1, if_pos h2])
    clear h1 h2 hml hl
    go_enter Tryd.func94, Tryd.ntmps94
    go_wp2_with (first | ((with_reducible refine gate_dst (N := 5) rfl ?_); refine FR.out.boxE (N := 5) #[.int .i64 q.line, .int .i64 q.col] 32 (by rfl) (by rfl) ?hr ?_; (case hr => first | (go_simp; done) | (go_simp; rfl)); intro b5 orW1 f_; replace FR := Aside0.mk f_; replace C := f_.c1; clear f_) | ((with_reducible refine gate_dst (N := 6) rfl ?_); refine FR.out.boxE (N := 6) #[.int .i64 x.kind, .int .i64 x.pos.line, .int .i64 x.pos.col, .int .i64 x.num, .string x.name, .int .i64 x.op, .slice A x.kids.length c] 51 (by rfl) (by rfl) ?hr ?_; (case hr => first | (go_simp; done) | (go_simp; rfl)); intro b6 orW2 f_; replace FR := Aside0.mk f_; replace C := f_.c2; clear f_) | ((with_reducible refine gate_dst (N := 7) rfl ?_); refine FR.out.boxE (N := 7) #[.int .i64 y.kind, .int .i64 y.pos.line, .int .i64 y.pos.col, .int .i64 y.num, .string y.name, .int .i64 y.op, .slice B y.kids.length d] 51 (by rfl) (by rfl) ?hr ?_; (case hr => first | (go_simp; done) | (go_simp; rfl)); intro b7 orW3 f_; replace FR := Aside0.mk f_; replace C := f_.c3; clear f_) | ((with_reducible refine gate_dst (N := 8) rfl ?_); refine FR.out.boxE (N := 8) #[.int .i64 0, .int .i64 0, .int .i64 0, .int .i64 0, .string ⟨#[]⟩, .int .i64 0, .slice none 0 0] 51 (by rfl) (by rfl) ?hr ?_; (case hr => first | (go_simp; done) | (go_simp; rfl)); intro b8 orW4 f_; replace FR := Aside0.mk f_; replace C := f_.c4; clear f_) | ((with_reducible refine gate_dst (N := 15) rfl ?_); refine FR.out.lit2E kExpr 51 (N := 15) [x, y] [.int .i64 x.kind, .int .i64 x.pos.line, .int .i64 x.pos.col, .int .i64 x.num, .string x.name, .int .i64 x.op, .slice A x.kids.length c, .int .i64 y.kind, .int .i64 y.pos.line, .int .i64 y.pos.col, .int .i64 y.num, .string y.name, .int .i64 y.op, .slice B y.kids.length d] (by rfl) (by rfl) ?hr (fun hy hx => reps2 (c1 := [.int .i64 x.kind, .int .i64 x.pos.line, .int .i64 x.pos.col, .int .i64 x.num, .string x.name, .int .i64 x.op, .slice A x.kids.length c]) (c2 := [.int .i64 y.kind, .int .i64 y.pos.line, .int .i64 y.pos.col, .int .i64 y.num, .string y.name, .int .i64 y.op, .slice B y.kids.length d]) hx hy rfl rfl) (show 2 ≤ 9223372036854775807 by decide) ?_; (case hr => first | (go_simp; done) | (go_simp; rfl)); intro A_l c_l orW5 okl f_; replace FR := Aside0.mk f_; replace C := f_.c4; clear f_) | ((with_reducible refine gate_dst (N := 9) rfl ?_); refine FR.out.varE (W1 := ?_) (N := 9) #[.int .i64 0, .int .i64 q.line, .int .i64 q.col, .int .i64 0, .string ⟨#[]⟩, .int .i64 0, .slice A_l 2 c_l] 51 (by rfl) (by rfl) (by rfl) (by rfl) ?hr ?hs ?_; (case hr => first | (go_simp; done) | (go_simp; rfl)); (case hs => first | (go_simp; done) | (go_simp; rfl)); intro b9 orW6 f_; replace FR := Aside0.mk f_; replace C := f_.c5; clear f_) | ((with_reducible refine gate_store (t := 48) (p := 36) (v := .const (.int .i64 8)) rfl ?_); refine FR.out.p1 (W1 := ?_) #[.int .i64 8, .int .i64 q.line, .int .i64 q.col, .int .i64 0, .string ⟨#[]⟩, .int .i64 0, .slice A_l 2 c_l] (by rfl) (by rfl) ?hr ?hk ?hb ?_; (case hr => first | (go_simp; done) | (go_simp; rfl)); (case hk => exact (Chg.refl _ _).set _ _); (case hb => exact fun h => blk_put h 0 _ rfl); intro orW7 f_; replace FR := Aside0.mk f_; replace C := f_.c5; clear f_) | ((with_reducible refine gate_store (t := 51) (p := 8) (v := .tmp 37) rfl ?_); refine FR.out.s2 [.int .i64 8, .int .i64 q.line, .int .i64 q.col, .int .i64 0, .string ⟨#[]⟩, .int .i64 0, .slice A_l 2 c_l] (by rfl) (by rfl) ?hr (by rfl) ?_; (case hr => first | (go_simp; done) | (go_simp; rfl)); intro orW8 f_; replace FR := Aside0.mk f_; replace C := f_.c5; clear f_))
    refine bodyPost_ret (results_cell_row rfl _ _ b8 _ _ (0, 0) _ rfl FR.out.b2 Tryd.underlying51 rfl (by kernel_rfl)) rfl ?_
    refine ⟨A_l, c_l, by rw [HV.out]; rfl, ?_, FR.out.bl⟩
    rw [HV.out]
    exact Foot.imp FR.out.v1 (fun W h => kExpr_mk W ⟨8, q, 0, ⟨#[]⟩, 0, [x, y]⟩ wf_zero h.1 h.2)
  have k2 : (m.toList == [124, 124]) = false := by rw [hml]; exact beq_eq_false_iff_ne.2 h2
  obtain ⟨O, sw, hop⟩ : ∃ O sw, opL m.data.toList = (O, sw) := ⟨_, _, rfl⟩
  have hv : bothL m.data.toList q x y = ⟨6, q, 0, ⟨#[]⟩, O, if sw then [y, x] else [x, y]⟩ := by
    rw [bothL, if_neg (by rw [← hl]; exact h1), if_neg (by rw [← hl]; exact h2), hop]
  have HOP := Lib.hid hop
  cases sw with
  | false =>
    have HV := Lib.hid (show bothL m.data.toList q x y = ⟨6, q, 0, ⟨#[]⟩, O, [x, y]⟩ from hv)
    clear h1 h2 hml hl hop hv
    go_enter Tryd.func94, Tryd.ntmps94
    go_wp2_with (first | ((with_reducible refine gate_dst (N := 5) rfl ?_); refine FR.out.boxE (N := 5) #[.int .i64 q.line, .int .i64 q.col] 32 (by rfl) (by rfl) ?hr ?_; (case hr => first | (go_simp; done) | (go_simp; rfl)); intro b5 opW1 f_; replace FR := Aside0.mk f_; replace C := f_.c1; clear f_) | ((with_reducible refine gate_dst (N := 6) rfl ?_); refine FR.out.boxE (N := 6) #[.int .i64 x.kind, .int .i64 x.pos.line, .int .i64 x.pos.col, .int .i64 x.num, .string x.name, .int .i64 x.op, .slice A x.kids.length c] 51 (by rfl) (by rfl) ?hr ?_; (case hr => first | (go_simp; done) | (go_simp; rfl)); intro b6 opW2 f_; replace FR := Aside0.mk f_; replace C := f_.c2; clear f_) | ((with_reducible refine gate_dst (N := 7) rfl ?_); refine FR.out.boxE (N := 7) #[.int .i64 y.kind, .int .i64 y.pos.line, .int .i64 y.pos.col, .int .i64 y.num, .string y.name, .int .i64 y.op, .slice B y.kids.length d] 51 (by rfl) (by rfl) ?hr ?_; (case hr => first | (go_simp; done) | (go_simp; rfl)); intro b7 opW3 f_; replace FR := Aside0.mk f_; replace C := f_.c3; clear f_) | ((with_reducible refine gate_dst (N := 8) rfl ?_); refine FR.out.boxE (N := 8) #[.int .i64 0, .int .i64 0, .int .i64 0, .int .i64 0, .string ⟨#[]⟩, .int .i64 0, .slice none 0 0] 51 (by rfl) (by rfl) ?hr ?_; (case hr => first | (go_simp; done) | (go_simp; rfl)); intro b8 opW4 f_; replace FR := Aside0.mk f_; replace C := f_.c4; clear f_) | ((with_reducible refine gate_dst (N := 15) rfl ?_); refine FR.out.lit2E kExpr 51 (N := 15) [x, y] [.int .i64 x.kind, .int .i64 x.pos.line, .int .i64 x.pos.col, .int .i64 x.num, .string x.name, .int .i64 x.op, .slice A x.kids.length c, .int .i64 y.kind, .int .i64 y.pos.line, .int .i64 y.pos.col, .int .i64 y.num, .string y.name, .int .i64 y.op, .slice B y.kids.length d] (by rfl) (by rfl) ?hr (fun hy hx => reps2 (c1 := [.int .i64 x.kind, .int .i64 x.pos.line, .int .i64 x.pos.col, .int .i64 x.num, .string x.name, .int .i64 x.op, .slice A x.kids.length c]) (c2 := [.int .i64 y.kind, .int .i64 y.pos.line, .int .i64 y.pos.col, .int .i64 y.num, .string y.name, .int .i64 y.op, .slice B y.kids.length d]) hx hy rfl rfl) (show 2 ≤ 9223372036854775807 by decide) ?_; (case hr => first | (go_simp; done) | (go_simp; rfl)); intro A_l c_l opW5 okl f_; replace FR := Aside0.mk f_; replace C := f_.c4; clear f_) | ((with_reducible refine gate_dst (N := 9) rfl ?_); refine FR.out.varE (W1 := ?_) (N := 9) #[.int .i64 0, .int .i64 q.line, .int .i64 q.col, .int .i64 0, .string ⟨#[]⟩, .int .i64 0, .slice A_l 2 c_l] 51 (by rfl) (by rfl) (by rfl) (by rfl) ?hr ?hs ?_; (case hr => first | (go_simp; done) | (go_simp; rfl)); (case hs => first | (go_simp; done) | (go_simp; rfl)); intro b9 opW6 f_; replace FR := Aside0.mk f_; replace C := f_.c5; clear f_) | (go_at_call 97; (with_reducible refine (op_calls m _ (hg.below hg.size FR.out.bl)).mono ?_); rintro e w_ ⟨rfl, hw_⟩; replace hw_ := hw_.symm; subst hw_; rw [HOP.out]) | ((with_reducible refine gate_store (t := 48) (p := 24) (v := .const (.int .i64 6)) rfl ?_); refine FR.out.p1 (W1 := ?_) #[.int .i64 6, .int .i64 q.line, .int .i64 q.col, .int .i64 0, .string ⟨#[]⟩, .int .i64 0, .slice A_l 2 c_l] (by rfl) (by rfl) ?hr ?hk ?hb ?_; (case hr => first | (go_simp; done) | (go_simp; rfl)); (case hk => exact (Chg.refl _ _).set _ _); (case hb => exact fun h => blk_put h 0 _ rfl); intro opW7 f_; replace FR := Aside0.mk f_; replace C := f_.c5; clear f_) | ((with_reducible refine gate_store (t := 49) (p := 25) (v := .tmp 23) rfl ?_); refine FR.out.p1 (W1 := ?_) #[.int .i64 6, .int .i64 q.line, .int .i64 q.col, .int .i64 0, .string ⟨#[]⟩, .int .i64 O, .slice A_l 2 c_l] (by rfl) (by rfl) ?hr ?hk ?hb ?_; (case hr => first | (go_simp; done) | (go_simp; rfl)); (case hk => exact (Chg.refl _ _).set _ _); (case hb => exact fun h => blk_put h 5 _ rfl); intro opW8 f_; replace FR := Aside0.mk f_; replace C := f_.c5; clear f_) | ((with_reducible refine gate_store (t := 51) (p := 8) (v := .tmp 37) rfl ?_); refine FR.out.s2 [.int .i64 6, .int .i64 q.line, .int .i64 q.col, .int .i64 0, .string ⟨#[]⟩, .int .i64 O, .slice A_l 2 c_l] (by rfl) (by rfl) ?hr (by rfl) ?_; (case hr => first | (go_simp; done) | (go_simp; rfl)); intro opW9 f_; replace FR := Aside0.mk f_; replace C := f_.c5; clear f_))
    refine bodyPost_ret (results_cell_row rfl _ _ b8 _ _ (0, 0) _ rfl FR.out.b2 Tryd.underlying51 rfl (by kernel_rfl)) rfl ?_
    refine ⟨A_l, c_l, by rw [HV.out]; rfl, ?_, FR.out.bl⟩
    rw [HV.out]
    exact Foot.imp FR.out.v1 (fun W h => kExpr_mk W ⟨6, q, 0, ⟨#[]⟩, O, [x, y]⟩ wf_zero h.1 h.2)
  | true =>
    have HV := Lib.hid (show bothL m.data.toList q x y = ⟨6, q, 0, ⟨#[]⟩, O, [y, x]⟩ from hv)
    clear h1 h2 hml hl hop hv
    go_enter Tryd.func94, Tryd.ntmps94
    go_wp2_with (first | ((with_reducible refine gate_dst (N := 5) rfl ?_); refine FR.out.boxE (N := 5) #[.int .i64 q.line, .int .i64 q.col] 32 (by rfl) (by rfl) ?hr ?_; (case hr => first | (go_simp; done) | (go_simp; rfl)); intro b5 swapW1 f_; replace FR := Aside0.mk f_; replace C := f_.c1; clear f_) | ((with_reducible refine gate_dst (N := 6) rfl ?_); refine FR.out.boxE (N := 6) #[.int .i64 x.kind, .int .i64 x.pos.line, .int .i64 x.pos.col, .int .i64 x.num, .string x.name, .int .i64 x.op, .slice A x.kids.length c] 51 (by rfl) (by rfl) ?hr ?_; (case hr => first | (go_simp; done) | (go_simp; rfl)); intro b6 swapW2 f_; replace FR := Aside0.mk f_; replace C := f_.c2; clear f_) | ((with_reducible refine gate_dst (N := 7) rfl ?_); refine FR.out.boxE (N := 7) #[.int .i64 y.kind, .int .i64 y.pos.line, .int .i64 y.pos.col, .int .i64 y.num, .string y.name, .int .i64 y.op, .slice B y.kids.length d] 51 (by rfl) (by rfl) ?hr ?_; (case hr => first | (go_simp; done) | (go_simp; rfl)); intro b7 swapW3 f_; replace FR := Aside0.mk f_; replace C := f_.c3; clear f_) | ((with_reducible refine gate_dst (N := 8) rfl ?_); refine FR.out.boxE (N := 8) #[.int .i64 0, .int .i64 0, .int .i64 0, .int .i64 0, .string ⟨#[]⟩, .int .i64 0, .slice none 0 0] 51 (by rfl) (by rfl) ?hr ?_; (case hr => first | (go_simp; done) | (go_simp; rfl)); intro b8 swapW4 f_; replace FR := Aside0.mk f_; replace C := f_.c4; clear f_) | ((with_reducible refine gate_dst (N := 15) rfl ?_); refine FR.out.lit2E kExpr 51 (N := 15) [x, y] [.int .i64 x.kind, .int .i64 x.pos.line, .int .i64 x.pos.col, .int .i64 x.num, .string x.name, .int .i64 x.op, .slice A x.kids.length c, .int .i64 y.kind, .int .i64 y.pos.line, .int .i64 y.pos.col, .int .i64 y.num, .string y.name, .int .i64 y.op, .slice B y.kids.length d] (by rfl) (by rfl) ?hr (fun hy hx => reps2 (c1 := [.int .i64 x.kind, .int .i64 x.pos.line, .int .i64 x.pos.col, .int .i64 x.num, .string x.name, .int .i64 x.op, .slice A x.kids.length c]) (c2 := [.int .i64 y.kind, .int .i64 y.pos.line, .int .i64 y.pos.col, .int .i64 y.num, .string y.name, .int .i64 y.op, .slice B y.kids.length d]) hx hy rfl rfl) (show 2 ≤ 9223372036854775807 by decide) ?_; (case hr => first | (go_simp; done) | (go_simp; rfl)); intro A_l c_l swapW5 okl f_; replace FR := Aside0.mk f_; replace C := f_.c4; clear f_) | ((with_reducible refine gate_dst (N := 9) rfl ?_); refine FR.out.varE (W1 := ?_) (N := 9) #[.int .i64 0, .int .i64 q.line, .int .i64 q.col, .int .i64 0, .string ⟨#[]⟩, .int .i64 0, .slice A_l 2 c_l] 51 (by rfl) (by rfl) (by rfl) (by rfl) ?hr ?hs ?_; (case hr => first | (go_simp; done) | (go_simp; rfl)); (case hs => first | (go_simp; done) | (go_simp; rfl)); intro b9 swapW6 f_; replace FR := Aside0.mk f_; replace C := f_.c5; clear f_) | (go_at_call 97; (with_reducible refine (op_calls m _ (hg.below hg.size FR.out.bl)).mono ?_); rintro e w_ ⟨rfl, hw_⟩; replace hw_ := hw_.symm; subst hw_; rw [HOP.out]; replace FR := Aside0.mk FR.out.dropv) | ((with_reducible refine gate_store (t := 48) (p := 24) (v := .const (.int .i64 6)) rfl ?_); refine FR.out.p1 (W1 := ?_) #[.int .i64 6, .int .i64 q.line, .int .i64 q.col, .int .i64 0, .string ⟨#[]⟩, .int .i64 0, .slice A_l 2 c_l] (by rfl) (by rfl) ?hr ?hk ?hb ?_; (case hr => first | (go_simp; done) | (go_simp; rfl)); (case hk => exact (Chg.refl _ _).set _ _); (case hb => exact fun h => blk_put h 0 _ rfl); intro swapW7 f_; replace FR := Aside0.mk f_; replace C := f_.c5; clear f_) | ((with_reducible refine gate_store (t := 49) (p := 25) (v := .tmp 23) rfl ?_); refine FR.out.p1 (W1 := ?_) #[.int .i64 6, .int .i64 q.line, .int .i64 q.col, .int .i64 0, .string ⟨#[]⟩, .int .i64 O, .slice A_l 2 c_l] (by rfl) (by rfl) ?hr ?hk ?hb ?_; (case hr => first | (go_simp; done) | (go_simp; rfl)); (case hk => exact (Chg.refl _ _).set _ _); (case hb => exact fun h => blk_put h 5 _ rfl); intro swapW8 f_; replace FR := Aside0.mk f_; replace C := f_.c5; clear f_) | ((with_reducible refine gate_dst (N := 29) rfl ?_); refine FR.out.lit2E kExpr 51 (N := 29) [y, x] [.int .i64 y.kind, .int .i64 y.pos.line, .int .i64 y.pos.col, .int .i64 y.num, .string y.name, .int .i64 y.op, .slice B y.kids.length d, .int .i64 x.kind, .int .i64 x.pos.line, .int .i64 x.pos.col, .int .i64 x.num, .string x.name, .int .i64 x.op, .slice A x.kids.length c] (by rfl) (by rfl) ?hr (fun hy hx => reps2 (c1 := [.int .i64 y.kind, .int .i64 y.pos.line, .int .i64 y.pos.col, .int .i64 y.num, .string y.name, .int .i64 y.op, .slice B y.kids.length d]) (c2 := [.int .i64 x.kind, .int .i64 x.pos.line, .int .i64 x.pos.col, .int .i64 x.num, .string x.name, .int .i64 x.op, .slice A x.kids.length c]) hy hx rfl rfl) (show 2 ≤ 9223372036854775807 by decide) ?_; (case hr => first | (go_simp; done) | (go_simp; rfl)); intro A_m c_m swapW9 okm f_; replace FR := Aside0.mk f_; replace C := f_.c5; clear f_) | ((with_reducible refine gate_store (t := 43) (p := 30) (v := .tmp 29) rfl ?_); refine FR.out.p1 (W1 := ?_) #[.int .i64 6, .int .i64 q.line, .int .i64 q.col, .int .i64 0, .string ⟨#[]⟩, .int .i64 O, .slice A_m 2 c_m] (by rfl) (by rfl) ?hr ?hk ?hb ?_; (case hr => first | (go_simp; done) | (go_simp; rfl)); (case hk => exact (Chg.refl _ _).set _ _); (case hb => exact fun h => blk_put h 6 _ rfl); intro swapW10 f_; replace FR := Aside0.mk f_; replace C := f_.c5; clear f_) | ((with_reducible refine gate_store (t := 51) (p := 8) (v := .tmp 37) rfl ?_); refine FR.out.s2 [.int .i64 6, .int .i64 q.line, .int .i64 q.col, .int .i64 0, .string ⟨#[]⟩, .int .i64 O, .slice A_m 2 c_m] (by rfl) (by rfl) ?hr (by rfl) ?_; (case hr => first | (go_simp; done) | (go_simp; rfl)); intro swapW11 f_; replace FR := Aside0.mk f_; replace C := f_.c5; clear f_))
    refine bodyPost_ret (results_cell_row rfl _ _ b8 _ _ (0, 0) _ rfl FR.out.b2 Tryd.underlying51 rfl (by kernel_rfl)) rfl ?_
    refine ⟨A_m, c_m, by rw [HV.out]; rfl, ?_, FR.out.bl⟩
    rw [HV.out]
    exact Foot.imp FR.out.v1 (fun W h => kExpr_mk W ⟨6, q, 0, ⟨#[]⟩, O, [y, x]⟩ wf_zero h.1 h.2)
end Go.Proofs.YtgenlgfbjlclbaaDoor
