/- names: what it computes. -/
import Derived.Test.YtpbeplepcbhamaaDoorFew
import Derived.Test.YtpbeplepcbhamaaDoorMem
namespace Go.Proofs.YtpbeplepcbhamaaDoor
open Go.RowKit Go.Proofs.YtpbeplepcbhamaaDoorW.PrintWords Go.Proofs.YtpbeplepcbhamaaDoorW.PrintLast Go.Proofs.YtpbeplepcbhamaaDoorW.PrintMore
set_option linter.unusedVariables false
set_option linter.unusedSimpArgs false

/-- No new line and no tab. -/
def okB (c : UInt8) : Bool := c != 10 && c != 9
def okName (s : ByteArray) : Bool := s.data.toList.all okB
mutual
def namesE : Expr → Bool
  | ⟨_, _, _, name, _, kids⟩ => okName name && namesEs kids
def namesEs : List Expr → Bool
  | [] => true
  | x :: r => namesE x && namesEs r
end
theorem namesEs_all : ∀ (xs : List Expr), namesEs xs = xs.all namesE
  | [] => by simp [namesEs]
  | x :: r => by rw [namesEs, namesEs_all r, List.all_cons]
theorem namesE_eq (x : Expr) : namesE x = (okName x.name && x.kids.all namesE) := by
  cases x
  rw [namesE, namesEs_all]

mutual
/-- No name is longer than what a string may be. -/
def NamesFit : Expr → Prop
  | ⟨_, _, _, name, _, kids⟩ => name.size ≤ 9223372036854775807 ∧ NamesFits kids
def NamesFits : List Expr → Prop
  | [] => True
  | x :: r => NamesFit x ∧ NamesFits r
end
theorem NamesFits.mem : ∀ {l : List Expr}, NamesFits l → ∀ y, y ∈ l → NamesFit y
  | x :: r, h, y, hy => by
    rw [NamesFits] at h
    rcases List.mem_cons.1 hy with rfl | hy
    · exact h.1
    · exact NamesFits.mem h.2 y hy
theorem NamesFit.open {x : Expr} (h : NamesFit x) : x.name.size ≤ 9223372036854775807 ∧ ∀ p, p ∈ x.kids → NamesFit p := by
  cases x
  rw [NamesFit] at h
  exact ⟨h.1, fun p hp => h.2.mem p hp⟩
theorem byte_at (s : ByteArray) (j : Nat) (h : j < s.size) : s.data.toList.getD j 0 = s[j]'h := by
  rw [List.getD_eq_getElem?_getD, List.getElem?_eq_getElem (by rw [size_toList]; exact h)]
  rfl
theorem okB_true {c : UInt8} (h1 : ¬ (c.toNat : Int) = 10) (h2 : ¬ (c.toNat : Int) = 9) : okB c = true := by
  have e1 : c ≠ 10 := fun e => h1 (by rw [e]; rfl)
  have e2 : c ≠ 9 := fun e => h2 (by rw [e]; rfl)
  simp [okB, e1, e2]
theorem okB_ten {c : UInt8} (h1 : (c.toNat : Int) = 10) : okB c = false := by
  have : c = 10 := UInt8.toNat.inj (by rw [show (10 : UInt8).toNat = 10 from rfl]; omega)
  simp [okB, this]
theorem okB_nine {c : UInt8} (h1 : (c.toNat : Int) = 9) : okB c = false := by
  have : c = 9 := UInt8.toNat.inj (by rw [show (9 : UInt8).toNat = 9 from rfl]; omega)
  simp [okB, this]

set_option maxRecDepth 100000 in
set_option maxHeartbeats 1600000 in
theorem names_step (x : Expr) (cs : List Value) (w : World) (hx : kExpr.K w x cs)
    (hsz : x.name.size ≤ 9223372036854775807)
    (ih : ∀ p, p ∈ x.kids → ∀ cs w, kExpr.K w p cs → Calls Tryd.prog 30 #[.agg cs.toArray] w fun e w' => e = .returned (.bool (namesE p)) ∧ Below w.heap.size w w') :
    Calls Tryd.prog 30 #[.agg cs.toArray] w fun e w' => e = .returned (.bool (namesE x)) ∧ Below w.heap.size w w' := by
  obtain ⟨A6, a6, rfl, em0, el6, eg6⟩ := kExpr_open hx
  have HC := Aside0.mk eg6
  have hm := eg6.2.1
  clear eg6 em0 el6 hx
  go_enter Tryd.func30, Tryd.ntmps30
  go_wp2_with (first | ((with_reducible refine gate_dst (N := 1) rfl ?_); refine box_event ?hg (N := 1) ?hd (cs := #[.int .i64 x.kind, .int .i64 x.pos.line, .int .i64 x.pos.col, .int .i64 x.num, .string x.name, .int .i64 x.op, .slice A6 x.kids.length a6]) (t := 31) ?hr ?_; (case hd => rfl); (case hg => rfl); (case hr => first | (go_simp; done) | (go_simp; rfl)); intro g1 hgE_ W1 hbox_ hb_; have GEg1 := Aside0.mk (show w.heap.size ≤ g1 from Nat.le_of_eq hgE_.symm); have HB := Aside0.mk hb_; have BKg1 := Aside0.mk hbox_; have cg1_0 : W1.cell? ⟨g1, 0, none⟩ = some (.int .i64 x.kind) := (blk_cell BKg1.out 0).trans rfl; have cg1_1 : W1.cell? ⟨g1, 1, none⟩ = some (.int .i64 x.pos.line) := (blk_cell BKg1.out 1).trans rfl; have cg1_2 : W1.cell? ⟨g1, 2, none⟩ = some (.int .i64 x.pos.col) := (blk_cell BKg1.out 2).trans rfl; have cg1_3 : W1.cell? ⟨g1, 3, none⟩ = some (.int .i64 x.num) := (blk_cell BKg1.out 3).trans rfl; have cg1_4 : W1.cell? ⟨g1, 4, none⟩ = some (.string x.name) := (blk_cell BKg1.out 4).trans rfl; have cg1_5 : W1.cell? ⟨g1, 5, none⟩ = some (.int .i64 x.op) := (blk_cell BKg1.out 5).trans rfl; have cg1_6 : W1.cell? ⟨g1, 6, none⟩ = some (.slice A6 x.kids.length a6) := (blk_cell BKg1.out 6).trans rfl; clear hb_ hbox_ hgE_))
  have HB1 := HB
  go_loopg [3] x.name.size (fun kq v3 w' => ∃ i : Int, v3 = .int .i64 i ∧ 0 ≤ i ∧ kq + i.toNat = x.name.size ∧ w' = W1 ∧ Aside0 (∀ j, j < i.toNat → okB (x.name.data.toList.getD j 0) = true))
  case atStart => exact ⟨0, rfl, by omega, by simp, rfl, ⟨fun j hj => absurd hj (by simp)⟩⟩
  case round =>
    obtain ⟨i, rfl, hi0, hk, rfl, HS⟩ := hrel
    cases gk with
    | succ k1_ =>
      have hi1 : i < (x.name.size : Int) := by omega
      by_cases t10 : ((x.name[i.toNat]'(by omega)).toNat : Int) = 10
      · have q10 : (((x.name[i.toNat]'(by omega)).toNat : Int) == 10) = true := beq_iff_eq.2 t10
        have HT := Aside0.mk t10
        go_wp2_with fail
        go_ret
        refine ⟨?_, HB.out⟩
        have HNO := Aside0.mk (show okName x.name = false from all_false okB 0 _ i.toNat (by rw [size_toList]; omega) (by rw [byte_at x.name i.toNat (by omega)]; exact okB_ten HT.out))
        rw [namesE_eq, HNO.out, Bool.false_and]
        rfl
      by_cases t9 : ((x.name[i.toNat]'(by omega)).toNat : Int) = 9
      · have q10 : (((x.name[i.toNat]'(by omega)).toNat : Int) == 10) = false := beq_eq_false_iff_ne.2 t10
        have q9 : (((x.name[i.toNat]'(by omega)).toNat : Int) == 9) = true := beq_iff_eq.2 t9
        have HT := Aside0.mk t9
        go_wp2_with fail
        go_ret
        refine ⟨?_, HB.out⟩
        have HNO := Aside0.mk (show okName x.name = false from all_false okB 0 _ i.toNat (by rw [size_toList]; omega) (by rw [byte_at x.name i.toNat (by omega)]; exact okB_nine HT.out))
        rw [namesE_eq, HNO.out, Bool.false_and]
        rfl
      have q10 : (((x.name[i.toNat]'(by omega)).toNat : Int) == 10) = false := beq_eq_false_iff_ne.2 t10
      have q9 : (((x.name[i.toNat]'(by omega)).toNat : Int) == 9) = false := beq_eq_false_iff_ne.2 t9
      have HT := Aside0.mk (okB_true t10 t9)
      go_wp2_with fail
      go_roundg k1_
      case measure => omega
      case rel =>
        refine ⟨i + 1, rfl, by omega, by omega, rfl, ⟨fun j hj => ?_⟩⟩
        by_cases hji : j < i.toNat
        · exact HS.out j hji
        · obtain rfl : j = i.toNat := by omega
          rw [byte_at x.name i.toNat (by omega)]
          exact HT.out
    | zero =>
      have hge : decide (i < (x.name.size : Int)) = false := by simp; omega
      have HOK := Aside0.mk (show okName x.name = true from all_true okB 0 _ (fun j hj => HS.out j (by rw [size_toList] at hj; omega)))
      go_wp2_with fail
      clear HS
      have HC1 := Aside0.mk (Kd.C_below HC.out HB.out)
      have HB0 := HB
      clear HB BKg1 cg1_0 cg1_1 cg1_2 cg1_3 cg1_4 cg1_5 cg1_6
      go_loopg [28] x.kids.length (fun kq v28 w' => ∃ i : Int, v28 = .int .i64 i ∧ 0 ≤ i ∧ kq + i.toNat = x.kids.length ∧ Aside0 (∀ j, j < i.toNat → namesE (x.kids.getD j zExpr) = true) ∧ Aside0 (Below w.heap.size w w'))
      case atStart => exact ⟨0, rfl, by omega, by simp, ⟨fun j hj => absurd hj (by simp)⟩, HB0⟩
      case round =>
        obtain ⟨i, rfl, hi0, hk, HS, HB⟩ := hrel
        cases gk with
        | zero =>
          have hge : decide (i < (x.kids.length : Int)) = false := by simp; omega
          go_wp2_with fail
          go_ret
          refine ⟨?_, HB.out⟩
          rw [namesE_eq, HOK.out, all_true _ zExpr x.kids (fun j hj => HS.out j (by omega))]
          rfl
        | succ k1_ =>
          have hi1 : i < (x.kids.length : Int) := by omega
          have hx1 := Kd.C_below HC.out HB.out
          obtain ⟨ad, B6, b6, ea, e0, e1, e2, e3, e4, e5, e6, em0, el6, eg6⟩ := atExpr hx1 i hi0 hi1
          obtain rfl := ea
          have hmx : rdExpr x.kids i ∈ x.kids := rdExpr_mem _ _ hi0 hi1
          have K0 := Aside0.mk (show kExpr.K wr (rdExpr x.kids i) [.int .i64 (rdExpr x.kids i).kind, .int .i64 (rdExpr x.kids i).pos.line, .int .i64 (rdExpr x.kids i).pos.col, .int .i64 (rdExpr x.kids i).num, .string (rdExpr x.kids i).name, .int .i64 (rdExpr x.kids i).op, .slice B6 (rdExpr x.kids i).kids.length b6] from kExpr_mk wr _ em0 el6 eg6)
          clear em0 el6 eg6 hx1
          have HB2 := Aside0.mk (fun o => (Below.refl _ _).alloc (Nat.le_refl _) o : ∀ o, Below wr.heap.size wr (wr.alloc o))
          cases hv : namesE (rdExpr x.kids i) with
          | true =>
            have Hv := Aside0.mk hv
            clear hv
            go_wp2_with (first | (go_at_call 30; (with_reducible refine (ih _ hmx _ _ (kExpr.K_below (HB2.out _) K0.out)).mono ?_); rintro e w1 ⟨rfl, hb1_⟩; rw [Hv.out]; have HB1 := Aside0.mk (below_step (below_step HB.out (HB2.out _)) hb1_); clear hb1_))
            go_roundg k1_
            case measure => omega
            case rel =>
              refine ⟨i + 1, rfl, by omega, by omega, ⟨fun j hj => ?_⟩, HB1⟩
              by_cases hji : j < i.toNat
              · exact HS.out j hji
              · obtain rfl : j = i.toNat := by omega
                exact Hv.out
          | false =>
            have Hv := Aside0.mk hv
            clear hv
            go_wp2_with (first | (go_at_call 30; (with_reducible refine (ih _ hmx _ _ (kExpr.K_below (HB2.out _) K0.out)).mono ?_); rintro e w1 ⟨rfl, hb1_⟩; rw [Hv.out]; have HB1 := Aside0.mk (below_step (below_step HB.out (HB2.out _)) hb1_); clear hb1_))
            go_ret
            refine ⟨?_, HB1.out⟩
            rw [namesE_eq, all_false namesE zExpr x.kids i.toNat (by omega) Hv.out, Bool.and_false]
            rfl

/-- WHAT names COMPUTES. -/
theorem names_calls (n : Nat) : ∀ (x : Expr), SizeOf.sizeOf x ≤ n → NamesFit x → ∀ (cs : List Value) (w : World), kExpr.K w x cs → Calls Tryd.prog 30 #[.agg cs.toArray] w fun e w' => e = .returned (.bool (namesE x)) ∧ Below w.heap.size w w' := by
  induction n with
  | zero =>
    intro x hx
    cases x
    simp at hx
  | succ n ih =>
    intro x hx hf cs w h
    exact names_step x cs w h hf.open.1 (fun p hp cs w h => ih p (by have := kid_size hp; omega) (hf.open.2 p hp) cs w h)
end Go.Proofs.YtpbeplepcbhamaaDoor
