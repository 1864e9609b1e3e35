/- The walk of AstLines. -/
import Derived.Test.YtpbeplepcbhamaaDoorPlain
import Derived.Test.YtpbeplepcbhamaaDoorCount
import Derived.Test.YtpbeplepcbhamaaDoorFews
import Derived.Test.YtpbeplepcbhamaaDoorSigns
namespace Go.Proofs.YtpbeplepcbhamaaDoor
open Go.RowKit Go.Proofs.YtpbeplepcbhamaaDoorW.PrintWords Go.Proofs.YtpbeplepcbhamaaDoorW.PrintLast Go.Proofs.YtpbeplepcbhamaaDoorW.PrintMore
set_option linter.unusedVariables false
set_option linter.unusedSimpArgs false

/-- The law's look at a text: lines, whether a line begins, tabs. -/
def scan (D : Int) : List UInt8 → Int → Bool → Int → Option (Int × Bool × Int)
  | [], l, s, t => some (l, s, t)
  | c :: r, l, s, t => if s = true ∧ (c.toNat : Int) = 9 then scan D r l s (t + 1) else if s = true ∧ t < D then none else if (c.toNat : Int) = 10 then scan D r (l + 1) true 0 else scan D r l false t
theorem scan_drop (D : Int) (T : List UInt8) (X : ByteArray) (hX : X = bs T) (k : Nat) (h : k < X.size) (l : Int) (s : Bool) (t : Int) :
    scan D (T.drop k) l s t = if s = true ∧ ((X[k]'h).toNat : Int) = 9 then scan D (T.drop (k + 1)) l s (t + 1) else if s = true ∧ t < D then none else if ((X[k]'h).toNat : Int) = 10 then scan D (T.drop (k + 1)) (l + 1) true 0 else scan D (T.drop (k + 1)) l false t := by
  subst hX
  have hk : k < T.length := by rw [bs_size] at h; exact h
  have e : (bs T)[k]'h = T[k] := rfl
  rw [List.drop_eq_getElem_cons hk, scan, e]
theorem and7 (a : Int) : 0 ≤ Go.bits .and .i64 a 7 ∧ Go.bits .and .i64 a 7 ≤ 7 := by
  have e : Go.bits .and .i64 a 7 = IntKind.i64.wrap ((BitVec.ofInt 64 a &&& BitVec.ofInt 64 7).toNat : Int) := rfl
  have h : (BitVec.ofInt 64 a &&& BitVec.ofInt 64 7).toNat ≤ 7 := by
    rw [BitVec.toNat_and]
    exact Nat.and_le_right
  rw [e, IntKind.wrap_i64]
  omega

set_option maxRecDepth 100000 in
set_option maxHeartbeats 3200000 in
theorem lines_few (xs : List Stmt) (deep : Int) (A : Option Addr) (n c : Nat) (w : World) (hx : kStmt.C w A n xs) (hg : Glob w) (hf : fewSs xs 0 = false) :
    Calls Tryd.prog 5 #[.slice A n c, .int .i64 deep] w fun e w' => e = .returned (.bool true) ∧ Below w.heap.size w w' := by
  have HC := Aside0.mk hx
  have VF := Aside0.mk hf
  clear hf hx
  go_enter Tryd.func5, Tryd.ntmps5
  go_wp2_with (first | (go_at_call 7; (with_reducible refine (head_calls _ hg).mono ?_); rintro e W1 ⟨rfl, hb_⟩; have HB := Aside0.mk hb_; clear hb_ ) | (go_at_call 14; (with_reducible refine (fews_any xs 0 _ _ _ _ (Kd.C_below HC.out HB.out) (by omega) (by omega)).mono ?_); rintro e W2 ⟨rfl, hb_⟩; rw [VF.out]; replace HB := Aside0.mk (below_step HB.out hb_); clear hb_ ))
  go_ret
  exact ⟨rfl, HB.out⟩

set_option maxRecDepth 100000 in
set_option maxHeartbeats 12800000 in
theorem lines_walk (xs : List Stmt) (deep : Int) (A : Option Addr) (n c : Nat) (w : World) (hx : kStmt.C w A n xs) (hg : Glob w) (hf : fewSs xs 0 = true)
    (hok : ∀ s, s ∈ xs → PFit s ∧ SFit s (Go.bits .and .i64 deep 7).toNat ∧ cnt s ≤ 1000000000 ∧ (plainS s = true → scan (Go.bits .and .i64 deep 7) (stext s (Go.bits .and .i64 deep 7).toNat) 0 true 0 = some ((cnt s : Int), true, 0))) :
    Calls Tryd.prog 5 #[.slice A n c, .int .i64 deep] w fun e w' => e = .returned (.bool true) ∧ Below w.heap.size w w' := by
  have hn : xs.length = n := hx.1
  have hm := hx.2.1
  have HC := Aside0.mk hx
  have VF := Aside0.mk hf
  clear hf hx
  go_enter Tryd.func5, Tryd.ntmps5
  go_wp2_with (first | (go_at_call 7; (with_reducible refine (head_calls _ hg).mono ?_); rintro e W1 ⟨rfl, hb_⟩; have HB := Aside0.mk hb_; clear hb_ ) | (go_at_call 14; (with_reducible refine (fews_any xs 0 _ _ _ _ (Kd.C_below HC.out HB.out) (by omega) (by omega)).mono ?_); rintro e W2 ⟨rfl, hb_⟩; rw [VF.out]; replace HB := Aside0.mk (below_step HB.out hb_); clear hb_ ))
  obtain ⟨D, hD⟩ : ∃ D, D = Go.bits .and .i64 deep 7 := ⟨_, rfl⟩
  have hD0 : 0 ≤ D := by rw [hD]; exact (and7 deep).1
  have hD7 : D ≤ 7 := by rw [hD]; exact (and7 deep).2
  rw [← hD] at hok ⊢
  clear hD
  have HB0 := HB
  clear HB
  go_loopg [26] n (fun kq v26 w' => ∃ i : Int, v26 = .int .i64 i ∧ 0 ≤ i ∧ kq + i.toNat = n ∧ Aside0 (Below w.heap.size w w'))
  case atStart => exact ⟨0, rfl, by omega, by simp, HB0⟩
  case round =>
    clear HB0
    obtain ⟨i, rfl, hi0, hk, HB⟩ := hrel
    cases gk with
    | zero =>
      have hge : decide (i < (n : Int)) = false := by simp; omega
      go_wp2_with fail
      go_ret
      exact ⟨rfl, HB.out⟩
    | succ k1_ =>
      have hi1 : i < (n : Int) := by omega
      have hx1 := Kd.C_below HC.out HB.out
      obtain ⟨ad, B4, b4, B5, b5, B6, b6, ea, e0, e1, e2, e3, e4, e5, e6, el4, eg4, el5, eg5, el6, eg6⟩ := atStmt hx1 i hi0 hi1
      obtain rfl := ea
      have hms : rdStmt xs i ∈ xs := rdStmt_mem _ _ hi0 (by omega)
      have KS := Aside0.mk (show kStmt.K wr (rdStmt xs i) [.int .i64 (rdStmt xs i).does, .int .i64 (rdStmt xs i).pos.line, .int .i64 (rdStmt xs i).pos.col, .string (rdStmt xs i).name, .slice B4 (rdStmt xs i).es.length b4, .slice B5 (rdStmt xs i).thens.length b5, .slice B6 (rdStmt xs i).elses.length b6] from kStmt_mk wr _ el4 eg4 el5 eg5 el6 eg6)
      have HC5 := Aside0.mk eg5
      have HC6 := Aside0.mk eg6
      have hm5 := eg5.2.1
      have hm6 := eg6.2.1
      obtain ⟨hp_, hsf_, hcn, hsc_⟩ := hok _ hms
      have HP := Aside0.mk hp_
      have HSF := Aside0.mk hsf_
      clear el4 eg4 el5 eg5 el6 eg6 hx1 hp_ hsf_
      cases hv : plainS (rdStmt xs i) with
      | false =>
        have Hv := Aside0.mk hv
        clear hv hsc_ hcn
        go_wp2_with (first | ((with_reducible refine gate_dst (N := 6) rfl ?_); refine var_event (W1 := ?w1_6) (N := 6) (cs := #[.int .i64 (rdStmt xs i).does, .int .i64 (rdStmt xs i).pos.line, .int .i64 (rdStmt xs i).pos.col, .string (rdStmt xs i).name, .slice B4 (rdStmt xs i).es.length b4, .slice B5 (rdStmt xs i).thens.length b5, .slice B6 (rdStmt xs i).elses.length b6]) (t := 38) ?hg ?hd ?hg2 ?hd2 ?hr ?hr2 ?_; (case hd => rfl); (case hg => rfl); (case hd2 => rfl); (case hg2 => rfl); (case hr => first | (go_simp; done) | (go_simp; rfl)); (case hr2 => first | (go_simp; done) | (go_simp; rfl)); intro g6 hgE_ W1 hbox_ hb_; have GEg6 := Aside0.mk (show w.heap.size ≤ g6 from Nat.le_trans HB.out.size (hgE_)); replace HB := Aside0.mk (below_step HB.out hb_); replace KS := Aside0.mk (kStmt.K_below hb_ KS.out); replace HC5 := Aside0.mk (Kd.C_below HC5.out hb_); replace HC6 := Aside0.mk (Kd.C_below HC6.out hb_); have BKg6 := Aside0.mk hbox_; have cg6_0 : W1.cell? ⟨g6, 0, none⟩ = some (.int .i64 (rdStmt xs i).does) := (blk_cell BKg6.out 0).trans rfl; have cg6_1 : W1.cell? ⟨g6, 1, none⟩ = some (.int .i64 (rdStmt xs i).pos.line) := (blk_cell BKg6.out 1).trans rfl; have cg6_2 : W1.cell? ⟨g6, 2, none⟩ = some (.int .i64 (rdStmt xs i).pos.col) := (blk_cell BKg6.out 2).trans rfl; have cg6_3 : W1.cell? ⟨g6, 3, none⟩ = some (.string (rdStmt xs i).name) := (blk_cell BKg6.out 3).trans rfl; have cg6_4 : W1.cell? ⟨g6, 4, none⟩ = some (.slice B4 (rdStmt xs i).es.length b4) := (blk_cell BKg6.out 4).trans rfl; have cg6_5 : W1.cell? ⟨g6, 5, none⟩ = some (.slice B5 (rdStmt xs i).thens.length b5) := (blk_cell BKg6.out 5).trans rfl; have cg6_6 : W1.cell? ⟨g6, 6, none⟩ = some (.slice B6 (rdStmt xs i).elses.length b6) := (blk_cell BKg6.out 6).trans rfl; clear hb_ hbox_ hgE_) | (go_at_call 15; (with_reducible refine (plain_calls _ (rdStmt xs i) (Nat.le_refl _) HP.out _ _ KS.out (hg.below hg.size HB.out)).mono ?_); rintro e W2 ⟨rfl, hb_⟩; rw [Hv.out]; replace HB := Aside0.mk (below_step HB.out hb_); replace BKg6 := Aside0.mk (blk_below BKg6.out hb_); replace cg6_0 : W2.cell? ⟨g6, 0, none⟩ = some (.int .i64 (rdStmt xs i).does) := (blk_cell BKg6.out 0).trans rfl; replace cg6_1 : W2.cell? ⟨g6, 1, none⟩ = some (.int .i64 (rdStmt xs i).pos.line) := (blk_cell BKg6.out 1).trans rfl; replace cg6_2 : W2.cell? ⟨g6, 2, none⟩ = some (.int .i64 (rdStmt xs i).pos.col) := (blk_cell BKg6.out 2).trans rfl; replace cg6_3 : W2.cell? ⟨g6, 3, none⟩ = some (.string (rdStmt xs i).name) := (blk_cell BKg6.out 3).trans rfl; replace cg6_4 : W2.cell? ⟨g6, 4, none⟩ = some (.slice B4 (rdStmt xs i).es.length b4) := (blk_cell BKg6.out 4).trans rfl; replace cg6_5 : W2.cell? ⟨g6, 5, none⟩ = some (.slice B5 (rdStmt xs i).thens.length b5) := (blk_cell BKg6.out 5).trans rfl; replace cg6_6 : W2.cell? ⟨g6, 6, none⟩ = some (.slice B6 (rdStmt xs i).elses.length b6) := (blk_cell BKg6.out 6).trans rfl; replace KS := Aside0.mk (kStmt.K_below hb_ KS.out); replace HC5 := Aside0.mk (Kd.C_below HC5.out hb_); replace HC6 := Aside0.mk (Kd.C_below HC6.out hb_); clear hb_ ))
        go_roundg k1_
        case measure => omega
        case rel => exact ⟨i + 1, rfl, by omega, by omega, HB⟩
      | true =>
        have Hv := Aside0.mk hv
        have hsc := hsc_ hv
        have hcn0 : (0 : Int) ≤ (cnt (rdStmt xs i) : Int) := by omega
        obtain ⟨T, hT⟩ : ∃ T, T = stext (rdStmt xs i) D.toNat := ⟨_, rfl⟩
        obtain ⟨X, hX⟩ : ∃ X, X = bs T := ⟨_, rfl⟩
        rw [← hT] at hsc
        have HT := Lib.hid hT
        have HX := Lib.hid hX
        have hXs : X.size ≤ 140737488355328 := by
          rw [hX, bs_size, hT]
          exact HSF.out.open.1
        have HSC := Aside0.mk hsc
        clear hv hsc_ hsc hT hX
        go_wp2_with (first | ((with_reducible refine gate_dst (N := 6) rfl ?_); refine var_event (W1 := ?w1_6) (N := 6) (cs := #[.int .i64 (rdStmt xs i).does, .int .i64 (rdStmt xs i).pos.line, .int .i64 (rdStmt xs i).pos.col, .string (rdStmt xs i).name, .slice B4 (rdStmt xs i).es.length b4, .slice B5 (rdStmt xs i).thens.length b5, .slice B6 (rdStmt xs i).elses.length b6]) (t := 38) ?hg ?hd ?hg2 ?hd2 ?hr ?hr2 ?_; (case hd => rfl); (case hg => rfl); (case hd2 => rfl); (case hg2 => rfl); (case hr => first | (go_simp; done) | (go_simp; rfl)); (case hr2 => first | (go_simp; done) | (go_simp; rfl)); intro g6 hgE_ W1 hbox_ hb_; have GEg6 := Aside0.mk (show w.heap.size ≤ g6 from Nat.le_trans HB.out.size (hgE_)); replace HB := Aside0.mk (below_step HB.out hb_); replace KS := Aside0.mk (kStmt.K_below hb_ KS.out); replace HC5 := Aside0.mk (Kd.C_below HC5.out hb_); replace HC6 := Aside0.mk (Kd.C_below HC6.out hb_); have BKg6 := Aside0.mk hbox_; have cg6_0 : W1.cell? ⟨g6, 0, none⟩ = some (.int .i64 (rdStmt xs i).does) := (blk_cell BKg6.out 0).trans rfl; have cg6_1 : W1.cell? ⟨g6, 1, none⟩ = some (.int .i64 (rdStmt xs i).pos.line) := (blk_cell BKg6.out 1).trans rfl; have cg6_2 : W1.cell? ⟨g6, 2, none⟩ = some (.int .i64 (rdStmt xs i).pos.col) := (blk_cell BKg6.out 2).trans rfl; have cg6_3 : W1.cell? ⟨g6, 3, none⟩ = some (.string (rdStmt xs i).name) := (blk_cell BKg6.out 3).trans rfl; have cg6_4 : W1.cell? ⟨g6, 4, none⟩ = some (.slice B4 (rdStmt xs i).es.length b4) := (blk_cell BKg6.out 4).trans rfl; have cg6_5 : W1.cell? ⟨g6, 5, none⟩ = some (.slice B5 (rdStmt xs i).thens.length b5) := (blk_cell BKg6.out 5).trans rfl; have cg6_6 : W1.cell? ⟨g6, 6, none⟩ = some (.slice B6 (rdStmt xs i).elses.length b6) := (blk_cell BKg6.out 6).trans rfl; clear hb_ hbox_ hgE_) | (go_at_call 15; (with_reducible refine (plain_calls _ (rdStmt xs i) (Nat.le_refl _) HP.out _ _ KS.out (hg.below hg.size HB.out)).mono ?_); rintro e W2 ⟨rfl, hb_⟩; rw [Hv.out]; replace HB := Aside0.mk (below_step HB.out hb_); replace BKg6 := Aside0.mk (blk_below BKg6.out hb_); replace cg6_0 : W2.cell? ⟨g6, 0, none⟩ = some (.int .i64 (rdStmt xs i).does) := (blk_cell BKg6.out 0).trans rfl; replace cg6_1 : W2.cell? ⟨g6, 1, none⟩ = some (.int .i64 (rdStmt xs i).pos.line) := (blk_cell BKg6.out 1).trans rfl; replace cg6_2 : W2.cell? ⟨g6, 2, none⟩ = some (.int .i64 (rdStmt xs i).pos.col) := (blk_cell BKg6.out 2).trans rfl; replace cg6_3 : W2.cell? ⟨g6, 3, none⟩ = some (.string (rdStmt xs i).name) := (blk_cell BKg6.out 3).trans rfl; replace cg6_4 : W2.cell? ⟨g6, 4, none⟩ = some (.slice B4 (rdStmt xs i).es.length b4) := (blk_cell BKg6.out 4).trans rfl; replace cg6_5 : W2.cell? ⟨g6, 5, none⟩ = some (.slice B5 (rdStmt xs i).thens.length b5) := (blk_cell BKg6.out 5).trans rfl; replace cg6_6 : W2.cell? ⟨g6, 6, none⟩ = some (.slice B6 (rdStmt xs i).elses.length b6) := (blk_cell BKg6.out 6).trans rfl; replace KS := Aside0.mk (kStmt.K_below hb_ KS.out); replace HC5 := Aside0.mk (Kd.C_below HC5.out hb_); replace HC6 := Aside0.mk (Kd.C_below HC6.out hb_); clear hb_ ) | (go_at_call 16; (with_reducible refine (stext_any (rdStmt xs i) D _ _ KS.out (hg.below hg.size HB.out) HSF.out).mono ?_); rintro e W3 ⟨rfl, hb_⟩; rw [← HT.out, ← HX.out]; replace HB := Aside0.mk (below_step HB.out hb_); replace BKg6 := Aside0.mk (blk_below BKg6.out hb_); replace cg6_0 : W3.cell? ⟨g6, 0, none⟩ = some (.int .i64 (rdStmt xs i).does) := (blk_cell BKg6.out 0).trans rfl; replace cg6_1 : W3.cell? ⟨g6, 1, none⟩ = some (.int .i64 (rdStmt xs i).pos.line) := (blk_cell BKg6.out 1).trans rfl; replace cg6_2 : W3.cell? ⟨g6, 2, none⟩ = some (.int .i64 (rdStmt xs i).pos.col) := (blk_cell BKg6.out 2).trans rfl; replace cg6_3 : W3.cell? ⟨g6, 3, none⟩ = some (.string (rdStmt xs i).name) := (blk_cell BKg6.out 3).trans rfl; replace cg6_4 : W3.cell? ⟨g6, 4, none⟩ = some (.slice B4 (rdStmt xs i).es.length b4) := (blk_cell BKg6.out 4).trans rfl; replace cg6_5 : W3.cell? ⟨g6, 5, none⟩ = some (.slice B5 (rdStmt xs i).thens.length b5) := (blk_cell BKg6.out 5).trans rfl; replace cg6_6 : W3.cell? ⟨g6, 6, none⟩ = some (.slice B6 (rdStmt xs i).elses.length b6) := (blk_cell BKg6.out 6).trans rfl; replace KS := Aside0.mk (kStmt.K_below hb_ KS.out); replace HC5 := Aside0.mk (Kd.C_below HC5.out hb_); replace HC6 := Aside0.mk (Kd.C_below HC6.out hb_); clear hb_ ))
        have HB1 := HB
        clear HB
        go_loopg [8, 9, 10, 11] X.size (fun kq v8 v9 v10 v11 w' => ∃ (l : Int) (st : Bool) (t j : Int), v8 = .int .i64 l ∧ v9 = .bool st ∧ v10 = .int .i64 t ∧ v11 = .int .i64 j ∧ 0 ≤ j ∧ kq + j.toNat = X.size ∧ 0 ≤ l ∧ l ≤ j ∧ 0 ≤ t ∧ t ≤ j ∧ w' = W3 ∧ Aside0 (scan D (T.drop j.toNat) l st t = some ((cnt (rdStmt xs i) : Int), true, 0)))
        case atStart => exact ⟨0, true, 0, 0, rfl, rfl, rfl, rfl, by omega, by simp, by omega, by omega, by omega, by omega, rfl, ⟨HSC.out⟩⟩
        case round =>
          obtain ⟨l, st, t, j, rfl, rfl, rfl, rfl, hj0, hkj, hl0, hlj, ht0, htj, rfl, HS⟩ := hrel
          cases gk with
          | succ k2_ =>
            have hj1 : j < (X.size : Int) := by omega
            have hs := HS.out
            rw [scan_drop D T X HX.out j.toNat (by omega) l st t] at hs
            clear HS HSC
            have ej : (j + 1).toNat = j.toNat + 1 := by omega
            rw [← ej] at hs
            clear ej
            cases st with
            | true =>
              by_cases t9 : ((X[j.toNat]'(by omega)).toNat : Int) = 9
              · rw [if_pos ⟨rfl, t9⟩] at hs
                have q9 : (((X[j.toNat]'(by omega)).toNat : Int) == 9) = true := beq_iff_eq.2 t9
                have HS := Aside0.mk hs
                clear hs
                go_wp2_with fail
                go_roundg k2_
                case measure => omega
                case rel => exact ⟨l, true, t + 1, j + 1, rfl, rfl, rfl, rfl, by omega, by omega, by omega, by omega, by omega, by omega, rfl, HS⟩
              rw [if_neg (fun h => t9 h.2)] at hs
              have q9 : (((X[j.toNat]'(by omega)).toNat : Int) == 9) = false := beq_eq_false_iff_ne.2 t9
              by_cases htd : t < D
              · rw [if_pos ⟨rfl, htd⟩] at hs
                cases hs
              rw [if_neg (fun h => htd h.2)] at hs
              have qtd : decide (t < D) = false := decide_eq_false htd
              by_cases t10 : ((X[j.toNat]'(by omega)).toNat : Int) = 10
              · rw [if_pos t10] at hs
                have q10 : (((X[j.toNat]'(by omega)).toNat : Int) == 10) = true := beq_iff_eq.2 t10
                have HS := Aside0.mk hs
                clear hs
                go_wp2_with fail
                go_roundg k2_
                case measure => omega
                case rel => exact ⟨l + 1, true, 0, j + 1, rfl, rfl, rfl, rfl, by omega, by omega, by omega, by omega, by omega, by omega, rfl, HS⟩
              · rw [if_neg t10] at hs
                have q10 : (((X[j.toNat]'(by omega)).toNat : Int) == 10) = false := beq_eq_false_iff_ne.2 t10
                have HS := Aside0.mk hs
                clear hs
                go_wp2_with fail
                go_roundg k2_
                case measure => omega
                case rel => exact ⟨l, false, t, j + 1, rfl, rfl, rfl, rfl, by omega, by omega, by omega, by omega, by omega, by omega, rfl, HS⟩
            | false =>
              rw [if_neg (fun h => by cases h.1), if_neg (fun h => by cases h.1)] at hs
              by_cases t10 : ((X[j.toNat]'(by omega)).toNat : Int) = 10
              · rw [if_pos t10] at hs
                have q10 : (((X[j.toNat]'(by omega)).toNat : Int) == 10) = true := beq_iff_eq.2 t10
                have HS := Aside0.mk hs
                clear hs
                go_wp2_with fail
                go_roundg k2_
                case measure => omega
                case rel => exact ⟨l + 1, true, 0, j + 1, rfl, rfl, rfl, rfl, by omega, by omega, by omega, by omega, by omega, by omega, rfl, HS⟩
              · rw [if_neg t10] at hs
                have q10 : (((X[j.toNat]'(by omega)).toNat : Int) == 10) = false := beq_eq_false_iff_ne.2 t10
                have HS := Aside0.mk hs
                clear hs
                go_wp2_with fail
                go_roundg k2_
                case measure => omega
                case rel => exact ⟨l, false, t, j + 1, rfl, rfl, rfl, rfl, by omega, by omega, by omega, by omega, by omega, by omega, rfl, HS⟩
          | zero =>
            have hge : decide (j < (X.size : Int)) = false := by simp; omega
            have hs := HS.out
            rw [List.drop_eq_nil_of_le (by have := congrArg ByteArray.size HX.out; rw [bs_size] at this; omega), scan] at hs
            injection hs with hs
            injection hs with hl1 hs
            injection hs with hst1 ht1
            subst hl1 hst1 ht1
            clear HS HSC
            have HB := HB1
            clear HB1
            have hcv := cnt_eq (rdStmt xs i)
            by_cases h4 : (rdStmt xs i).does = 4
            · have k4 : ((rdStmt xs i).does == 4) = true := beq_iff_eq.2 h4
              rw [if_pos (Or.inl h4)] at hcv
              by_cases he : (rdStmt xs i).elses = []
              · rw [if_neg (fun h => h.2 he), Nat.add_zero] at hcv
                have kel : ¬ 0 < (rdStmt xs i).elses.length := by rw [he]; decide
                have qc : ((cnt (rdStmt xs i) : Int) != 2 + (cnts (rdStmt xs i).thens : Int)) = false := by rw [hcv]; simp
                have hcb : cnts (rdStmt xs i).thens ≤ 1000000000 := by omega
                clear h4 he hcv
                go_wp2_with fail
                go_loopg [12, 74] (rdStmt xs i).thens.length (fun kq v12 vi w' => ∃ j : Int, vi = .int .i64 j ∧ v12 = .int .i64 (2 + (cnts ((rdStmt xs i).thens.take j.toNat) : Int)) ∧ 0 ≤ j ∧ kq + j.toNat = (rdStmt xs i).thens.length ∧ Aside0 (Below w.heap.size w w') ∧ Aside0 (w'.heap[g6]? = some (.cells #[.int .i64 (rdStmt xs i).does, .int .i64 (rdStmt xs i).pos.line, .int .i64 (rdStmt xs i).pos.col, .string (rdStmt xs i).name, .slice B4 (rdStmt xs i).es.length b4, .slice B5 (rdStmt xs i).thens.length b5, .slice B6 (rdStmt xs i).elses.length b6] 38 (0, 0))) ∧ Aside0 (kStmt.C w' B5 (rdStmt xs i).thens.length (rdStmt xs i).thens) ∧ Aside0 (kStmt.C w' B6 (rdStmt xs i).elses.length (rdStmt xs i).elses))
                case atStart => exact ⟨0, rfl, by simp [cnts], by omega, by simp, HB, BKg6, HC5, HC6⟩
                case round =>
                  clear HB BKg6 HC5 HC6 cg6_0 cg6_1 cg6_2 cg6_3 cg6_4 cg6_5 cg6_6
                  obtain ⟨j, rfl, rfl, hj0, hkj, HB, BKg6, HC5, HC6⟩ := hrel
                  cases gk with
                  | succ k2_ =>
                    have hj1 : j < ((rdStmt xs i).thens.length : Int) := by omega
                    obtain ⟨bd, D4, d4, D5, d5, D6, d6, fa, f0, f1, f2, f3, f4, f5, f6, fl4, fg4, fl5, fg5, fl6, fg6⟩ := atStmt HC5.out j hj0 hj1
                    obtain rfl := fa
                    have hmp : rdStmt (rdStmt xs i).thens j ∈ (rdStmt xs i).thens := rdStmt_mem _ _ hj0 hj1
                    have KP := Aside0.mk (show kStmt.K wr (rdStmt (rdStmt xs i).thens j) [.int .i64 (rdStmt (rdStmt xs i).thens j).does, .int .i64 (rdStmt (rdStmt xs i).thens j).pos.line, .int .i64 (rdStmt (rdStmt xs i).thens j).pos.col, .string (rdStmt (rdStmt xs i).thens j).name, .slice D4 (rdStmt (rdStmt xs i).thens j).es.length d4, .slice D5 (rdStmt (rdStmt xs i).thens j).thens.length d5, .slice D6 (rdStmt (rdStmt xs i).thens j).elses.length d6] from kStmt_mk wr _ fl4 fg4 fl5 fg5 fl6 fg6)
                    have htk := cnts_take (rdStmt xs i).thens j hj0 hj1
                    have hle := cnts_le (rdStmt xs i).thens (j + 1).toNat
                    have HTK := Aside0.mk htk
                    have HCB := Aside0.mk (show cnt (rdStmt (rdStmt xs i).thens j) ≤ 1000000000000 from by have := cnt_le _ _ hmp; omega)
                    have hsum : ((2 + (cnts ((rdStmt xs i).thens.take j.toNat) : Int)) + (cnt (rdStmt (rdStmt xs i).thens j) : Int)) ≤ 9223372036854775807 := by omega
                    clear fl4 fg4 fl5 fg5 fl6 fg6 hle
                    go_wp2_with (first | ((with_reducible refine gate_dst (N := 14) rfl ?_); refine var_event (W1 := ?w1_14_1) (N := 14) (cs := #[.int .i64 (rdStmt (rdStmt xs i).thens j).does, .int .i64 (rdStmt (rdStmt xs i).thens j).pos.line, .int .i64 (rdStmt (rdStmt xs i).thens j).pos.col, .string (rdStmt (rdStmt xs i).thens j).name, .slice D4 (rdStmt (rdStmt xs i).thens j).es.length d4, .slice D5 (rdStmt (rdStmt xs i).thens j).thens.length d5, .slice D6 (rdStmt (rdStmt xs i).thens j).elses.length d6]) (t := 38) ?hg ?hd ?hg2 ?hd2 ?hr ?hr2 ?_; (case hd => rfl); (case hg => rfl); (case hd2 => rfl); (case hg2 => rfl); (case hr => first | (go_simp; done) | (go_simp; rfl)); (case hr2 => first | (go_simp; done) | (go_simp; rfl)); intro q1 hgE_ M1W1 hbox_ hb_; have GEq1 := Aside0.mk (show w.heap.size ≤ q1 from Nat.le_trans HB.out.size (hgE_)); have NEg6_q1 := Aside0.mk (show g6 ≠ q1 from Nat.ne_of_lt (Nat.lt_of_lt_of_le (blk_lt BKg6.out) (hgE_))); replace HB := Aside0.mk (below_step HB.out hb_); replace BKg6 := Aside0.mk (blk_below BKg6.out hb_); replace KP := Aside0.mk (kStmt.K_below hb_ KP.out); replace HC5 := Aside0.mk (Kd.C_below HC5.out hb_); replace HC6 := Aside0.mk (Kd.C_below HC6.out hb_); have BKq1 := Aside0.mk hbox_; have cq1_0 : M1W1.cell? ⟨q1, 0, none⟩ = some (.int .i64 (rdStmt (rdStmt xs i).thens j).does) := (blk_cell BKq1.out 0).trans rfl; have cq1_1 : M1W1.cell? ⟨q1, 1, none⟩ = some (.int .i64 (rdStmt (rdStmt xs i).thens j).pos.line) := (blk_cell BKq1.out 1).trans rfl; have cq1_2 : M1W1.cell? ⟨q1, 2, none⟩ = some (.int .i64 (rdStmt (rdStmt xs i).thens j).pos.col) := (blk_cell BKq1.out 2).trans rfl; have cq1_3 : M1W1.cell? ⟨q1, 3, none⟩ = some (.string (rdStmt (rdStmt xs i).thens j).name) := (blk_cell BKq1.out 3).trans rfl; have cq1_4 : M1W1.cell? ⟨q1, 4, none⟩ = some (.slice D4 (rdStmt (rdStmt xs i).thens j).es.length d4) := (blk_cell BKq1.out 4).trans rfl; have cq1_5 : M1W1.cell? ⟨q1, 5, none⟩ = some (.slice D5 (rdStmt (rdStmt xs i).thens j).thens.length d5) := (blk_cell BKq1.out 5).trans rfl; have cq1_6 : M1W1.cell? ⟨q1, 6, none⟩ = some (.slice D6 (rdStmt (rdStmt xs i).thens j).elses.length d6) := (blk_cell BKq1.out 6).trans rfl; clear hb_ hbox_ hgE_) | (go_at_call 17; (with_reducible refine (cnt_calls _ _ (Nat.le_refl _) HCB.out _ _ KP.out).mono ?_); rintro e M1W2 ⟨rfl, hb_⟩; replace HB := Aside0.mk (below_step HB.out hb_); replace BKg6 := Aside0.mk (blk_below BKg6.out hb_); replace BKq1 := Aside0.mk (blk_below BKq1.out hb_); replace cq1_0 : M1W2.cell? ⟨q1, 0, none⟩ = some (.int .i64 (rdStmt (rdStmt xs i).thens j).does) := (blk_cell BKq1.out 0).trans rfl; replace cq1_1 : M1W2.cell? ⟨q1, 1, none⟩ = some (.int .i64 (rdStmt (rdStmt xs i).thens j).pos.line) := (blk_cell BKq1.out 1).trans rfl; replace cq1_2 : M1W2.cell? ⟨q1, 2, none⟩ = some (.int .i64 (rdStmt (rdStmt xs i).thens j).pos.col) := (blk_cell BKq1.out 2).trans rfl; replace cq1_3 : M1W2.cell? ⟨q1, 3, none⟩ = some (.string (rdStmt (rdStmt xs i).thens j).name) := (blk_cell BKq1.out 3).trans rfl; replace cq1_4 : M1W2.cell? ⟨q1, 4, none⟩ = some (.slice D4 (rdStmt (rdStmt xs i).thens j).es.length d4) := (blk_cell BKq1.out 4).trans rfl; replace cq1_5 : M1W2.cell? ⟨q1, 5, none⟩ = some (.slice D5 (rdStmt (rdStmt xs i).thens j).thens.length d5) := (blk_cell BKq1.out 5).trans rfl; replace cq1_6 : M1W2.cell? ⟨q1, 6, none⟩ = some (.slice D6 (rdStmt (rdStmt xs i).thens j).elses.length d6) := (blk_cell BKq1.out 6).trans rfl; replace KP := Aside0.mk (kStmt.K_below hb_ KP.out); replace HC5 := Aside0.mk (Kd.C_below HC5.out hb_); replace HC6 := Aside0.mk (Kd.C_below HC6.out hb_); clear hb_ ))
                    go_roundg k2_
                    case measure => omega
                    case rel =>
                      refine ⟨j + 1, rfl, ?_, by omega, by omega, HB, BKg6, HC5, HC6⟩
                      rw [HTK.out, Int.natCast_add, ← Int.add_assoc]
                  | zero =>
                    have hgj : decide (j < ((rdStmt xs i).thens.length : Int)) = false := by simp; omega
                    have hall : (rdStmt xs i).thens.take j.toNat = (rdStmt xs i).thens := List.take_of_length_le (by omega)
                    rw [hall]
                    clear hall hkj
                    have cg6_0 : wr.cell? ⟨g6, 0, none⟩ = some (.int .i64 (rdStmt xs i).does) := (blk_cell BKg6.out 0).trans rfl
                    have cg6_5 : wr.cell? ⟨g6, 5, none⟩ = some (.slice B5 (rdStmt xs i).thens.length b5) := (blk_cell BKg6.out 5).trans rfl
                    have cg6_6 : wr.cell? ⟨g6, 6, none⟩ = some (.slice B6 (rdStmt xs i).elses.length b6) := (blk_cell BKg6.out 6).trans rfl
                    go_wp2_with fail
                    go_roundg k1_
                    case measure => omega
                    case rel => exact ⟨i + 1, rfl, by omega, by omega, HB⟩
              · rw [if_pos ⟨h4, he⟩] at hcv
                have kel : 0 < (rdStmt xs i).elses.length := List.length_pos_iff.2 he
                have qc : ((cnt (rdStmt xs i) : Int) != 2 + (cnts (rdStmt xs i).thens : Int) + 1 + (cnts (rdStmt xs i).elses : Int)) = false := by rw [hcv]; simp; omega
                have hcb : cnts (rdStmt xs i).thens ≤ 1000000000 := by omega
                have hcb2 : cnts (rdStmt xs i).elses ≤ 1000000000 := by omega
                clear h4 he hcv
                go_wp2_with fail
                go_loopg [12, 74] (rdStmt xs i).thens.length (fun kq v12 vi w' => ∃ j : Int, vi = .int .i64 j ∧ v12 = .int .i64 (2 + (cnts ((rdStmt xs i).thens.take j.toNat) : Int)) ∧ 0 ≤ j ∧ kq + j.toNat = (rdStmt xs i).thens.length ∧ Aside0 (Below w.heap.size w w') ∧ Aside0 (w'.heap[g6]? = some (.cells #[.int .i64 (rdStmt xs i).does, .int .i64 (rdStmt xs i).pos.line, .int .i64 (rdStmt xs i).pos.col, .string (rdStmt xs i).name, .slice B4 (rdStmt xs i).es.length b4, .slice B5 (rdStmt xs i).thens.length b5, .slice B6 (rdStmt xs i).elses.length b6] 38 (0, 0))) ∧ Aside0 (kStmt.C w' B5 (rdStmt xs i).thens.length (rdStmt xs i).thens) ∧ Aside0 (kStmt.C w' B6 (rdStmt xs i).elses.length (rdStmt xs i).elses))
                case atStart => exact ⟨0, rfl, by simp [cnts], by omega, by simp, HB, BKg6, HC5, HC6⟩
                case round =>
                  clear HB BKg6 HC5 HC6 cg6_0 cg6_1 cg6_2 cg6_3 cg6_4 cg6_5 cg6_6
                  obtain ⟨j, rfl, rfl, hj0, hkj, HB, BKg6, HC5, HC6⟩ := hrel
                  cases gk with
                  | succ k2_ =>
                    have hj1 : j < ((rdStmt xs i).thens.length : Int) := by omega
                    obtain ⟨bd, D4, d4, D5, d5, D6, d6, fa, f0, f1, f2, f3, f4, f5, f6, fl4, fg4, fl5, fg5, fl6, fg6⟩ := atStmt HC5.out j hj0 hj1
                    obtain rfl := fa
                    have hmp : rdStmt (rdStmt xs i).thens j ∈ (rdStmt xs i).thens := rdStmt_mem _ _ hj0 hj1
                    have KP := Aside0.mk (show kStmt.K wr (rdStmt (rdStmt xs i).thens j) [.int .i64 (rdStmt (rdStmt xs i).thens j).does, .int .i64 (rdStmt (rdStmt xs i).thens j).pos.line, .int .i64 (rdStmt (rdStmt xs i).thens j).pos.col, .string (rdStmt (rdStmt xs i).thens j).name, .slice D4 (rdStmt (rdStmt xs i).thens j).es.length d4, .slice D5 (rdStmt (rdStmt xs i).thens j).thens.length d5, .slice D6 (rdStmt (rdStmt xs i).thens j).elses.length d6] from kStmt_mk wr _ fl4 fg4 fl5 fg5 fl6 fg6)
                    have htk := cnts_take (rdStmt xs i).thens j hj0 hj1
                    have hle := cnts_le (rdStmt xs i).thens (j + 1).toNat
                    have HTK := Aside0.mk htk
                    have HCB := Aside0.mk (show cnt (rdStmt (rdStmt xs i).thens j) ≤ 1000000000000 from by have := cnt_le _ _ hmp; omega)
                    have hsum : ((2 + (cnts ((rdStmt xs i).thens.take j.toNat) : Int)) + (cnt (rdStmt (rdStmt xs i).thens j) : Int)) ≤ 9223372036854775807 := by omega
                    clear fl4 fg4 fl5 fg5 fl6 fg6 hle
                    go_wp2_with (first | ((with_reducible refine gate_dst (N := 14) rfl ?_); refine var_event (W1 := ?w1_14_3) (N := 14) (cs := #[.int .i64 (rdStmt (rdStmt xs i).thens j).does, .int .i64 (rdStmt (rdStmt xs i).thens j).pos.line, .int .i64 (rdStmt (rdStmt xs i).thens j).pos.col, .string (rdStmt (rdStmt xs i).thens j).name, .slice D4 (rdStmt (rdStmt xs i).thens j).es.length d4, .slice D5 (rdStmt (rdStmt xs i).thens j).thens.length d5, .slice D6 (rdStmt (rdStmt xs i).thens j).elses.length d6]) (t := 38) ?hg ?hd ?hg2 ?hd2 ?hr ?hr2 ?_; (case hd => rfl); (case hg => rfl); (case hd2 => rfl); (case hg2 => rfl); (case hr => first | (go_simp; done) | (go_simp; rfl)); (case hr2 => first | (go_simp; done) | (go_simp; rfl)); intro q1 hgE_ M1W1 hbox_ hb_; have GEq1 := Aside0.mk (show w.heap.size ≤ q1 from Nat.le_trans HB.out.size (hgE_)); have NEg6_q1 := Aside0.mk (show g6 ≠ q1 from Nat.ne_of_lt (Nat.lt_of_lt_of_le (blk_lt BKg6.out) (hgE_))); replace HB := Aside0.mk (below_step HB.out hb_); replace BKg6 := Aside0.mk (blk_below BKg6.out hb_); replace KP := Aside0.mk (kStmt.K_below hb_ KP.out); replace HC5 := Aside0.mk (Kd.C_below HC5.out hb_); replace HC6 := Aside0.mk (Kd.C_below HC6.out hb_); have BKq1 := Aside0.mk hbox_; have cq1_0 : M1W1.cell? ⟨q1, 0, none⟩ = some (.int .i64 (rdStmt (rdStmt xs i).thens j).does) := (blk_cell BKq1.out 0).trans rfl; have cq1_1 : M1W1.cell? ⟨q1, 1, none⟩ = some (.int .i64 (rdStmt (rdStmt xs i).thens j).pos.line) := (blk_cell BKq1.out 1).trans rfl; have cq1_2 : M1W1.cell? ⟨q1, 2, none⟩ = some (.int .i64 (rdStmt (rdStmt xs i).thens j).pos.col) := (blk_cell BKq1.out 2).trans rfl; have cq1_3 : M1W1.cell? ⟨q1, 3, none⟩ = some (.string (rdStmt (rdStmt xs i).thens j).name) := (blk_cell BKq1.out 3).trans rfl; have cq1_4 : M1W1.cell? ⟨q1, 4, none⟩ = some (.slice D4 (rdStmt (rdStmt xs i).thens j).es.length d4) := (blk_cell BKq1.out 4).trans rfl; have cq1_5 : M1W1.cell? ⟨q1, 5, none⟩ = some (.slice D5 (rdStmt (rdStmt xs i).thens j).thens.length d5) := (blk_cell BKq1.out 5).trans rfl; have cq1_6 : M1W1.cell? ⟨q1, 6, none⟩ = some (.slice D6 (rdStmt (rdStmt xs i).thens j).elses.length d6) := (blk_cell BKq1.out 6).trans rfl; clear hb_ hbox_ hgE_) | (go_at_call 17; (with_reducible refine (cnt_calls _ _ (Nat.le_refl _) HCB.out _ _ KP.out).mono ?_); rintro e M1W2 ⟨rfl, hb_⟩; replace HB := Aside0.mk (below_step HB.out hb_); replace BKg6 := Aside0.mk (blk_below BKg6.out hb_); replace BKq1 := Aside0.mk (blk_below BKq1.out hb_); replace cq1_0 : M1W2.cell? ⟨q1, 0, none⟩ = some (.int .i64 (rdStmt (rdStmt xs i).thens j).does) := (blk_cell BKq1.out 0).trans rfl; replace cq1_1 : M1W2.cell? ⟨q1, 1, none⟩ = some (.int .i64 (rdStmt (rdStmt xs i).thens j).pos.line) := (blk_cell BKq1.out 1).trans rfl; replace cq1_2 : M1W2.cell? ⟨q1, 2, none⟩ = some (.int .i64 (rdStmt (rdStmt xs i).thens j).pos.col) := (blk_cell BKq1.out 2).trans rfl; replace cq1_3 : M1W2.cell? ⟨q1, 3, none⟩ = some (.string (rdStmt (rdStmt xs i).thens j).name) := (blk_cell BKq1.out 3).trans rfl; replace cq1_4 : M1W2.cell? ⟨q1, 4, none⟩ = some (.slice D4 (rdStmt (rdStmt xs i).thens j).es.length d4) := (blk_cell BKq1.out 4).trans rfl; replace cq1_5 : M1W2.cell? ⟨q1, 5, none⟩ = some (.slice D5 (rdStmt (rdStmt xs i).thens j).thens.length d5) := (blk_cell BKq1.out 5).trans rfl; replace cq1_6 : M1W2.cell? ⟨q1, 6, none⟩ = some (.slice D6 (rdStmt (rdStmt xs i).thens j).elses.length d6) := (blk_cell BKq1.out 6).trans rfl; replace KP := Aside0.mk (kStmt.K_below hb_ KP.out); replace HC5 := Aside0.mk (Kd.C_below HC5.out hb_); replace HC6 := Aside0.mk (Kd.C_below HC6.out hb_); clear hb_ ))
                    go_roundg k2_
                    case measure => omega
                    case rel =>
                      refine ⟨j + 1, rfl, ?_, by omega, by omega, HB, BKg6, HC5, HC6⟩
                      rw [HTK.out, Int.natCast_add, ← Int.add_assoc]
                  | zero =>
                    have hgj : decide (j < ((rdStmt xs i).thens.length : Int)) = false := by simp; omega
                    have hall : (rdStmt xs i).thens.take j.toNat = (rdStmt xs i).thens := List.take_of_length_le (by omega)
                    rw [hall]
                    clear hall hkj
                    have cg6_0 : wr.cell? ⟨g6, 0, none⟩ = some (.int .i64 (rdStmt xs i).does) := (blk_cell BKg6.out 0).trans rfl
                    have cg6_5 : wr.cell? ⟨g6, 5, none⟩ = some (.slice B5 (rdStmt xs i).thens.length b5) := (blk_cell BKg6.out 5).trans rfl
                    have cg6_6 : wr.cell? ⟨g6, 6, none⟩ = some (.slice B6 (rdStmt xs i).elses.length b6) := (blk_cell BKg6.out 6).trans rfl
                    go_wp2_with fail
                    go_loopg [12, 97] (rdStmt xs i).elses.length (fun kq v12 vi w' => ∃ j : Int, vi = .int .i64 j ∧ v12 = .int .i64 ((2 + (cnts (rdStmt xs i).thens : Int) + 1) + (cnts ((rdStmt xs i).elses.take j.toNat) : Int)) ∧ 0 ≤ j ∧ kq + j.toNat = (rdStmt xs i).elses.length ∧ Aside0 (Below w.heap.size w w') ∧ Aside0 (w'.heap[g6]? = some (.cells #[.int .i64 (rdStmt xs i).does, .int .i64 (rdStmt xs i).pos.line, .int .i64 (rdStmt xs i).pos.col, .string (rdStmt xs i).name, .slice B4 (rdStmt xs i).es.length b4, .slice B5 (rdStmt xs i).thens.length b5, .slice B6 (rdStmt xs i).elses.length b6] 38 (0, 0))) ∧ Aside0 (kStmt.C w' B5 (rdStmt xs i).thens.length (rdStmt xs i).thens) ∧ Aside0 (kStmt.C w' B6 (rdStmt xs i).elses.length (rdStmt xs i).elses))
                    case atStart => exact ⟨0, rfl, by simp [cnts], by omega, by simp, HB, BKg6, HC5, HC6⟩
                    case round =>
                      clear HB BKg6 HC5 HC6 cg6_0 cg6_5 cg6_6
                      obtain ⟨j, rfl, rfl, hj0, hkj, HB, BKg6, HC5, HC6⟩ := hrel
                      cases gk with
                      | succ k2_ =>
                        have hj1 : j < ((rdStmt xs i).elses.length : Int) := by omega
                        obtain ⟨bd, D4, d4, D5, d5, D6, d6, fa, f0, f1, f2, f3, f4, f5, f6, fl4, fg4, fl5, fg5, fl6, fg6⟩ := atStmt HC6.out j hj0 hj1
                        obtain rfl := fa
                        have hmp : rdStmt (rdStmt xs i).elses j ∈ (rdStmt xs i).elses := rdStmt_mem _ _ hj0 hj1
                        have KP := Aside0.mk (show kStmt.K wr (rdStmt (rdStmt xs i).elses j) [.int .i64 (rdStmt (rdStmt xs i).elses j).does, .int .i64 (rdStmt (rdStmt xs i).elses j).pos.line, .int .i64 (rdStmt (rdStmt xs i).elses j).pos.col, .string (rdStmt (rdStmt xs i).elses j).name, .slice D4 (rdStmt (rdStmt xs i).elses j).es.length d4, .slice D5 (rdStmt (rdStmt xs i).elses j).thens.length d5, .slice D6 (rdStmt (rdStmt xs i).elses j).elses.length d6] from kStmt_mk wr _ fl4 fg4 fl5 fg5 fl6 fg6)
                        have htk := cnts_take (rdStmt xs i).elses j hj0 hj1
                        have hle := cnts_le (rdStmt xs i).elses (j + 1).toNat
                        have HTK := Aside0.mk htk
                        have HCB := Aside0.mk (show cnt (rdStmt (rdStmt xs i).elses j) ≤ 1000000000000 from by have := cnt_le _ _ hmp; omega)
                        have hsum : (((2 + (cnts (rdStmt xs i).thens : Int) + 1) + (cnts ((rdStmt xs i).elses.take j.toNat) : Int)) + (cnt (rdStmt (rdStmt xs i).elses j) : Int)) ≤ 9223372036854775807 := by omega
                        clear fl4 fg4 fl5 fg5 fl6 fg6 hle
                        go_wp2_with (first | ((with_reducible refine gate_dst (N := 16) rfl ?_); refine var_event (W1 := ?w1_16_2) (N := 16) (cs := #[.int .i64 (rdStmt (rdStmt xs i).elses j).does, .int .i64 (rdStmt (rdStmt xs i).elses j).pos.line, .int .i64 (rdStmt (rdStmt xs i).elses j).pos.col, .string (rdStmt (rdStmt xs i).elses j).name, .slice D4 (rdStmt (rdStmt xs i).elses j).es.length d4, .slice D5 (rdStmt (rdStmt xs i).elses j).thens.length d5, .slice D6 (rdStmt (rdStmt xs i).elses j).elses.length d6]) (t := 38) ?hg ?hd ?hg2 ?hd2 ?hr ?hr2 ?_; (case hd => rfl); (case hg => rfl); (case hd2 => rfl); (case hg2 => rfl); (case hr => first | (go_simp; done) | (go_simp; rfl)); (case hr2 => first | (go_simp; done) | (go_simp; rfl)); intro q2 hgE_ M2W1 hbox_ hb_; have GEq2 := Aside0.mk (show w.heap.size ≤ q2 from Nat.le_trans HB.out.size (hgE_)); have NEg6_q2 := Aside0.mk (show g6 ≠ q2 from Nat.ne_of_lt (Nat.lt_of_lt_of_le (blk_lt BKg6.out) (hgE_))); replace HB := Aside0.mk (below_step HB.out hb_); replace BKg6 := Aside0.mk (blk_below BKg6.out hb_); replace KP := Aside0.mk (kStmt.K_below hb_ KP.out); replace HC5 := Aside0.mk (Kd.C_below HC5.out hb_); replace HC6 := Aside0.mk (Kd.C_below HC6.out hb_); have BKq2 := Aside0.mk hbox_; have cq2_0 : M2W1.cell? ⟨q2, 0, none⟩ = some (.int .i64 (rdStmt (rdStmt xs i).elses j).does) := (blk_cell BKq2.out 0).trans rfl; have cq2_1 : M2W1.cell? ⟨q2, 1, none⟩ = some (.int .i64 (rdStmt (rdStmt xs i).elses j).pos.line) := (blk_cell BKq2.out 1).trans rfl; have cq2_2 : M2W1.cell? ⟨q2, 2, none⟩ = some (.int .i64 (rdStmt (rdStmt xs i).elses j).pos.col) := (blk_cell BKq2.out 2).trans rfl; have cq2_3 : M2W1.cell? ⟨q2, 3, none⟩ = some (.string (rdStmt (rdStmt xs i).elses j).name) := (blk_cell BKq2.out 3).trans rfl; have cq2_4 : M2W1.cell? ⟨q2, 4, none⟩ = some (.slice D4 (rdStmt (rdStmt xs i).elses j).es.length d4) := (blk_cell BKq2.out 4).trans rfl; have cq2_5 : M2W1.cell? ⟨q2, 5, none⟩ = some (.slice D5 (rdStmt (rdStmt xs i).elses j).thens.length d5) := (blk_cell BKq2.out 5).trans rfl; have cq2_6 : M2W1.cell? ⟨q2, 6, none⟩ = some (.slice D6 (rdStmt (rdStmt xs i).elses j).elses.length d6) := (blk_cell BKq2.out 6).trans rfl; clear hb_ hbox_ hgE_) | (go_at_call 17; (with_reducible refine (cnt_calls _ _ (Nat.le_refl _) HCB.out _ _ KP.out).mono ?_); rintro e M2W2 ⟨rfl, hb_⟩; replace HB := Aside0.mk (below_step HB.out hb_); replace BKg6 := Aside0.mk (blk_below BKg6.out hb_); replace BKq2 := Aside0.mk (blk_below BKq2.out hb_); replace cq2_0 : M2W2.cell? ⟨q2, 0, none⟩ = some (.int .i64 (rdStmt (rdStmt xs i).elses j).does) := (blk_cell BKq2.out 0).trans rfl; replace cq2_1 : M2W2.cell? ⟨q2, 1, none⟩ = some (.int .i64 (rdStmt (rdStmt xs i).elses j).pos.line) := (blk_cell BKq2.out 1).trans rfl; replace cq2_2 : M2W2.cell? ⟨q2, 2, none⟩ = some (.int .i64 (rdStmt (rdStmt xs i).elses j).pos.col) := (blk_cell BKq2.out 2).trans rfl; replace cq2_3 : M2W2.cell? ⟨q2, 3, none⟩ = some (.string (rdStmt (rdStmt xs i).elses j).name) := (blk_cell BKq2.out 3).trans rfl; replace cq2_4 : M2W2.cell? ⟨q2, 4, none⟩ = some (.slice D4 (rdStmt (rdStmt xs i).elses j).es.length d4) := (blk_cell BKq2.out 4).trans rfl; replace cq2_5 : M2W2.cell? ⟨q2, 5, none⟩ = some (.slice D5 (rdStmt (rdStmt xs i).elses j).thens.length d5) := (blk_cell BKq2.out 5).trans rfl; replace cq2_6 : M2W2.cell? ⟨q2, 6, none⟩ = some (.slice D6 (rdStmt (rdStmt xs i).elses j).elses.length d6) := (blk_cell BKq2.out 6).trans rfl; replace KP := Aside0.mk (kStmt.K_below hb_ KP.out); replace HC5 := Aside0.mk (Kd.C_below HC5.out hb_); replace HC6 := Aside0.mk (Kd.C_below HC6.out hb_); clear hb_ ))
                        go_roundg k2_
                        case measure => omega
                        case rel =>
                          refine ⟨j + 1, rfl, ?_, by omega, by omega, HB, BKg6, HC5, HC6⟩
                          rw [HTK.out, Int.natCast_add, ← Int.add_assoc]
                      | zero =>
                        have hgj : decide (j < ((rdStmt xs i).elses.length : Int)) = false := by simp; omega
                        have hall : (rdStmt xs i).elses.take j.toNat = (rdStmt xs i).elses := List.take_of_length_le (by omega)
                        rw [hall]
                        clear hall hkj
                        have cg6_0 : wr.cell? ⟨g6, 0, none⟩ = some (.int .i64 (rdStmt xs i).does) := (blk_cell BKg6.out 0).trans rfl
                        have cg6_5 : wr.cell? ⟨g6, 5, none⟩ = some (.slice B5 (rdStmt xs i).thens.length b5) := (blk_cell BKg6.out 5).trans rfl
                        have cg6_6 : wr.cell? ⟨g6, 6, none⟩ = some (.slice B6 (rdStmt xs i).elses.length b6) := (blk_cell BKg6.out 6).trans rfl
                        go_wp2_with fail
                        go_roundg k1_
                        case measure => omega
                        case rel => exact ⟨i + 1, rfl, by omega, by omega, HB⟩
            have k4 : ((rdStmt xs i).does == 4) = false := beq_eq_false_iff_ne.2 h4
            by_cases h5 : (rdStmt xs i).does = 5
            · have k5 : ((rdStmt xs i).does == 5) = true := beq_iff_eq.2 h5
              rw [if_pos (Or.inr h5), if_neg (fun h => h4 h.1), Nat.add_zero] at hcv
              have qc : ((cnt (rdStmt xs i) : Int) != 2 + (cnts (rdStmt xs i).thens : Int)) = false := by rw [hcv]; simp
              have hcb : cnts (rdStmt xs i).thens ≤ 1000000000 := by omega
              clear h4 h5 hcv
              go_wp2_with fail
              go_loopg [12, 74] (rdStmt xs i).thens.length (fun kq v12 vi w' => ∃ j : Int, vi = .int .i64 j ∧ v12 = .int .i64 (2 + (cnts ((rdStmt xs i).thens.take j.toNat) : Int)) ∧ 0 ≤ j ∧ kq + j.toNat = (rdStmt xs i).thens.length ∧ Aside0 (Below w.heap.size w w') ∧ Aside0 (w'.heap[g6]? = some (.cells #[.int .i64 (rdStmt xs i).does, .int .i64 (rdStmt xs i).pos.line, .int .i64 (rdStmt xs i).pos.col, .string (rdStmt xs i).name, .slice B4 (rdStmt xs i).es.length b4, .slice B5 (rdStmt xs i).thens.length b5, .slice B6 (rdStmt xs i).elses.length b6] 38 (0, 0))) ∧ Aside0 (kStmt.C w' B5 (rdStmt xs i).thens.length (rdStmt xs i).thens) ∧ Aside0 (kStmt.C w' B6 (rdStmt xs i).elses.length (rdStmt xs i).elses))
              case atStart => exact ⟨0, rfl, by simp [cnts], by omega, by simp, HB, BKg6, HC5, HC6⟩
              case round =>
                clear HB BKg6 HC5 HC6 cg6_0 cg6_1 cg6_2 cg6_3 cg6_4 cg6_5 cg6_6
                obtain ⟨j, rfl, rfl, hj0, hkj, HB, BKg6, HC5, HC6⟩ := hrel
                cases gk with
                | succ k2_ =>
                  have hj1 : j < ((rdStmt xs i).thens.length : Int) := by omega
                  obtain ⟨bd, D4, d4, D5, d5, D6, d6, fa, f0, f1, f2, f3, f4, f5, f6, fl4, fg4, fl5, fg5, fl6, fg6⟩ := atStmt HC5.out j hj0 hj1
                  obtain rfl := fa
                  have hmp : rdStmt (rdStmt xs i).thens j ∈ (rdStmt xs i).thens := rdStmt_mem _ _ hj0 hj1
                  have KP := Aside0.mk (show kStmt.K wr (rdStmt (rdStmt xs i).thens j) [.int .i64 (rdStmt (rdStmt xs i).thens j).does, .int .i64 (rdStmt (rdStmt xs i).thens j).pos.line, .int .i64 (rdStmt (rdStmt xs i).thens j).pos.col, .string (rdStmt (rdStmt xs i).thens j).name, .slice D4 (rdStmt (rdStmt xs i).thens j).es.length d4, .slice D5 (rdStmt (rdStmt xs i).thens j).thens.length d5, .slice D6 (rdStmt (rdStmt xs i).thens j).elses.length d6] from kStmt_mk wr _ fl4 fg4 fl5 fg5 fl6 fg6)
                  have htk := cnts_take (rdStmt xs i).thens j hj0 hj1
                  have hle := cnts_le (rdStmt xs i).thens (j + 1).toNat
                  have HTK := Aside0.mk htk
                  have HCB := Aside0.mk (show cnt (rdStmt (rdStmt xs i).thens j) ≤ 1000000000000 from by have := cnt_le _ _ hmp; omega)
                  have hsum : ((2 + (cnts ((rdStmt xs i).thens.take j.toNat) : Int)) + (cnt (rdStmt (rdStmt xs i).thens j) : Int)) ≤ 9223372036854775807 := by omega
                  clear fl4 fg4 fl5 fg5 fl6 fg6 hle
                  go_wp2_with (first | ((with_reducible refine gate_dst (N := 14) rfl ?_); refine var_event (W1 := ?w1_14_4) (N := 14) (cs := #[.int .i64 (rdStmt (rdStmt xs i).thens j).does, .int .i64 (rdStmt (rdStmt xs i).thens j).pos.line, .int .i64 (rdStmt (rdStmt xs i).thens j).pos.col, .string (rdStmt (rdStmt xs i).thens j).name, .slice D4 (rdStmt (rdStmt xs i).thens j).es.length d4, .slice D5 (rdStmt (rdStmt xs i).thens j).thens.length d5, .slice D6 (rdStmt (rdStmt xs i).thens j).elses.length d6]) (t := 38) ?hg ?hd ?hg2 ?hd2 ?hr ?hr2 ?_; (case hd => rfl); (case hg => rfl); (case hd2 => rfl); (case hg2 => rfl); (case hr => first | (go_simp; done) | (go_simp; rfl)); (case hr2 => first | (go_simp; done) | (go_simp; rfl)); intro q1 hgE_ M1W1 hbox_ hb_; have GEq1 := Aside0.mk (show w.heap.size ≤ q1 from Nat.le_trans HB.out.size (hgE_)); have NEg6_q1 := Aside0.mk (show g6 ≠ q1 from Nat.ne_of_lt (Nat.lt_of_lt_of_le (blk_lt BKg6.out) (hgE_))); replace HB := Aside0.mk (below_step HB.out hb_); replace BKg6 := Aside0.mk (blk_below BKg6.out hb_); replace KP := Aside0.mk (kStmt.K_below hb_ KP.out); replace HC5 := Aside0.mk (Kd.C_below HC5.out hb_); replace HC6 := Aside0.mk (Kd.C_below HC6.out hb_); have BKq1 := Aside0.mk hbox_; have cq1_0 : M1W1.cell? ⟨q1, 0, none⟩ = some (.int .i64 (rdStmt (rdStmt xs i).thens j).does) := (blk_cell BKq1.out 0).trans rfl; have cq1_1 : M1W1.cell? ⟨q1, 1, none⟩ = some (.int .i64 (rdStmt (rdStmt xs i).thens j).pos.line) := (blk_cell BKq1.out 1).trans rfl; have cq1_2 : M1W1.cell? ⟨q1, 2, none⟩ = some (.int .i64 (rdStmt (rdStmt xs i).thens j).pos.col) := (blk_cell BKq1.out 2).trans rfl; have cq1_3 : M1W1.cell? ⟨q1, 3, none⟩ = some (.string (rdStmt (rdStmt xs i).thens j).name) := (blk_cell BKq1.out 3).trans rfl; have cq1_4 : M1W1.cell? ⟨q1, 4, none⟩ = some (.slice D4 (rdStmt (rdStmt xs i).thens j).es.length d4) := (blk_cell BKq1.out 4).trans rfl; have cq1_5 : M1W1.cell? ⟨q1, 5, none⟩ = some (.slice D5 (rdStmt (rdStmt xs i).thens j).thens.length d5) := (blk_cell BKq1.out 5).trans rfl; have cq1_6 : M1W1.cell? ⟨q1, 6, none⟩ = some (.slice D6 (rdStmt (rdStmt xs i).thens j).elses.length d6) := (blk_cell BKq1.out 6).trans rfl; clear hb_ hbox_ hgE_) | (go_at_call 17; (with_reducible refine (cnt_calls _ _ (Nat.le_refl _) HCB.out _ _ KP.out).mono ?_); rintro e M1W2 ⟨rfl, hb_⟩; replace HB := Aside0.mk (below_step HB.out hb_); replace BKg6 := Aside0.mk (blk_below BKg6.out hb_); replace BKq1 := Aside0.mk (blk_below BKq1.out hb_); replace cq1_0 : M1W2.cell? ⟨q1, 0, none⟩ = some (.int .i64 (rdStmt (rdStmt xs i).thens j).does) := (blk_cell BKq1.out 0).trans rfl; replace cq1_1 : M1W2.cell? ⟨q1, 1, none⟩ = some (.int .i64 (rdStmt (rdStmt xs i).thens j).pos.line) := (blk_cell BKq1.out 1).trans rfl; replace cq1_2 : M1W2.cell? ⟨q1, 2, none⟩ = some (.int .i64 (rdStmt (rdStmt xs i).thens j).pos.col) := (blk_cell BKq1.out 2).trans rfl; replace cq1_3 : M1W2.cell? ⟨q1, 3, none⟩ = some (.string (rdStmt (rdStmt xs i).thens j).name) := (blk_cell BKq1.out 3).trans rfl; replace cq1_4 : M1W2.cell? ⟨q1, 4, none⟩ = some (.slice D4 (rdStmt (rdStmt xs i).thens j).es.length d4) := (blk_cell BKq1.out 4).trans rfl; replace cq1_5 : M1W2.cell? ⟨q1, 5, none⟩ = some (.slice D5 (rdStmt (rdStmt xs i).thens j).thens.length d5) := (blk_cell BKq1.out 5).trans rfl; replace cq1_6 : M1W2.cell? ⟨q1, 6, none⟩ = some (.slice D6 (rdStmt (rdStmt xs i).thens j).elses.length d6) := (blk_cell BKq1.out 6).trans rfl; replace KP := Aside0.mk (kStmt.K_below hb_ KP.out); replace HC5 := Aside0.mk (Kd.C_below HC5.out hb_); replace HC6 := Aside0.mk (Kd.C_below HC6.out hb_); clear hb_ ))
                  go_roundg k2_
                  case measure => omega
                  case rel =>
                    refine ⟨j + 1, rfl, ?_, by omega, by omega, HB, BKg6, HC5, HC6⟩
                    rw [HTK.out, Int.natCast_add, ← Int.add_assoc]
                | zero =>
                  have hgj : decide (j < ((rdStmt xs i).thens.length : Int)) = false := by simp; omega
                  have hall : (rdStmt xs i).thens.take j.toNat = (rdStmt xs i).thens := List.take_of_length_le (by omega)
                  rw [hall]
                  clear hall hkj
                  have cg6_0 : wr.cell? ⟨g6, 0, none⟩ = some (.int .i64 (rdStmt xs i).does) := (blk_cell BKg6.out 0).trans rfl
                  have cg6_5 : wr.cell? ⟨g6, 5, none⟩ = some (.slice B5 (rdStmt xs i).thens.length b5) := (blk_cell BKg6.out 5).trans rfl
                  have cg6_6 : wr.cell? ⟨g6, 6, none⟩ = some (.slice B6 (rdStmt xs i).elses.length b6) := (blk_cell BKg6.out 6).trans rfl
                  go_wp2_with fail
                  go_roundg k1_
                  case measure => omega
                  case rel => exact ⟨i + 1, rfl, by omega, by omega, HB⟩
            have k5 : ((rdStmt xs i).does == 5) = false := beq_eq_false_iff_ne.2 h5
            rw [if_neg (fun h => h.elim h4 h5), if_neg (fun h => h4 h.1)] at hcv
            have qc : ((cnt (rdStmt xs i) : Int) != 1) = false := by rw [hcv]; rfl
            clear h4 h5 hcv
            go_wp2_with fail
            go_roundg k1_
            case measure => omega
            case rel => exact ⟨i + 1, rfl, by omega, by omega, HB⟩

end Go.Proofs.YtpbeplepcbhamaaDoor
