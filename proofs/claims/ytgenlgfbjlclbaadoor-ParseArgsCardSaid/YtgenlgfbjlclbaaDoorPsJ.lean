/- block: statements in braces. -/
import Derived.Test.YtgenlgfbjlclbaaDoorPsI
import Derived.Test.YtgenlgfbjlclbaaDoorDeep
namespace Go.Proofs.YtgenlgfbjlclbaaDoor
open Go.RowKit Go.Proofs.YtgenlgfbjlclbaaDoorW.PrintWords Go.Proofs.YtgenlgfbjlclbaaDoorW.PrintLast Go.Proofs.YtgenlgfbjlclbaaDoorW.PrintMore
set_option linter.unusedVariables false
set_option linter.unusedSimpArgs false

theorem infoStmt2 : (Tryd.prog.info? 45).map (fun i => (i.zero, i.size, i.bytes)) = some (some (.agg #[.int .i64 0, .int .i64 0, .int .i64 0, .string ⟨#[]⟩, .slice none 0 0, .slice none 0 0, .slice none 0 0]), 7, 112) := by kernel_rfl
set_option maxRecDepth 100000 in
set_option maxHeartbeats 12800000 in
theorem block_step {a : GA} {g : Nat} (n : Nat) (hn : n ≤ 1000000) (IH : ∀ m, m ≤ n → Good a g (ps m)) (s : PS) (xs : List Stmt) (s' : PS) (w : World) (h : PSt a g s w) (hx : psBlock (ps n) s = some (xs, s')) :
    Calls Tryd.prog 47 #[.pointer (some ⟨g, 0, none⟩)] w (BPost a g w xs s') := by
  have hmf : ∀ (fn : Fn) (first cap : Array Value) (w : World), (Instr.makeFunc fn first cap).run Tryd.prog w = .ok (.func fn first cap) w := fun _ _ _ _ => rfl
  have PS := Aside0.mk h
  have CH := Aside0.mk (Chg.refl g w)
  have GW := Aside0.mk h.lt
  unfold psBlock at hx
  simp only [] at hx
  cases hd : (s.want [123]).down.1 with
  | false =>
    have HD := Lib.hid hd
    rw [hd, if_neg (by decide)] at hx
    obtain ⟨rfl, rfl⟩ := Prod.mk.inj (Option.some.inj hx)
    clear hx hd h
    go_enter_defers Tryd.func47, Tryd.ntmps47
    go_wp2_with (first | ((with_reducible refine gate_dst (N := 1) rfl ?_); refine box_event ?hg (N := 1) ?hd (cs := #[.pointer (some ⟨g, 0, none⟩)]) (t := 66) ?hr ?_; (case hd => rfl); (case hg => rfl); (case hr => first | (go_simp; done) | (go_simp; rfl)); intro b1 hgE_ W1 hbox_ hb_; have NEb1 := Aside0.mk (show g < b1 from hgE_ ▸ PS.out.lt); have GEb1 := Aside0.mk (show w.heap.size ≤ b1 from Nat.le_of_eq hgE_.symm); replace CH := Aside0.mk (CH.out.trans (Chg.of_below hb_)); replace PS := Aside0.mk (PSt.below PS.out hb_); have BKb1 := Aside0.mk hbox_; have c1_0 : W1.cell? ⟨b1, 0, none⟩ = some (.pointer (some ⟨g, 0, none⟩)) := (blk_cell BKb1.out 0).trans rfl; clear hb_ hbox_ hgE_) | (go_at_call 46; (with_reducible refine (want_calls ⟨#[123]⟩ [123] rfl PS.out).mono ?_); rintro e W2 ⟨rfl, ch_, ps_⟩; replace CH := Aside0.mk (CH.out.trans ch_); replace PS := Aside0.mk ps_; replace BKb1 := Aside0.mk (ch_.blk BKb1.out (Nat.ne_of_gt NEb1.out)); replace c1_0 : W2.cell? ⟨b1, 0, none⟩ = some (.pointer (some ⟨g, 0, none⟩)) := (blk_cell BKb1.out 0).trans rfl; clear ch_ ps_) | (go_at_call 60; (with_reducible refine (down_no PS.out HD.out).mono ?_); rintro e W3 ⟨rfl, ch_, ps_⟩; replace CH := Aside0.mk (CH.out.trans ch_); replace PS := Aside0.mk ps_; replace BKb1 := Aside0.mk (ch_.blk BKb1.out (Nat.ne_of_gt NEb1.out)); replace c1_0 : W3.cell? ⟨b1, 0, none⟩ = some (.pointer (some ⟨g, 0, none⟩)) := (blk_cell BKb1.out 0).trans rfl; clear ch_ ps_))
    exact ⟨_, results_tmp rfl _ _ _, none, 0, rfl, Nat.le_refl _, fun W' _ => Kd.C_nil kStmt W', CH.out, PS.out⟩
  | true =>
    have HD := Lib.hid hd
    rw [hd, if_pos rfl] at hx
    obtain ⟨⟨b, t⟩, h1, h2⟩ := Option.bind_eq_some_iff.1 hx
    obtain ⟨rfl, rfl⟩ := Prod.mk.inj (Option.some.inj h2)
    have hn1 : ∃ n1, n = n1 + 1 := by
      cases n with
      | zero => cases h1
      | succ n => exact ⟨n, rfl⟩
    obtain ⟨n1, hn1⟩ := hn1
    have HX0 := Lib.hid (show psStmts (ps n1) [] (s.want [123]).down.2 = some (b, t) by rw [hn1] at h1; exact h1)
    have HDX := Lib.hid (show 1 ≤ t.deep by
      have := h.d0
      rw [(deep_all n).stmts _ _ _ _ h1, Go.Proofs.YtgenlgfbjlclbaaDoor.PS.down_deep, if_pos hd, Go.Proofs.YtgenlgfbjlclbaaDoor.PS.want_deep]
      omega)
    have HN1 := Lib.hid hn1
    clear hx hd h h1 h2 hn1
    go_enter_defers Tryd.func47, Tryd.ntmps47
    go_wp2_with (first | ((with_reducible refine gate_dst (N := 1) rfl ?_); refine box_event ?hg (N := 1) ?hd (cs := #[.pointer (some ⟨g, 0, none⟩)]) (t := 66) ?hr ?_; (case hd => rfl); (case hg => rfl); (case hr => first | (go_simp; done) | (go_simp; rfl)); intro b1 hgE_ W1 hbox_ hb_; have NEb1 := Aside0.mk (show g < b1 from hgE_ ▸ PS.out.lt); have GEb1 := Aside0.mk (show w.heap.size ≤ b1 from Nat.le_of_eq hgE_.symm); replace CH := Aside0.mk (CH.out.trans (Chg.of_below hb_)); replace PS := Aside0.mk (PSt.below PS.out hb_); have BKb1 := Aside0.mk hbox_; have c1_0 : W1.cell? ⟨b1, 0, none⟩ = some (.pointer (some ⟨g, 0, none⟩)) := (blk_cell BKb1.out 0).trans rfl; clear hb_ hbox_ hgE_) | (go_at_call 46; (with_reducible refine (want_calls ⟨#[123]⟩ [123] rfl PS.out).mono ?_); rintro e W2 ⟨rfl, ch_, ps_⟩; replace CH := Aside0.mk (CH.out.trans ch_); replace PS := Aside0.mk ps_; replace BKb1 := Aside0.mk (ch_.blk BKb1.out (Nat.ne_of_gt NEb1.out)); replace c1_0 : W2.cell? ⟨b1, 0, none⟩ = some (.pointer (some ⟨g, 0, none⟩)) := (blk_cell BKb1.out 0).trans rfl; clear ch_ ps_) | (go_at_call 60; (with_reducible refine (down_yes PS.out HD.out).mono ?_); rintro e W3 ⟨rfl, ch_, ps_⟩; replace CH := Aside0.mk (CH.out.trans ch_); replace PS := Aside0.mk ps_; replace BKb1 := Aside0.mk (ch_.blk BKb1.out (Nat.ne_of_gt NEb1.out)); replace c1_0 : W3.cell? ⟨b1, 0, none⟩ = some (.pointer (some ⟨g, 0, none⟩)) := (blk_cell BKb1.out 0).trans rfl; clear ch_ ps_))
    go_loopg [3] n1 (fun kq v3 w' => ∃ (m : Nat) (out : List Stmt) (st : Go.Proofs.YtgenlgfbjlclbaaDoor.PS), kq = m ∧ m ≤ n1 ∧ out.length + m = n1 ∧ Aside0 (psStmts (ps m) out st = some (b, t)) ∧ Aside0 (Kd.N kStmt 45 w' w.heap.size (fun k => w.heap.size ≤ k ∧ k ≠ b1) v3 out) ∧ Aside0 (w'.heap[b1]? = some (.cells #[.pointer (some ⟨g, 0, none⟩)] 66 (0, 0))) ∧ Aside0 (PSt a g st w') ∧ Aside0 (Chg g w w'))
    case atStart => exact ⟨n1, [], _, rfl, Nat.le_refl _, by simp, ⟨HX0.out⟩, ⟨Kd.N_nil _ _ _ _ _⟩, BKb1, PS, CH⟩
    case round =>
      clear PS CH BKb1 c1_0
      obtain ⟨m, out, st, hm, hmn, hol, HX, HO, BKb1, PS, CH⟩ := hrel
      obtain ⟨A, c, hv⟩ := Kd.N_slice HO.out
      obtain rfl := hv
      have hcap := Lib.hid (Kd.N_reads' HO.out).2.1
      have hnn := HN1.out
      have hmx : out.length ≤ 1000000 := by omega
      clear hnn
      have c1_0 : wr.cell? ⟨b1, 0, none⟩ = some (.pointer (some ⟨g, 0, none⟩)) := (blk_cell BKb1.out 0).trans rfl
      have hx := HX.out
      unfold psStmts at hx
      by_cases hex : (st.bad || st.isM [125]) = true
      · rw [if_pos hex] at hx
        obtain ⟨rfl, rfl⟩ := Prod.mk.inj (Option.some.inj hx)
        have HF := Aside0.mk (Kd.N_F HO.out)
        cases hb : st.bad with
        | true =>
          have HB_ := Lib.hid hb
          clear hx hex hb HX HO
          go_wp2_with (first | (go_at_call 21; (with_reducible refine (bad_calls PS.out).mono ?_); rintro e W1 ⟨rfl, hb_⟩; rw [HB_.out]; replace CH := Aside0.mk (CH.out.trans (Chg.of_below hb_)); replace PS := Aside0.mk (PSt.below PS.out hb_); replace BKb1 := Aside0.mk (blk_below BKb1.out hb_); replace HF := Aside0.mk (Foot.step HF.out (fun k _ hlt => hb_.block k hlt)); replace c1_0 : W1.cell? ⟨b1, 0, none⟩ = some (.pointer (some ⟨g, 0, none⟩)) := (blk_cell BKb1.out 0).trans rfl; clear hb_) | (go_at_call 46; (with_reducible refine (want_calls ⟨#[125]⟩ [125] rfl PS.out).mono ?_); rintro e W3 ⟨rfl, ch_, ps_⟩; replace CH := Aside0.mk (CH.out.trans ch_); replace PS := Aside0.mk ps_; replace BKb1 := Aside0.mk (ch_.blk BKb1.out (Nat.ne_of_gt NEb1.out)); replace HF := Aside0.mk (Foot.step HF.out (fun k hk hlt => ch_.block k hlt (by have h1_ : w.heap.size ≤ k := hk.1; have h2_ := GW.out; omega))); replace c1_0 : W3.cell? ⟨b1, 0, none⟩ = some (.pointer (some ⟨g, 0, none⟩)) := (blk_cell BKb1.out 0).trans rfl; clear ch_ ps_))
          refine leaves_cons (f := 61) (args := #[.pointer (some ⟨b1, 0, none⟩)]) (by simp) (by simp [go_sem]) ?_
          refine (block_up b1 .returning ((blk_cell BKb1.out 0).trans rfl) PS.out HDX.out).mono ?_
          rintro e u' w9 ⟨rfl, rfl, ch_, ps_⟩
          exact ⟨_, results_tmp rfl _ _ _, A, c, rfl, hcap.out, Foot.mono (Foot.step HF.out (fun k hk hlt => ch_.block k hlt (by have h1_ : w.heap.size ≤ k := hk.1; have h2_ := GW.out; omega))) (fun k hk => hk.1), CH.out.trans ch_, ps_⟩
        | false =>
          have HB_ := Lib.hid hb
          have HI_ := Lib.hid (show st.isM [125] = true by rw [hb, Bool.false_or] at hex; exact hex)
          clear hx hex hb HX HO
          go_wp2_with (first | (go_at_call 21; (with_reducible refine (bad_calls PS.out).mono ?_); rintro e W1 ⟨rfl, hb_⟩; rw [HB_.out]; replace CH := Aside0.mk (CH.out.trans (Chg.of_below hb_)); replace PS := Aside0.mk (PSt.below PS.out hb_); replace BKb1 := Aside0.mk (blk_below BKb1.out hb_); replace HF := Aside0.mk (Foot.step HF.out (fun k _ hlt => hb_.block k hlt)); replace c1_0 : W1.cell? ⟨b1, 0, none⟩ = some (.pointer (some ⟨g, 0, none⟩)) := (blk_cell BKb1.out 0).trans rfl; clear hb_) | (go_at_call 43; (with_reducible refine (is_calls ⟨#[125]⟩ PS.out).mono ?_); rintro e W2 ⟨rfl, hb_⟩; rw [HI_.out]; replace CH := Aside0.mk (CH.out.trans (Chg.of_below hb_)); replace PS := Aside0.mk (PSt.below PS.out hb_); replace BKb1 := Aside0.mk (blk_below BKb1.out hb_); replace HF := Aside0.mk (Foot.step HF.out (fun k _ hlt => hb_.block k hlt)); replace c1_0 : W2.cell? ⟨b1, 0, none⟩ = some (.pointer (some ⟨g, 0, none⟩)) := (blk_cell BKb1.out 0).trans rfl; clear hb_) | (go_at_call 46; (with_reducible refine (want_calls ⟨#[125]⟩ [125] rfl PS.out).mono ?_); rintro e W3 ⟨rfl, ch_, ps_⟩; replace CH := Aside0.mk (CH.out.trans ch_); replace PS := Aside0.mk ps_; replace BKb1 := Aside0.mk (ch_.blk BKb1.out (Nat.ne_of_gt NEb1.out)); replace HF := Aside0.mk (Foot.step HF.out (fun k hk hlt => ch_.block k hlt (by have h1_ : w.heap.size ≤ k := hk.1; have h2_ := GW.out; omega))); replace c1_0 : W3.cell? ⟨b1, 0, none⟩ = some (.pointer (some ⟨g, 0, none⟩)) := (blk_cell BKb1.out 0).trans rfl; clear ch_ ps_))
          refine leaves_cons (f := 61) (args := #[.pointer (some ⟨b1, 0, none⟩)]) (by simp) (by simp [go_sem]) ?_
          refine (block_up b1 .returning ((blk_cell BKb1.out 0).trans rfl) PS.out HDX.out).mono ?_
          rintro e u' w9 ⟨rfl, rfl, ch_, ps_⟩
          exact ⟨_, results_tmp rfl _ _ _, A, c, rfl, hcap.out, Foot.mono (Foot.step HF.out (fun k hk hlt => ch_.block k hlt (by have h1_ : w.heap.size ≤ k := hk.1; have h2_ := GW.out; omega))) (fun k hk => hk.1), CH.out.trans ch_, ps_⟩
      · rw [if_neg hex] at hx
        have hbi : st.bad = false ∧ st.isM [125] = false := by
          cases hb : st.bad <;> cases hi : st.isM [125] <;> rw [hb, hi] at hex <;> first | exact ⟨rfl, rfl⟩ | exact absurd rfl hex
        have HB_ := Lib.hid hbi.1
        have HI_ := Lib.hid hbi.2
        obtain ⟨⟨x1, s1⟩, h1, h2⟩ := Option.bind_eq_some_iff.1 hx
        cases gk with
        | zero =>
          subst hm
          cases h1
        | succ k1_ =>
          subst hm
          have G := IH (k1_ + 1) (by have := HN1.out; omega)
          have HR := Aside0.mk (show psStmts (ps k1_) (out ++ [x1]) s1 = some (b, t) from h2)
          have HX1 := Lib.hid (show (ps (k1_ + 1)).stmt st = some (x1, s1) from h1)
          clear hx hex hbi h1 h2 HX
          go_wp2_with (first | (go_at_call 21; (with_reducible refine (bad_calls PS.out).mono ?_); rintro e W1 ⟨rfl, hb_⟩; rw [HB_.out]; replace CH := Aside0.mk (CH.out.trans (Chg.of_below hb_)); replace PS := Aside0.mk (PSt.below PS.out hb_); replace BKb1 := Aside0.mk (blk_below BKb1.out hb_); replace HO := Aside0.mk (Kd.N_below HO.out hb_); replace c1_0 : W1.cell? ⟨b1, 0, none⟩ = some (.pointer (some ⟨g, 0, none⟩)) := (blk_cell BKb1.out 0).trans rfl; clear hb_) | (go_at_call 43; (with_reducible refine (is_calls ⟨#[125]⟩ PS.out).mono ?_); rintro e W2 ⟨rfl, hb_⟩; rw [HI_.out]; replace CH := Aside0.mk (CH.out.trans (Chg.of_below hb_)); replace PS := Aside0.mk (PSt.below PS.out hb_); replace BKb1 := Aside0.mk (blk_below BKb1.out hb_); replace HO := Aside0.mk (Kd.N_below HO.out hb_); replace c1_0 : W2.cell? ⟨b1, 0, none⟩ = some (.pointer (some ⟨g, 0, none⟩)) := (blk_cell BKb1.out 0).trans rfl; clear hb_) | (go_at_call 62; (with_reducible refine (G.stmt _ _ _ _ PS.out HX1.out).mono ?_); rintro e W4 ⟨A4, c4, A5, c5, A6, c6, rfl, fk_, ch_, ps_⟩; have hlt_ := Kd.N_lt HO.out; have FKx := Aside0.mk (show Kd.FK kStmt W4 (fun k => (w.heap.size ≤ k ∧ k ≠ b1) ∧ some k ≠ (.slice A out.length c : Value).ownBlock) x1 [.int .i64 x1.does, .int .i64 x1.pos.line, .int .i64 x1.pos.col, .string x1.name, .slice A4 x1.es.length c4, .slice A5 x1.thens.length c5, .slice A6 x1.elses.length c6] from Foot.mono fk_ (fun k hk => ⟨⟨Nat.le_trans CH.out.size hk, fun he => Nat.lt_irrefl _ (Nat.lt_of_lt_of_le (blk_lt BKb1.out) (he ▸ hk))⟩, fun he => Nat.lt_irrefl _ (Nat.lt_of_lt_of_le (hlt_ k he.symm) hk)⟩)); replace CH := Aside0.mk (CH.out.trans ch_); replace PS := Aside0.mk ps_; replace BKb1 := Aside0.mk (ch_.blk BKb1.out (Nat.ne_of_gt NEb1.out)); replace HO := Aside0.mk (Kd.N_step HO.out (fun k hk hlt => ch_.block k hlt (by have h1_ : w.heap.size ≤ k := hk.1; have h2_ := GW.out; omega))); replace c1_0 : W4.cell? ⟨b1, 0, none⟩ = some (.pointer (some ⟨g, 0, none⟩)) := (blk_cell BKb1.out 0).trans rfl; clear ch_ ps_ fk_ hlt_) | ((with_reducible refine gate_builtin (b := .append) (xs := #[.tmp 18, .tmp 21]) rfl ?_); at_builtin; refine Kd.N_append kStmt (w0 := W4) w.heap.size rfl (.tmp 18) (.tmp 21) 39 45 (.agg #[.int .i64 0, .int .i64 0, .int .i64 0, .string ⟨#[]⟩, .slice none 0 0, .slice none 0 0, .slice none 0 0]) 112 rfl Tryd.underlying39 infoStmt2 rfl (by decide) (by omega) (.slice A out.length c) _ x1 [.int .i64 x1.does, .int .i64 x1.pos.line, .int .i64 x1.pos.col, .string x1.name, .slice A4 x1.es.length c4, .slice A5 x1.thens.length c5, .slice A6 x1.elses.length c6] (fun k => w.heap.size ≤ k ∧ k ≠ b1) (fun k => (w.heap.size ≤ k ∧ k ≠ b1) ∧ some k ≠ (.slice A out.length c : Value).ownBlock) rfl rfl ?aP (fun _ hk => hk) ?aF HO.out (Below.refl _ _) CH.out.size ?aL ?_; (case aP => exact FKx.out); (case aF => exact fun k hk => ⟨Nat.le_trans CH.out.size hk, Nat.ne_of_gt (Nat.lt_of_lt_of_le (blk_lt BKb1.out) hk)⟩); (case aL => omega); intro v7 W7 ho7 hb7 hg7 hat7; replace CH := Aside0.mk (CH.out.thenB hb7); replace PS := Aside0.mk (PS.out.thenB hb7 GW.out); replace BKb1 := Aside0.mk (blk_grown BKb1.out hg7 (Kd.N_away HO.out (fun _ hk => hk.2))); replace c1_0 : W7.cell? ⟨b1, 0, none⟩ = some (.pointer (some ⟨g, 0, none⟩)) := (blk_cell BKb1.out 0).trans rfl; replace HO := Aside0.mk ho7; clear ho7 hb7 hg7 hat7))
          go_roundg k1_
          case measure => omega
          case rel => exact ⟨k1_, out ++ [x1], s1, rfl, by omega, by simp; omega, HR, HO, BKb1, PS, CH⟩
end Go.Proofs.YtgenlgfbjlclbaaDoor
