/- args: what a function is called with. -/
import Derived.Test.YtgenlgfbjlclbaaDoorPsE
namespace Go.Proofs.YtgenlgfbjlclbaaDoor
open Go.RowKit Go.Proofs.YtgenlgfbjlclbaaDoorW.PrintWords Go.Proofs.YtgenlgfbjlclbaaDoorW.PrintLast Go.Proofs.YtgenlgfbjlclbaaDoorW.PrintMore
set_option linter.unusedVariables false
set_option linter.unusedSimpArgs false

theorem infoExpr2 : (Tryd.prog.info? 51).map (fun i => (i.zero, i.size, i.bytes)) = some (some (.agg #[.int .i64 0, .int .i64 0, .int .i64 0, .int .i64 0, .string ⟨#[]⟩, .int .i64 0, .slice none 0 0]), 7, 80) := by kernel_rfl
theorem ps_args (m : Nat) : (ps (m + 1)).args = psArgs (ps m) := rfl
set_option maxRecDepth 100000 in
set_option maxHeartbeats 6400000 in
theorem args_step {a : GA} {g : Nat} (n : Nat) (hn : n ≤ 1000000) (IH : ∀ m, m ≤ n → Good a g (ps m)) (s : PS) (xs : List Expr) (s' : PS) (w : World) (h : PSt a g s w) (hx : psArgs (ps n) [] s = some (xs, s')) :
    Calls Tryd.prog 98 #[.pointer (some ⟨g, 0, none⟩)] w (APost a g w xs s') := by
  have PS := Aside0.mk h
  have CH := Aside0.mk (Chg.refl g w)
  have GW := Aside0.mk h.lt
  have HX0 := Lib.hid hx
  clear h hx
  go_enter Tryd.func98, Tryd.ntmps98
  go_wp2
  go_loopg [3] n (fun kq v3 w' => ∃ (m : Nat) (out : List Expr) (st : Go.Proofs.YtgenlgfbjlclbaaDoor.PS), kq = m ∧ m ≤ n ∧ out.length + m = n ∧ Aside0 (psArgs (ps m) out st = some (xs, s')) ∧ Aside0 (Kd.N kExpr 51 w' w.heap.size (fun k => w.heap.size ≤ k) v3 out) ∧ Aside0 (PSt a g st w') ∧ Aside0 (Chg g w w'))
  case atStart => exact ⟨n, [], s, rfl, Nat.le_refl _, by simp, ⟨HX0.out⟩, ⟨Kd.N_nil _ _ _ _ _⟩, PS, CH⟩
  case round =>
    clear PS CH
    obtain ⟨m, out, st, hm, hmn, hol, HX, HO, PS, CH⟩ := hrel
    obtain ⟨A, c, hv⟩ := Kd.N_slice HO.out
    obtain rfl := hv
    have hcap := Lib.hid (Kd.N_reads' HO.out).2.1
    have hmx : out.length ≤ 9223372036854775807 := by omega
    have hx := HX.out
    unfold psArgs at hx
    by_cases hex : (st.bad || st.isM [41]) = true
    · rw [if_pos hex] at hx
      obtain ⟨rfl, rfl⟩ := Prod.mk.inj (Option.some.inj hx)
      have HF := Aside0.mk (Kd.N_F HO.out)
      cases hb : st.bad with
      | true =>
        have HB_ := Lib.hid hb
        clear hx hex hb HX HO
        go_wp2_with (first | (go_at_call 21; (with_reducible refine (bad_calls PS.out).mono ?_); rintro e W1 ⟨rfl, hb_⟩; rw [HB_.out]; replace CH := Aside0.mk (CH.out.trans (Chg.of_below hb_)); replace PS := Aside0.mk (PSt.below PS.out hb_); replace HF := Aside0.mk (Foot.step HF.out (fun k _ hlt => hb_.block k hlt)); clear hb_) | (go_at_call 46; (with_reducible refine (want_calls ⟨#[41]⟩ [41] rfl PS.out).mono ?_); rintro e W3 ⟨rfl, ch_, ps_⟩; replace CH := Aside0.mk (CH.out.trans ch_); replace PS := Aside0.mk ps_; replace HF := Aside0.mk (Foot.step HF.out (fun k hk hlt => ch_.block k hlt (by have h1_ : w.heap.size ≤ k := hk; have h2_ := GW.out; omega))); clear ch_ ps_))
        go_ret
        exact ⟨A, c, rfl, hcap.out, HF.out, CH.out, PS.out⟩
      | false =>
        have HB_ := Lib.hid hb
        have HI_ := Lib.hid (show st.isM [41] = true by rw [hb, Bool.false_or] at hex; exact hex)
        clear hx hex hb HX HO
        go_wp2_with (first | (go_at_call 21; (with_reducible refine (bad_calls PS.out).mono ?_); rintro e W1 ⟨rfl, hb_⟩; rw [HB_.out]; replace CH := Aside0.mk (CH.out.trans (Chg.of_below hb_)); replace PS := Aside0.mk (PSt.below PS.out hb_); replace HF := Aside0.mk (Foot.step HF.out (fun k _ hlt => hb_.block k hlt)); clear hb_) | (go_at_call 43; (with_reducible refine (is_calls ⟨#[41]⟩ PS.out).mono ?_); rintro e W2 ⟨rfl, hb_⟩; rw [HI_.out]; replace CH := Aside0.mk (CH.out.trans (Chg.of_below hb_)); replace PS := Aside0.mk (PSt.below PS.out hb_); replace HF := Aside0.mk (Foot.step HF.out (fun k _ hlt => hb_.block k hlt)); clear hb_) | (go_at_call 46; (with_reducible refine (want_calls ⟨#[41]⟩ [41] rfl PS.out).mono ?_); rintro e W3 ⟨rfl, ch_, ps_⟩; replace CH := Aside0.mk (CH.out.trans ch_); replace PS := Aside0.mk ps_; replace HF := Aside0.mk (Foot.step HF.out (fun k hk hlt => ch_.block k hlt (by have h1_ : w.heap.size ≤ k := hk; have h2_ := GW.out; omega))); clear ch_ ps_))
        go_ret
        exact ⟨A, c, rfl, hcap.out, HF.out, CH.out, PS.out⟩
    · rw [if_neg hex] at hx
      have hbi : st.bad = false ∧ st.isM [41] = false := by
        cases hb : st.bad <;> cases hi : st.isM [41] <;> rw [hb, hi] at hex <;> first | exact ⟨rfl, rfl⟩ | exact absurd rfl hex
      have HB_ := Lib.hid hbi.1
      have HI_ := Lib.hid hbi.2
      obtain ⟨⟨x1, s1⟩, h1, h2⟩ := Option.bind_eq_some_iff.1 hx
      cases gk with
      | zero =>
        subst hm
        cases h1
      | succ k1_ =>
        subst hm
        have G := IH (k1_ + 1) hmn
        have HR := Aside0.mk (show psArgs (ps k1_) (out ++ [x1]) s1 = some (xs, s') from h2)
        by_cases ho : out = []
        · have kl : ¬ 0 < out.length := by rw [ho]; decide
          have HX1 := Lib.hid (show (ps (k1_ + 1)).whole st = some (x1, s1) by rw [if_pos ho] at h1; exact h1)
          clear hx hex hbi h1 h2 ho HX
          go_wp2_with (first | (go_at_call 21; (with_reducible refine (bad_calls PS.out).mono ?_); rintro e W1 ⟨rfl, hb_⟩; rw [HB_.out]; replace CH := Aside0.mk (CH.out.trans (Chg.of_below hb_)); replace PS := Aside0.mk (PSt.below PS.out hb_); replace HO := Aside0.mk (Kd.N_below HO.out hb_); clear hb_) | (go_at_call 43; (with_reducible refine (is_calls ⟨#[41]⟩ PS.out).mono ?_); rintro e W2 ⟨rfl, hb_⟩; rw [HI_.out]; replace CH := Aside0.mk (CH.out.trans (Chg.of_below hb_)); replace PS := Aside0.mk (PSt.below PS.out hb_); replace HO := Aside0.mk (Kd.N_below HO.out hb_); clear hb_) | (go_at_call 73; (with_reducible refine (G.whole _ _ _ _ PS.out HX1.out).mono ?_); rintro e W4 ⟨A6, c6, rfl, fk_, ch_, ps_⟩; have HOLD := Aside0.mk (Kd.N_old (Kd.N_below HO.out (Below.refl _ _)) (Below.refl _ _)); have hlt_ := Kd.N_lt HO.out; have FKx := Aside0.mk (show Kd.FK kExpr W4 (fun k => w.heap.size ≤ k ∧ some k ≠ (.slice A out.length c : Value).ownBlock) x1 [.int .i64 x1.kind, .int .i64 x1.pos.line, .int .i64 x1.pos.col, .int .i64 x1.num, .string x1.name, .int .i64 x1.op, .slice A6 x1.kids.length c6] from Foot.mono fk_ (fun k hk => ⟨Nat.le_trans CH.out.size hk, fun he => Nat.lt_irrefl _ (Nat.lt_of_lt_of_le (hlt_ k he.symm) hk)⟩)); replace CH := Aside0.mk (CH.out.trans ch_); replace PS := Aside0.mk ps_; replace HO := Aside0.mk (Kd.N_step HO.out (fun k hk hlt => ch_.block k hlt (by have h1_ : w.heap.size ≤ k := hk; have h2_ := GW.out; omega))); clear ch_ ps_ fk_ hlt_ HOLD) | ((with_reducible refine gate_builtin (b := .append) (xs := #[.tmp 17, .tmp 20]) rfl ?_); at_builtin; refine Kd.N_append kExpr (w0 := W4) w.heap.size rfl (.tmp 17) (.tmp 20) 43 51 (.agg #[.int .i64 0, .int .i64 0, .int .i64 0, .int .i64 0, .string ⟨#[]⟩, .int .i64 0, .slice none 0 0]) 80 rfl Tryd.underlying43 infoExpr2 rfl (by decide) (by omega) (.slice A out.length c) _ x1 [.int .i64 x1.kind, .int .i64 x1.pos.line, .int .i64 x1.pos.col, .int .i64 x1.num, .string x1.name, .int .i64 x1.op, .slice A6 x1.kids.length c6] (fun k => w.heap.size ≤ k) (fun k => w.heap.size ≤ k ∧ some k ≠ (.slice A out.length c : Value).ownBlock) rfl rfl ?aP (fun _ hk => hk) ?aF HO.out (Below.refl _ _) CH.out.size ?aL ?_; (case aP => exact FKx.out); (case aF => exact fun k hk => Nat.le_trans CH.out.size hk); (case aL => omega); intro v7 W7 ho7 hb7 hg7 hat7; replace CH := Aside0.mk (CH.out.thenB hb7); replace PS := Aside0.mk (PS.out.thenB hb7 GW.out); replace HO := Aside0.mk ho7; clear ho7 hb7 hg7 hat7))
          go_roundg k1_
          case measure => omega
          case rel => exact ⟨k1_, out ++ [x1], s1, rfl, by omega, by simp; omega, HR, HO, PS, CH⟩
        · have kl : 0 < out.length := List.length_pos_iff.2 ho
          have HX1 := Lib.hid (show (ps (k1_ + 1)).whole (st.want [44]) = some (x1, s1) by rw [if_neg ho] at h1; exact h1)
          clear hx hex hbi h1 h2 ho HX
          go_wp2_with (first | (go_at_call 21; (with_reducible refine (bad_calls PS.out).mono ?_); rintro e W1 ⟨rfl, hb_⟩; rw [HB_.out]; replace CH := Aside0.mk (CH.out.trans (Chg.of_below hb_)); replace PS := Aside0.mk (PSt.below PS.out hb_); replace HO := Aside0.mk (Kd.N_below HO.out hb_); clear hb_) | (go_at_call 43; (with_reducible refine (is_calls ⟨#[41]⟩ PS.out).mono ?_); rintro e W2 ⟨rfl, hb_⟩; rw [HI_.out]; replace CH := Aside0.mk (CH.out.trans (Chg.of_below hb_)); replace PS := Aside0.mk (PSt.below PS.out hb_); replace HO := Aside0.mk (Kd.N_below HO.out hb_); clear hb_) | (go_at_call 46; (with_reducible refine (want_calls ⟨#[44]⟩ [44] rfl PS.out).mono ?_); rintro e W3 ⟨rfl, ch_, ps_⟩; replace CH := Aside0.mk (CH.out.trans ch_); replace PS := Aside0.mk ps_; replace HO := Aside0.mk (Kd.N_step HO.out (fun k hk hlt => ch_.block k hlt (by have h1_ : w.heap.size ≤ k := hk; have h2_ := GW.out; omega))); clear ch_ ps_) | (go_at_call 73; (with_reducible refine (G.whole _ _ _ _ PS.out HX1.out).mono ?_); rintro e W4 ⟨A6, c6, rfl, fk_, ch_, ps_⟩; have HOLD := Aside0.mk (Kd.N_old (Kd.N_below HO.out (Below.refl _ _)) (Below.refl _ _)); have hlt_ := Kd.N_lt HO.out; have FKx := Aside0.mk (show Kd.FK kExpr W4 (fun k => w.heap.size ≤ k ∧ some k ≠ (.slice A out.length c : Value).ownBlock) x1 [.int .i64 x1.kind, .int .i64 x1.pos.line, .int .i64 x1.pos.col, .int .i64 x1.num, .string x1.name, .int .i64 x1.op, .slice A6 x1.kids.length c6] from Foot.mono fk_ (fun k hk => ⟨Nat.le_trans CH.out.size hk, fun he => Nat.lt_irrefl _ (Nat.lt_of_lt_of_le (hlt_ k he.symm) hk)⟩)); replace CH := Aside0.mk (CH.out.trans ch_); replace PS := Aside0.mk ps_; replace HO := Aside0.mk (Kd.N_step HO.out (fun k hk hlt => ch_.block k hlt (by have h1_ : w.heap.size ≤ k := hk; have h2_ := GW.out; omega))); clear ch_ ps_ fk_ hlt_ HOLD) | ((with_reducible refine gate_builtin (b := .append) (xs := #[.tmp 17, .tmp 20]) rfl ?_); at_builtin; refine Kd.N_append kExpr (w0 := W4) w.heap.size rfl (.tmp 17) (.tmp 20) 43 51 (.agg #[.int .i64 0, .int .i64 0, .int .i64 0, .int .i64 0, .string ⟨#[]⟩, .int .i64 0, .slice none 0 0]) 80 rfl Tryd.underlying43 infoExpr2 rfl (by decide) (by omega) (.slice A out.length c) _ x1 [.int .i64 x1.kind, .int .i64 x1.pos.line, .int .i64 x1.pos.col, .int .i64 x1.num, .string x1.name, .int .i64 x1.op, .slice A6 x1.kids.length c6] (fun k => w.heap.size ≤ k) (fun k => w.heap.size ≤ k ∧ some k ≠ (.slice A out.length c : Value).ownBlock) rfl rfl ?aP (fun _ hk => hk) ?aF HO.out (Below.refl _ _) CH.out.size ?aL ?_; (case aP => exact FKx.out); (case aF => exact fun k hk => Nat.le_trans CH.out.size hk); (case aL => omega); intro v7 W7 ho7 hb7 hg7 hat7; replace CH := Aside0.mk (CH.out.thenB hb7); replace PS := Aside0.mk (PS.out.thenB hb7 GW.out); replace HO := Aside0.mk ho7; clear ho7 hb7 hg7 hat7))
          go_roundg k1_
          case measure => omega
          case rel => exact ⟨k1_, out ++ [x1], s1, rfl, by omega, by simp; omega, HR, HO, PS, CH⟩
end Go.Proofs.YtgenlgfbjlclbaaDoor
