/- The parser's small functions: take, want, name, down, mark. -/
import Derived.Test.YtgenlgfbjlclbaaDoorPsA
import Derived.Test.YtgenlgfbjlclbaaDoorLexD
namespace Go.Proofs.YtgenlgfbjlclbaaDoor
open Go.RowKit Go.Proofs.YtgenlgfbjlclbaaDoorW.PrintWords Go.Proofs.YtgenlgfbjlclbaaDoorW.PrintLast Go.Proofs.YtgenlgfbjlclbaaDoorW.PrintMore
set_option linter.unusedVariables false
set_option linter.unusedSimpArgs false

set_option maxRecDepth 100000 in
set_option maxHeartbeats 1600000 in
theorem take_no {a : GA} {g : Nat} {s : PS} {w : World} (m : ByteArray) (l : Bytes) (hm : m.data.toList = l) (h : PSt a g s w) (ht : (s.take l).1 = false) :
    Calls Tryd.prog 23 #[.pointer (some ⟨g, 0, none⟩), .string m] w fun e w' => e = .returned (.bool false) ∧ Chg g w w' ∧ PSt a g s w' := by
  subst hm
  have PS := Aside0.mk h
  have CH := Aside0.mk (Chg.refl g w)
  cases hb : s.bad with
  | true =>
    have HB_ := Lib.hid hb
    clear h hb ht
    go_enter Tryd.func23, Tryd.ntmps23
    go_wp2_with (first | (go_at_call 21; (with_reducible refine (bad_calls PS.out).mono ?_); rintro e W1 ⟨rfl, hb_⟩; rw [HB_.out]; replace CH := Aside0.mk (CH.out.trans (Chg.of_below hb_)); replace PS := Aside0.mk (PSt.below PS.out hb_); clear hb_))
    go_ret
    exact ⟨rfl, CH.out, PS.out⟩
  | false =>
    have HB_ := Lib.hid hb
    have HI_ := Lib.hid (show s.isM m.data.toList = false by
      rw [PS.take, hb] at ht
      cases hi : s.isM m.data.toList with
      | false => rfl
      | true => rw [hi] at ht; cases ht)
    clear h hb ht
    go_enter Tryd.func23, Tryd.ntmps23
    go_wp2_with (first | (go_at_call 21; (with_reducible refine (bad_calls PS.out).mono ?_); rintro e W1 ⟨rfl, hb_⟩; rw [HB_.out]; replace CH := Aside0.mk (CH.out.trans (Chg.of_below hb_)); replace PS := Aside0.mk (PSt.below PS.out hb_); clear hb_) | (go_at_call 43; (with_reducible refine (is_calls m PS.out).mono ?_); rintro e W2 ⟨rfl, hb_⟩; rw [HI_.out]; replace CH := Aside0.mk (CH.out.trans (Chg.of_below hb_)); replace PS := Aside0.mk (PSt.below PS.out hb_); clear hb_))
    go_ret
    exact ⟨rfl, CH.out, PS.out⟩
set_option maxRecDepth 100000 in
set_option maxHeartbeats 1600000 in
theorem take_yes {a : GA} {g : Nat} {s : PS} {w : World} (m : ByteArray) (l : Bytes) (hm : m.data.toList = l) (h : PSt a g s w) (ht : (s.take l).1 = true) :
    Calls Tryd.prog 23 #[.pointer (some ⟨g, 0, none⟩), .string m] w fun e w' => e = .returned (.bool true) ∧ Chg g w w' ∧ PSt a g s.skip w' := by
  subst hm
  have PS := Aside0.mk h
  have CH := Aside0.mk (Chg.refl g w)
  have hbi : s.bad = false ∧ s.isM m.data.toList = true := by
    rw [PS.take] at ht
    cases hb : s.bad <;> cases hi : s.isM m.data.toList <;> rw [hb, hi] at ht <;> first | exact ⟨rfl, rfl⟩ | cases ht
  have HB_ := Lib.hid hbi.1
  have HI_ := Lib.hid hbi.2
  clear h ht hbi
  go_enter Tryd.func23, Tryd.ntmps23
  go_wp2_with (first | (go_at_call 21; (with_reducible refine (bad_calls PS.out).mono ?_); rintro e W1 ⟨rfl, hb_⟩; rw [HB_.out]; replace CH := Aside0.mk (CH.out.trans (Chg.of_below hb_)); replace PS := Aside0.mk (PSt.below PS.out hb_); clear hb_) | (go_at_call 43; (with_reducible refine (is_calls m PS.out).mono ?_); rintro e W2 ⟨rfl, hb_⟩; rw [HI_.out]; replace CH := Aside0.mk (CH.out.trans (Chg.of_below hb_)); replace PS := Aside0.mk (PSt.below PS.out hb_); clear hb_) | (go_at_call 44; (with_reducible refine (skip_calls PS.out).mono ?_); rintro e W3 ⟨rfl, ch_, ps_⟩; replace CH := Aside0.mk (CH.out.trans ch_); replace PS := Aside0.mk ps_; clear ch_ ps_))
  go_ret
  exact ⟨rfl, CH.out, PS.out⟩

set_option maxRecDepth 100000 in
set_option maxHeartbeats 1600000 in
theorem want_calls {a : GA} {g : Nat} {s : PS} {w : World} (m : ByteArray) (l : Bytes) (hm : m.data.toList = l) (h : PSt a g s w) :
    Calls Tryd.prog 46 #[.pointer (some ⟨g, 0, none⟩), .string m] w fun e w' => e = .returned (.tuple #[]) ∧ Chg g w w' ∧ PSt a g (s.want l) w' := by
  have PS := Aside0.mk h
  have CH := Aside0.mk (Chg.refl g w)
  clear h
  cases ht : (s.take l).1 with
  | true =>
    have HT := Lib.hid ht
    have HV := Lib.hid (show s.want l = s.skip by
      rw [PS.want]
      rw [PS.take] at ht
      split at ht
      · cases ht
      · rename_i hx; rw [if_neg hx])
    clear ht
    go_enter Tryd.func46, Tryd.ntmps46
    go_wp2_with (first | (go_at_call 23; (with_reducible refine (take_yes m l hm PS.out HT.out).mono ?_); rintro e W1 ⟨rfl, ch_, ps_⟩; replace CH := Aside0.mk (CH.out.trans ch_); replace PS := Aside0.mk ps_; clear ch_ ps_))
    go_end0
    exact ⟨rfl, CH.out, by rw [HV.out]; exact PS.out⟩
  | false =>
    have HT := Lib.hid ht
    have HV := Lib.hid (show s.want l = s.fail 12 by
      rw [PS.want]
      rw [PS.take] at ht
      split at ht
      · rename_i hx; rw [if_pos hx]
      · cases ht)
    clear ht
    go_enter Tryd.func46, Tryd.ntmps46
    go_wp2_with (first | (go_at_call 23; (with_reducible refine (take_no m l hm PS.out HT.out).mono ?_); rintro e W1 ⟨rfl, ch_, ps_⟩; replace CH := Aside0.mk (CH.out.trans ch_); replace PS := Aside0.mk ps_; clear ch_ ps_) | (go_at_call 26; (with_reducible refine (fail_calls 12 PS.out).mono ?_); rintro e W2 ⟨rfl, ch_, ps_⟩; replace CH := Aside0.mk (CH.out.trans ch_); replace PS := Aside0.mk ps_; clear ch_ ps_))
    go_end0
    exact ⟨rfl, CH.out, by rw [HV.out]; exact PS.out⟩

set_option maxRecDepth 100000 in
set_option maxHeartbeats 1600000 in
theorem name_calls {a : GA} {g : Nat} {s : PS} {w : World} (h : PSt a g s w) :
    Calls Tryd.prog 45 #[.pointer (some ⟨g, 0, none⟩)] w fun e w' => e = .returned (.string s.name.1) ∧ Chg g w w' ∧ PSt a g s.name.2 w' := by
  have PS := Aside0.mk h
  have CH := Aside0.mk (Chg.refl g w)
  clear h
  have hf0 := fld0
  have hf1 := fld1
  obtain ⟨t, ht⟩ : ∃ t, t = s.now := ⟨_, rfl⟩
  have HN := Lib.hid ht
  cases hb : s.bad with
  | true =>
    have HB_ := Lib.hid hb
    have HV := Lib.hid (show s.name = (⟨#[]⟩, s.fail 12) by rw [PS.name, hb]; rfl)
    clear ht hb
    go_enter Tryd.func45, Tryd.ntmps45
    go_wp2_with (first | (go_at_call 21; (with_reducible refine (bad_calls PS.out).mono ?_); rintro e W1 ⟨rfl, hb_⟩; rw [HB_.out]; replace CH := Aside0.mk (CH.out.trans (Chg.of_below hb_)); replace PS := Aside0.mk (PSt.below PS.out hb_); clear hb_) | (go_at_call 26; (with_reducible refine (fail_calls 12 PS.out).mono ?_); rintro e W3 ⟨rfl, ch_, ps_⟩; replace CH := Aside0.mk (CH.out.trans ch_); replace PS := Aside0.mk ps_; clear ch_ ps_))
    go_ret
    rw [HV.out]
    exact ⟨rfl, CH.out, PS.out⟩
  | false =>
    have HB_ := Lib.hid hb
    by_cases hk : t.kind = 1
    · have kk : (t.kind != 1) = false := by rw [hk]; rfl
      have HV := Lib.hid (show s.name = (t.text, s.skip) by rw [PS.name, hb, ← ht, kk]; rfl)
      clear ht hb hk
      go_enter Tryd.func45, Tryd.ntmps45
      go_wp2_with (first | (go_at_call 21; (with_reducible refine (bad_calls PS.out).mono ?_); rintro e W1 ⟨rfl, hb_⟩; rw [HB_.out]; replace CH := Aside0.mk (CH.out.trans (Chg.of_below hb_)); replace PS := Aside0.mk (PSt.below PS.out hb_); clear hb_) | (go_at_call 22; (with_reducible refine (now_calls PS.out).mono ?_); rintro e W2 ⟨rfl, hb_⟩; rw [← HN.out]; replace CH := Aside0.mk (CH.out.trans (Chg.of_below hb_)); replace PS := Aside0.mk (PSt.below PS.out hb_); clear hb_) | (go_at_call 44; (with_reducible refine (skip_calls PS.out).mono ?_); rintro e W3 ⟨rfl, ch_, ps_⟩; rw [← HN.out]; replace CH := Aside0.mk (CH.out.trans ch_); replace PS := Aside0.mk ps_; clear ch_ ps_))
      go_ret
      rw [HV.out]
      exact ⟨rfl, CH.out, PS.out⟩
    · have kk : (t.kind != 1) = true := bne_iff_ne.2 hk
      have HV := Lib.hid (show s.name = (⟨#[]⟩, s.fail 12) by rw [PS.name, hb, ← ht, kk]; rfl)
      clear ht hb hk
      go_enter Tryd.func45, Tryd.ntmps45
      go_wp2_with (first | (go_at_call 21; (with_reducible refine (bad_calls PS.out).mono ?_); rintro e W1 ⟨rfl, hb_⟩; rw [HB_.out]; replace CH := Aside0.mk (CH.out.trans (Chg.of_below hb_)); replace PS := Aside0.mk (PSt.below PS.out hb_); clear hb_) | (go_at_call 22; (with_reducible refine (now_calls PS.out).mono ?_); rintro e W2 ⟨rfl, hb_⟩; rw [← HN.out]; replace CH := Aside0.mk (CH.out.trans (Chg.of_below hb_)); replace PS := Aside0.mk (PSt.below PS.out hb_); clear hb_) | (go_at_call 26; (with_reducible refine (fail_calls 12 PS.out).mono ?_); rintro e W3 ⟨rfl, ch_, ps_⟩; replace CH := Aside0.mk (CH.out.trans ch_); replace PS := Aside0.mk ps_; clear ch_ ps_))
      go_ret
      rw [HV.out]
      exact ⟨rfl, CH.out, PS.out⟩

set_option maxRecDepth 100000 in
set_option maxHeartbeats 1600000 in
theorem down_no {a : GA} {g : Nat} {s : PS} {w : World} (h : PSt a g s w) (hd : s.down.1 = false) :
    Calls Tryd.prog 60 #[.pointer (some ⟨g, 0, none⟩)] w fun e w' => e = .returned (.bool false) ∧ Chg g w w' ∧ PSt a g s.down.2 w' := by
  have PS := Aside0.mk h
  have CH := Aside0.mk (Chg.refl g w)
  cases hb : s.bad with
  | true =>
    have HB_ := Lib.hid hb
    have HV := Lib.hid (show s.down = (false, s) by rw [PS.down, hb]; rfl)
    clear h hb hd
    go_enter Tryd.func60, Tryd.ntmps60
    go_wp2_with (first | (go_at_call 21; (with_reducible refine (bad_calls PS.out).mono ?_); rintro e W1 ⟨rfl, hb_⟩; rw [HB_.out]; replace CH := Aside0.mk (CH.out.trans (Chg.of_below hb_)); replace PS := Aside0.mk (PSt.below PS.out hb_); clear hb_))
    go_ret
    rw [HV.out]
    exact ⟨rfl, CH.out, PS.out⟩
  | false =>
    have HB_ := Lib.hid hb
    have h200 : 200 ≤ s.deep := by
      rw [PS.down, hb] at hd
      by_cases h2 : 200 ≤ s.deep
      · exact h2
      · rw [if_neg (by decide), if_neg h2] at hd
        cases hd
    have HV := Lib.hid (show s.down = (false, s.fail 13) by rw [PS.down, hb, if_neg (by decide), if_pos h200])
    have kd : decide ((200 : Int) ≤ s.deep) = true := decide_eq_true h200
    obtain ⟨ad, c, hbk, hF, hlc⟩ := h.blk
    have BK0 := Aside0.mk hbk
    clear h hb hd h200 hbk hF hlc
    go_enter Tryd.func60, Tryd.ntmps60
    go_wp2_with (first | (go_at_call 21; (with_reducible refine (bad_calls PS.out).mono ?_); rintro e W1 ⟨rfl, hb_⟩; rw [HB_.out]; have hb0_ := hb_; replace CH := Aside0.mk (CH.out.trans (Chg.of_below hb_)); replace PS := Aside0.mk (PSt.below PS.out hb_); clear hb_; have BK1 := Aside0.mk (blk_below BK0.out hb0_); have cg_1 : W1.cell? ⟨g, 1, none⟩ = some (.int .i64 s.deep) := (blk_cell BK1.out 1).trans rfl; clear hb0_) | (go_at_call 26; (with_reducible refine (fail_calls 13 PS.out).mono ?_); rintro e W2 ⟨rfl, ch_, ps_⟩; replace CH := Aside0.mk (CH.out.trans ch_); replace PS := Aside0.mk ps_; clear ch_ ps_))
    go_ret
    rw [HV.out]
    exact ⟨rfl, CH.out, PS.out⟩
set_option maxRecDepth 100000 in
set_option maxHeartbeats 1600000 in
theorem down_yes {a : GA} {g : Nat} {s : PS} {w : World} (h : PSt a g s w) (hd : s.down.1 = true) :
    Calls Tryd.prog 60 #[.pointer (some ⟨g, 0, none⟩)] w fun e w' => e = .returned (.bool true) ∧ Chg g w w' ∧ PSt a g s.down.2 w' := by
  have PS0 := Aside0.mk h
  obtain ⟨ts, deep, f⟩ := s
  obtain ⟨hgp, hwt, hd0, hd1, ad, c, hbk, hF, hlc⟩ := h
  obtain ⟨t, r, rfl, hwr⟩ := hwt.cons
  replace hd0 : 0 ≤ deep := hd0
  replace hd1 : deep ≤ 200 := hd1
  have BKg : Aside0 (w.heap[g]? = some (.cells #[.slice (some ad) (r.length + 1) c, .int .i64 deep, .int .i64 f.e, .int .i64 f.pos.line, .int .i64 f.pos.col] 68 (0, 0))) := ⟨hbk⟩
  replace hF : Kd.F kToken w (fun k => k < g) (some ad) (r.length + 1) (t :: r) := hF
  replace hlc : r.length + 1 ≤ c := hlc
  have HF := Aside0.mk hF
  have HLC := Lib.hid hlc
  have hm := Kd.F_max hF
  have hb2 : PS.bad ⟨t :: r, deep, f⟩ = false := by
    rw [PS.down] at hd
    split at hd
    · cases hd
    · rename_i hx; simpa using hx
  have hdl : ¬ 200 ≤ deep := by
    rw [PS.down, hb2, if_neg (by decide)] at hd
    split at hd
    · cases hd
    · rename_i hx; exact hx
  have HV := Lib.hid (show PS.down ⟨t :: r, deep, f⟩ = (true, ⟨t :: r, deep + 1, f⟩) by rw [PS.down, hb2, if_neg (by decide), if_neg (show ¬ 200 ≤ (PS.mk (t :: r) deep f).deep from hdl)])
  have kd : decide ((200 : Int) ≤ deep) = false := decide_eq_false hdl
  have HB_ := Lib.hid hb2
  have CH := Aside0.mk (Chg.refl g w)
  have HGP := Aside0.mk hgp
  have HNg := Lib.hid (Nat.le_refl g)
  have HWT := Lib.hid hwt
  have HD := Lib.hid (show 0 ≤ deep + 1 ∧ deep + 1 ≤ 200 by omega)
  clear hF hbk hgp hwt hwr hd hb2 hdl
  go_enter Tryd.func60, Tryd.ntmps60
  go_wp2_with (first | (go_at_call 21; (with_reducible refine (bad_calls PS0.out).mono ?_); rintro e W1 ⟨rfl, hb_⟩; rw [HB_.out]; replace CH := Aside0.mk (CH.out.trans (Chg.of_below hb_)); replace BKg := Aside0.mk (blk_below BKg.out hb_); replace HF := Aside0.mk (Kd.F_below HF.out hb_); have cg_0 : W1.cell? ⟨g, 0, none⟩ = some (.slice (some ad) (r.length + 1) c) := (blk_cell BKg.out 0).trans rfl; have zg_0 : W1.frozen? ⟨g, 0, none⟩ = false := blk_frozen BKg.out 0; have cg_1 : W1.cell? ⟨g, 1, none⟩ = some (.int .i64 deep) := (blk_cell BKg.out 1).trans rfl; have zg_1 : W1.frozen? ⟨g, 1, none⟩ = false := blk_frozen BKg.out 1; have cg_2 : W1.cell? ⟨g, 2, none⟩ = some (.int .i64 f.e) := (blk_cell BKg.out 2).trans rfl; have zg_2 : W1.frozen? ⟨g, 2, none⟩ = false := blk_frozen BKg.out 2; have cg_3 : W1.cell? ⟨g, 3, none⟩ = some (.int .i64 f.pos.line) := (blk_cell BKg.out 3).trans rfl; have zg_3 : W1.frozen? ⟨g, 3, none⟩ = false := blk_frozen BKg.out 3; have cg_4 : W1.cell? ⟨g, 4, none⟩ = some (.int .i64 f.pos.col) := (blk_cell BKg.out 4).trans rfl; have zg_4 : W1.frozen? ⟨g, 4, none⟩ = false := blk_frozen BKg.out 4; clear hb_) | ((with_reducible refine gate_store (t := 3) (p := 18) (v := .tmp 16) rfl ?_); refine put_event (w1 := ?w1p_2) (g := g) (cs := #[.slice (some ad) (r.length + 1) c, .int .i64 (deep + 1), .int .i64 f.e, .int .i64 f.pos.line, .int .i64 f.pos.col]) (T := 68) ?hg (t := 3) (p := 18) (v := .tmp 16) ?ha ?hn ?hr ?hk ?hb ?_; (case ha => rfl); (case hn => rfl); (case hg => rfl); (case hr => first | (go_simp; done) | (go_simp; rfl)); (case hk => exact (Chg.refl _ _).set _ _); (case hb => exact blk_put BKg.out 1 _ rfl); intro W2 ch_ hbox_; replace CH := Aside0.mk (CH.out.trans ch_); replace BKg := Aside0.mk hbox_; replace HF := Aside0.mk (Kd.F_step HF.out (fun k hk hlt => ch_.block k hlt (by have hx := HNg.out; have hy : k < g := hk; omega))); replace Cg := cl_of BKg.out; clear ch_ hbox_))
  go_ret
  refine ⟨rfl, CH.out, ?_⟩
  rw [HV.out]
  exact ⟨HGP.out.step CH.out (Nat.le_refl _), HWT.out, HD.out.1, HD.out.2, ad, c, BKg.out, HF.out, HLC.out⟩

theorem mark_no {s : PS} {ms : List Bytes} (h : ms.find? (fun m => s.now.kind == 4 && s.now.text.data.toList == m) = none) : s.mark ms = [] := by rw [PS.mark, h]; rfl
set_option maxRecDepth 100000 in
set_option maxHeartbeats 3200000 in
theorem mark_calls {a : GA} {g : Nat} {s : PS} {w : World} (A : Option Addr) (n c : Nat) (ms : List Bytes) (h : PSt a g s w) (hM : Kd.F Kd.string w (fun k => k < g) A n (strs ms)) :
    Calls Tryd.prog 93 #[.pointer (some ⟨g, 0, none⟩), .slice A n c] w fun e w' => e = .returned (.string (bsOf (s.mark ms))) ∧ Below w.heap.size w w' := by
  have PS := Aside0.mk h
  have HB := Aside0.mk (Below.refl w.heap.size w)
  have HM := Aside0.mk hM
  have hm := Kd.F_max hM
  have hlen : ms.length = n := by have := Kd.F_len hM; rw [strs, List.length_map] at this; exact this
  have hf0 := fld0
  have hf1 := fld1
  obtain ⟨t, ht⟩ : ∃ t, t = s.now := ⟨_, rfl⟩
  have HN := Lib.hid ht
  clear h hM ht
  go_enter Tryd.func93, Tryd.ntmps93
  go_wp2
  go_loopg [9] n (fun kq v9 w' => ∃ k : Nat, v9 = .int .i64 k ∧ kq + k = n ∧ Aside0 ((ms.take k).find? (fun m => t.kind == 4 && t.text.data.toList == m) = none) ∧ Aside0 (PSt a g s w') ∧ Aside0 (Below w.heap.size w w'))
  case atStart => exact ⟨0, rfl, by omega, ⟨rfl⟩, PS, HB⟩
  case round =>
    clear PS HB
    obtain ⟨k, rfl, hk, HNO, PS, HB⟩ := hrel
    cases gk with
    | zero =>
      have hge : decide ((k : Int) < (n : Int)) = false := by simp; omega
      have HV := Aside0.mk (show s.mark ms = [] by
        have h := HNO.out
        rw [List.take_of_length_le (by omega), HN.out] at h
        exact mark_no h)
      go_wp2
      go_ret
      refine ⟨?_, HB.out⟩
      rw [HV.out]
      rfl
    | succ k1_ =>
      have hk1 : (k : Int) < (n : Int) := by omega
      obtain ⟨ad, hA, hcell⟩ := strAt (xs := strs ms) (Kd.F_now (Kd.F_below HM.out HB.out)) k (by omega) (by omega)
      obtain rfl := hA
      have hrd := rdS_strs ms k (by omega)
      replace hcell : wr.cell? (ad.add k) = some (.string (rdS (strs ms) (k : Int))) := hcell
      rw [hrd] at hcell
      obtain ⟨Y, hY⟩ : ∃ Y, Y = bsOf (ms.getD k []) := ⟨_, rfl⟩
      rw [← hY] at hcell
      have hyl : Y.toList = ms.getD k [] := by rw [hY, Lib.toList_data]; rfl
      have hfs := find_take ms (fun m => t.kind == 4 && t.text.data.toList == m) k (by omega)
      rw [HNO.out, Option.none_or] at hfs
      have HFS := Lib.hid hfs
      have HY := Lib.hid hY
      have hdr : (ms.find? (fun m => t.kind == 4 && t.text.data.toList == m)) = ((ms.take (k + 1)).find? (fun m => t.kind == 4 && t.text.data.toList == m)).or ((ms.drop (k + 1)).find? (fun m => t.kind == 4 && t.text.data.toList == m)) := by
        rw [← List.find?_append, List.take_append_drop]
      have HDR := Lib.hid hdr
      clear hrd hfs hY hdr
      by_cases k4 : t.kind = 4
      · have b4 : (t.kind == 4) = true := beq_iff_eq.2 k4
        cases hx : (t.text.toList == Y.toList) with
        | true =>
          have HX := Lib.hid (show (t.kind == 4 && t.text.data.toList == ms.getD k []) = true by rw [b4, ← hyl, ← Lib.toList_data]; exact hx)
          clear k4 hyl
          go_wp2_with (first | (go_at_call 22; (with_reducible refine (now_calls PS.out).mono ?_); rintro e W1 ⟨rfl, hb_⟩; rw [← HN.out]; replace HB := Aside0.mk (below_step HB.out hb_); replace PS := Aside0.mk (PSt.below PS.out hb_); clear hb_))
          go_ret
          refine ⟨?_, HB.out⟩
          have hv : s.mark ms = ms.getD k [] := by
            rw [PS.mark, ← HN.out, HDR.out, HFS.out, if_pos HX.out]
            rfl
          rw [hv, ← HY.out]
          rfl
        | false =>
          have HX := Lib.hid (show (t.kind == 4 && t.text.data.toList == ms.getD k []) = false by rw [b4, ← hyl, ← Lib.toList_data]; exact hx)
          clear k4 hyl
          go_wp2_with (first | (go_at_call 22; (with_reducible refine (now_calls PS.out).mono ?_); rintro e W1 ⟨rfl, hb_⟩; rw [← HN.out]; replace HB := Aside0.mk (below_step HB.out hb_); replace PS := Aside0.mk (PSt.below PS.out hb_); clear hb_))
          go_roundg k1_
          case measure => omega
          case rel => exact ⟨k + 1, rfl, by omega, ⟨by rw [HFS.out, HX.out]; rfl⟩, PS, HB⟩
      · have b4 : (t.kind == 4) = false := beq_eq_false_iff_ne.2 k4
        have HX := Lib.hid (show (t.kind == 4 && t.text.data.toList == ms.getD k []) = false by rw [b4]; rfl)
        clear k4 hyl
        go_wp2_with (first | (go_at_call 22; (with_reducible refine (now_calls PS.out).mono ?_); rintro e W1 ⟨rfl, hb_⟩; rw [← HN.out]; replace HB := Aside0.mk (below_step HB.out hb_); replace PS := Aside0.mk (PSt.below PS.out hb_); clear hb_))
        go_roundg k1_
        case measure => omega
        case rel => exact ⟨k + 1, rfl, by omega, ⟨by rw [HFS.out, HX.out]; rfl⟩, PS, HB⟩
end Go.Proofs.YtgenlgfbjlclbaaDoor
