/- All the tokens of a text: what lex.All computes. -/
import Derived.Test.YtgenlgfbjlclbaaDoorLexD
namespace Go.Proofs.YtgenlgfbjlclbaaDoor
open Go.RowKit Go.Proofs.YtgenlgfbjlclbaaDoorW.PrintWords Go.Proofs.YtgenlgfbjlclbaaDoorW.PrintLast Go.Proofs.YtgenlgfbjlclbaaDoorW.PrintMore
set_option linter.unusedVariables false
set_option linter.unusedSimpArgs false

theorem tok_err {q : Pos} {l : Bytes} {k : Int} (h : tokenL q l = .error k) : k = 10 ∨ k = 11 := by
  cases l with
  | nil => cases h
  | cons c r =>
    rw [tokenL] at h
    split at h
    · cases h
    · split at h
      · split at h
        · injection h with h
          exact .inr h.symm
        · cases h
      · split at h
        · injection h with h
          exact .inl h.symm
        · cases h
theorem tok_ok {q : Pos} {l : Bytes} {t : Token} (h : tokenL q l = .ok t) : (t.kind = 0 ∧ l = [] ∧ t = tok 0 [] 0 q) ∨ (t.kind ≠ 0 ∧ 1 ≤ t.text.size) := by
  cases l with
  | nil =>
    injection h with h
    exact .inl ⟨by rw [← h]; rfl, rfl, h.symm⟩
  | cons c r =>
    right
    rw [tokenL] at h
    have hrun : ∀ b, (isDigit c || (b && isLetter c)) = true → 1 ≤ (runL b (c :: r)).length := fun b hb => by
      rw [runL_cons, if_pos hb]
      simp
    split at h
    · rename_i hl
      injection h with h
      subst h
      refine ⟨?_, ?_⟩
      · show (if wordsL.contains (runL true (c :: r)) = true then (3 : Int) else 1) ≠ 0
        split <;> decide
      · show 1 ≤ (bsOf (runL true (c :: r))).size
        rw [bsOf_size]
        exact hrun true (by rw [hl]; simp)
    · split at h
      · rename_i hd
        split at h
        · cases h
        · injection h with h
          subst h
          refine ⟨by show (2 : Int) ≠ 0; decide, ?_⟩
          show 1 ≤ (bsOf (runL false (c :: r))).size
          rw [bsOf_size]
          exact hrun false (by rw [hd]; rfl)
      · split at h
        · cases h
        · rename_i m hm
          injection h with h
          subst h
          refine ⟨by show (4 : Int) ≠ 0; decide, ?_⟩
          show 1 ≤ (bsOf m).size
          rw [bsOf_size]
          exact List.length_pos_iff.2 (marks_ne m (List.mem_of_find?_eq_some hm))
theorem lexF_err (n : Nat) (p : Pos) (l : Bytes) (out : List Token) (k : Int) (h : tokenL (blankL false p l).1 (blankL false p l).2 = .error k) : lexF (n + 1) p l out = .error ⟨k, (blankL false p l).1⟩ := by
  rw [lexF]
  simp only [h]
theorem lexF_end (n : Nat) (p : Pos) (l : Bytes) (out : List Token) (t : Token) (h : tokenL (blankL false p l).1 (blankL false p l).2 = .ok t) (h0 : t.kind = 0) : lexF (n + 1) p l out = .ok (out ++ [t]) := by
  rw [lexF]
  simp only [h, if_pos h0]
theorem lexF_more (n : Nat) (p : Pos) (l : Bytes) (out : List Token) (t : Token) (h : tokenL (blankL false p l).1 (blankL false p l).2 = .ok t) (h0 : t.kind ≠ 0) :
    lexF (n + 1) p l out = lexF n (advs (blankL false p l).1 ((blankL false p l).2.take t.text.size)) ((blankL false p l).2.drop t.text.size) (out ++ [t]) := by
  rw [lexF]
  simp only [h, if_neg h0]

theorem next_err (ga : GA) (N g : Nat) (s : ByteArray) (i : Nat) (p : Pos) (w : World) (k : Int) (hb : w.heap[g]? = some (.cells #[.string s, .int .i64 i, .int .i64 p.line, .int .i64 p.col] 104 (0, 0))) (hin : i ≤ s.size) (hs : s.size ≤ 65536) (hp : PB p i) (hG : GP ga N w) (hN : N ≤ g) (h : tokenL (blankL false p (s.data.toList.drop i)).1 (blankL false p (s.data.toList.drop i)).2 = .error k) :
    Calls Tryd.prog 42 #[.pointer (some ⟨g, 0, none⟩)] w fun e w' => e = .returned (.tuple #[.agg #[.int .i64 0, .string ⟨#[]⟩, .int .i64 0, .int .i64 0, .int .i64 0], .int .i64 k]) ∧ Chg g w w' ∧ ∃ j : Nat, w'.heap[g]? = some (.cells #[.string s, .int .i64 j, .int .i64 (blankL false p (s.data.toList.drop i)).1.line, .int .i64 (blankL false p (s.data.toList.drop i)).1.col] 104 (0, 0)) := by
  refine (next_calls ga N g s i p w hb hin hs hp hG hN).mono fun e w' ⟨j, q, h1, h2, h3, ch, h4⟩ => ?_
  rw [h3] at h
  rcases h4 with ⟨k', h5, h6, h7⟩ | ⟨t, h5, _⟩
  · rw [h] at h5
    injection h5 with h5
    subst h5
    exact ⟨h6, ch, j, by rw [h3]; exact h7⟩
  · rw [h] at h5
    cases h5
theorem next_ok (ga : GA) (N g : Nat) (s : ByteArray) (i : Nat) (p : Pos) (w : World) (t : Token) (hb : w.heap[g]? = some (.cells #[.string s, .int .i64 i, .int .i64 p.line, .int .i64 p.col] 104 (0, 0))) (hin : i ≤ s.size) (hs : s.size ≤ 65536) (hp : PB p i) (hG : GP ga N w) (hN : N ≤ g) (h : tokenL (blankL false p (s.data.toList.drop i)).1 (blankL false p (s.data.toList.drop i)).2 = .ok t) :
    Calls Tryd.prog 42 #[.pointer (some ⟨g, 0, none⟩)] w fun e w' => e = .returned (.tuple #[.agg #[.int .i64 t.kind, .string t.text, .int .i64 t.num, .int .i64 t.pos.line, .int .i64 t.pos.col], .int .i64 0]) ∧ Chg g w w' ∧ Wf64 t.num ∧ ∃ j q, i + t.text.size ≤ j ∧ j ≤ s.size ∧ s.data.toList.drop j = (blankL false p (s.data.toList.drop i)).2.drop t.text.size ∧ q = advs (blankL false p (s.data.toList.drop i)).1 ((blankL false p (s.data.toList.drop i)).2.take t.text.size) ∧ PB q j ∧ w'.heap[g]? = some (.cells #[.string s, .int .i64 j, .int .i64 q.line, .int .i64 q.col] 104 (0, 0)) := by
  refine (next_calls ga N g s i p w hb hin hs hp hG hN).mono fun e w' ⟨j, q, h1, h2, h3, ch, h4⟩ => ?_
  rw [h3] at h
  rcases h4 with ⟨k', h5, _⟩ | ⟨t', h5, h6, h7, q', h8, h9, h10, h11⟩
  · rw [h] at h5
    cases h5
  · rw [h] at h5
    injection h5 with h5
    subst h5
    exact ⟨h6, ch, h7, j + t.text.size, q', by omega, h9, by rw [h3, List.drop_drop], by rw [h3]; exact h8, h10, h11⟩
theorem GP.grown {a : GA} {N : Nat} {w w' : World} {row : Option Nat} (h : GP a N w) (hg : w.grownBy w' row) (hr : ∀ k, k < N → some k ≠ row) : GP a N w' :=
  ⟨Nat.le_trans h.size hg.size, fun W' hW => h.all W' fun k hk => (hW k hk).trans (hg.block k (Nat.lt_of_lt_of_le hk h.size) (hr k hk))⟩
theorem infoToken : (Tryd.prog.info? 71).map (fun i => (i.zero, i.size, i.bytes)) = some (some (.agg #[.int .i64 0, .string ⟨#[]⟩, .int .i64 0, .int .i64 0, .int .i64 0]), 5, 48) := by kernel_rfl

set_option maxRecDepth 100000 in
set_option maxHeartbeats 12800000 in
theorem all_calls (ga : GA) (N : Nat) (s : ByteArray) (w : World) (hG : GP ga N w) :
    Calls Tryd.prog 20 #[.string s] w fun e w' => Below w.heap.size w w' ∧ ((∃ f, lexL s.data.toList = .error f ∧ f.e ≠ 0 ∧ e = .returned (.tuple #[.slice none 0 0, .agg #[.int .i64 f.e, .int .i64 f.pos.line, .int .i64 f.pos.col]])) ∨ (∃ ts v, lexL s.data.toList = .ok ts ∧ e = .returned (.tuple #[v, .agg #[.int .i64 0, .int .i64 0, .int .i64 0]]) ∧ Kd.N kToken 71 w' w.heap.size (fun k => w.heap.size ≤ k) v ts)) := by
  have HG0 := Aside0.mk hG
  by_cases hlen : 65536 < s.size
  · have kl : decide (65536 < (s.size : Int)) = true := by simp; omega
    have HL := Lib.hid (show lexL s.data.toList = .error ⟨14, ⟨1, 1⟩⟩ by rw [lexL, if_pos (by rw [size_toList]; exact hlen)])
    clear hlen hG
    go_enter Tryd.func20, Tryd.ntmps20
    go_wp2_with (first | ((with_reducible refine gate_dst (N := 3) rfl ?_); refine box_event ?hg (N := 3) ?hd (cs := #[.int .i64 0, .int .i64 0, .int .i64 0]) (t := 34) ?hr ?_; (case hd => rfl); (case hg => rfl); (case hr => first | (go_simp; done) | (go_simp; rfl)); intro g3 hgE_ W1 hbox_ hb_; have GEg3 := Aside0.mk (show w.heap.size ≤ g3 from Nat.le_of_eq hgE_.symm); have HB := Aside0.mk hb_; have BKg3 := Aside0.mk hbox_; have cg3_0 : W1.cell? ⟨g3, 0, none⟩ = some (.int .i64 0) := (blk_cell BKg3.out 0).trans rfl; have zg3_0 : W1.frozen? ⟨g3, 0, none⟩ = false := blk_frozen BKg3.out 0; have cg3_1 : W1.cell? ⟨g3, 1, none⟩ = some (.int .i64 0) := (blk_cell BKg3.out 1).trans rfl; have zg3_1 : W1.frozen? ⟨g3, 1, none⟩ = false := blk_frozen BKg3.out 1; have cg3_2 : W1.cell? ⟨g3, 2, none⟩ = some (.int .i64 0) := (blk_cell BKg3.out 2).trans rfl; have zg3_2 : W1.frozen? ⟨g3, 2, none⟩ = false := blk_frozen BKg3.out 2; clear hb_ hbox_ hgE_) | ((with_reducible refine gate_store (t := 34) (p := 3) (v := .tmp 12) rfl ?_); refine put_event (w1 := ?w1p_2) (g := g3) (cs := #[.int .i64 14, .int .i64 1, .int .i64 1]) (T := 34) ?hg (t := 34) (p := 3) (v := .tmp 12) ?ha ?hn ?hr ?hk ?hb ?_; (case ha => rfl); (case hn => rfl); (case hg => rfl); (case hr => first | (go_simp; done) | (go_simp; rfl)); (case hk => exact (((Chg.refl _ _).set _ _).set _ _).set _ _); (case hb => exact blk_put (blk_put (blk_put BKg3.out 0 _ rfl) 1 _ rfl) 2 _ rfl); intro W2 ch_ hbox_; replace HB := Aside0.mk (below_chg HB.out HB.out.size GEg3.out ch_); replace BKg3 := Aside0.mk hbox_; replace cg3_0 : W2.cell? ⟨g3, 0, none⟩ = some (.int .i64 14) := (blk_cell BKg3.out 0).trans rfl; replace zg3_0 : W2.frozen? ⟨g3, 0, none⟩ = false := blk_frozen BKg3.out 0; replace cg3_1 : W2.cell? ⟨g3, 1, none⟩ = some (.int .i64 1) := (blk_cell BKg3.out 1).trans rfl; replace zg3_1 : W2.frozen? ⟨g3, 1, none⟩ = false := blk_frozen BKg3.out 1; replace cg3_2 : W2.cell? ⟨g3, 2, none⟩ = some (.int .i64 1) := (blk_cell BKg3.out 2).trans rfl; replace zg3_2 : W2.frozen? ⟨g3, 2, none⟩ = false := blk_frozen BKg3.out 2; clear ch_ hbox_))
    refine bodyPost_ret (results_tc rfl _ _ g3 34 #[.int .i64 14, .int .i64 1, .int .i64 1] (0, 0) _ rfl (show _ from BKg3.out) Tryd.underlying34 rfl (by kernel_rfl)) rfl ?_
    exact ⟨HB.out, .inl ⟨⟨14, ⟨1, 1⟩⟩, HL.out, by decide, rfl⟩⟩
  have kl : decide (65536 < (s.size : Int)) = false := by simp; omega
  have hs : s.size ≤ 65536 := by omega
  have HL := Lib.hid (show lexL s.data.toList = lexF (s.size + 1) ⟨1, 1⟩ s.data.toList [] by rw [lexL, if_neg (by rw [size_toList]; exact hlen), size_toList])
  clear hlen hG
  go_enter Tryd.func20, Tryd.ntmps20
  go_wp2_with (first | ((with_reducible refine gate_dst (N := 3) rfl ?_); refine box_event ?hg (N := 3) ?hd (cs := #[.int .i64 0, .int .i64 0, .int .i64 0]) (t := 34) ?hr ?_; (case hd => rfl); (case hg => rfl); (case hr => first | (go_simp; done) | (go_simp; rfl)); intro g3 hgE_ W1 hbox_ hb_; have GEg3 := Aside0.mk (show w.heap.size ≤ g3 from Nat.le_of_eq hgE_.symm); have HB := Aside0.mk hb_; have BKg3 := Aside0.mk hbox_; have cg3_0 : W1.cell? ⟨g3, 0, none⟩ = some (.int .i64 0) := (blk_cell BKg3.out 0).trans rfl; have zg3_0 : W1.frozen? ⟨g3, 0, none⟩ = false := blk_frozen BKg3.out 0; have cg3_1 : W1.cell? ⟨g3, 1, none⟩ = some (.int .i64 0) := (blk_cell BKg3.out 1).trans rfl; have zg3_1 : W1.frozen? ⟨g3, 1, none⟩ = false := blk_frozen BKg3.out 1; have cg3_2 : W1.cell? ⟨g3, 2, none⟩ = some (.int .i64 0) := (blk_cell BKg3.out 2).trans rfl; have zg3_2 : W1.frozen? ⟨g3, 2, none⟩ = false := blk_frozen BKg3.out 2; clear hb_ hbox_ hgE_) | ((with_reducible refine gate_dst (N := 16) rfl ?_); refine box_event ?hg (N := 16) ?hd (cs := #[.string s, .int .i64 0, .int .i64 1, .int .i64 1]) (t := 104) ?hr ?_; (case hd => rfl); (case hg => rfl); (case hr => first | (go_simp; done) | (go_simp; rfl)); intro g hgE_ W2 hbox_ hb_; have GEg := Aside0.mk (show w.heap.size ≤ g from Nat.le_trans HB.out.size (Nat.le_of_eq hgE_.symm)); have NEg3_g := Aside0.mk (show g3 ≠ g from Nat.ne_of_lt (Nat.lt_of_lt_of_le (blk_lt BKg3.out) (Nat.le_of_eq hgE_.symm))); replace HB := Aside0.mk (below_step HB.out hb_); replace BKg3 := Aside0.mk (blk_below BKg3.out hb_); replace cg3_0 : W2.cell? ⟨g3, 0, none⟩ = some (.int .i64 0) := (blk_cell BKg3.out 0).trans rfl; replace zg3_0 : W2.frozen? ⟨g3, 0, none⟩ = false := blk_frozen BKg3.out 0; replace cg3_1 : W2.cell? ⟨g3, 1, none⟩ = some (.int .i64 0) := (blk_cell BKg3.out 1).trans rfl; replace zg3_1 : W2.frozen? ⟨g3, 1, none⟩ = false := blk_frozen BKg3.out 1; replace cg3_2 : W2.cell? ⟨g3, 2, none⟩ = some (.int .i64 0) := (blk_cell BKg3.out 2).trans rfl; replace zg3_2 : W2.frozen? ⟨g3, 2, none⟩ = false := blk_frozen BKg3.out 2; have BKg := Aside0.mk hbox_; have cg_0 : W2.cell? ⟨g, 0, none⟩ = some (.string s) := (blk_cell BKg.out 0).trans rfl; have cg_1 : W2.cell? ⟨g, 1, none⟩ = some (.int .i64 0) := (blk_cell BKg.out 1).trans rfl; have cg_2 : W2.cell? ⟨g, 2, none⟩ = some (.int .i64 1) := (blk_cell BKg.out 2).trans rfl; have cg_3 : W2.cell? ⟨g, 3, none⟩ = some (.int .i64 1) := (blk_cell BKg.out 3).trans rfl; clear hb_ hbox_ hgE_))
  have HNg := Lib.hid (Nat.le_trans HG0.out.size GEg.out)
  have HG1 := Aside0.mk (GP.below HG0.out HB.out)
  go_loopg [5] (s.size + 1) (fun kq v5 w' => ∃ (i n : Nat) (p : Pos) (ts : List Token), kq + i = s.size + 1 ∧ i ≤ s.size ∧ kq ≤ n ∧ ts.length ≤ i ∧ Aside0 (lexL s.data.toList = lexF n p (s.data.toList.drop i) ts) ∧ Aside0 (PB p i) ∧ Aside0 (w'.heap[g]? = some (.cells #[.string s, .int .i64 i, .int .i64 p.line, .int .i64 p.col] 104 (0, 0))) ∧ Aside0 (w'.heap[g3]? = some (.cells #[.int .i64 0, .int .i64 0, .int .i64 0] 34 (0, 0))) ∧ Aside0 (Kd.N kToken 71 w' w.heap.size (fun k => w.heap.size ≤ k ∧ k ≠ g ∧ k ≠ g3) v5 ts) ∧ Aside0 (Below w.heap.size w w') ∧ Aside0 (GP ga N w'))
  case atStart => exact ⟨0, s.size + 1, ⟨1, 1⟩, [], by omega, by omega, by omega, by simp, ⟨HL.out⟩, ⟨⟨by decide, by decide, by decide, by decide⟩⟩, BKg, BKg3, ⟨Kd.N_nil _ _ _ _ _⟩, HB, HG1⟩
  case round =>
    clear HB BKg BKg3 HG1 cg3_0 zg3_0 cg3_1 zg3_1 cg3_2 zg3_2 cg_0 cg_1 cg_2 cg_3
    obtain ⟨i, n, p, ts, hk, hi, hn, hts, HV, HPB, BKg, BKg3, HO, HB, HG⟩ := hrel
    cases gk with
    | zero => omega
    | succ k1_ =>
      obtain ⟨n1, rfl⟩ : ∃ n1, n = n1 + 1 := ⟨n - 1, by omega⟩
      cases htk : tokenL (blankL false p (s.data.toList.drop i)).1 (blankL false p (s.data.toList.drop i)).2 with
      | error k =>
        have HT := Lib.hid htk
        have HR := Lib.hid (show lexL s.data.toList = .error ⟨k, (blankL false p (s.data.toList.drop i)).1⟩ by rw [HV.out, lexF_err _ _ _ _ _ htk])
        have hk0 : k ≠ 0 := by rcases tok_err htk with rfl | rfl <;> decide
        have HK0 := Lib.hid hk0
        have kk : (k != 0) = true := bne_iff_ne.2 hk0
        obtain ⟨q, hq⟩ : ∃ q, q = (blankL false p (s.data.toList.drop i)).1 := ⟨_, rfl⟩
        rw [← hq] at HR
        have HQ := Lib.hid hq.symm
        clear htk hk0 hq
        go_wp2_with (first | (go_at_call 42; (with_reducible refine (next_err ga N g s i p _ k BKg.out hi hs HPB.out HG.out HNg.out HT.out).mono ?_); rintro e w3 ⟨rfl, ch_, j, bk_⟩; rw [HQ.out] at bk_; replace BKg3 := Aside0.mk (ch_.blk BKg3.out NEg3_g.out); replace HB := Aside0.mk (below_chg HB.out HB.out.size GEg.out ch_); replace BKg := Aside0.mk bk_; replace HG := Aside0.mk (GP.step HG.out ch_ HNg.out); clear ch_ bk_) | ((with_reducible refine gate_dst (N := 6) rfl ?_); refine var_event (W1 := ?w1_6_1) (N := 6) (cs := #[.int .i64 0, .string ⟨#[]⟩, .int .i64 0, .int .i64 0, .int .i64 0]) (t := 71) ?hg ?hd ?hg2 ?hd2 ?hr ?hr2 ?_; (case hd => rfl); (case hg => rfl); (case hd2 => rfl); (case hg2 => rfl); (case hr => first | (go_simp; done) | (go_simp; rfl)); (case hr2 => first | (go_simp; done) | (go_simp; rfl)); intro g6 hgE_ W1 hbox_ hb_; have GEg6 := Aside0.mk (show w.heap.size ≤ g6 from Nat.le_trans HB.out.size (hgE_)); have NEg3_g6 := Aside0.mk (show g3 ≠ g6 from Nat.ne_of_lt (Nat.lt_of_lt_of_le (blk_lt BKg3.out) (hgE_))); have NEg_g6 := Aside0.mk (show g ≠ g6 from Nat.ne_of_lt (Nat.lt_of_lt_of_le (blk_lt BKg.out) (hgE_))); replace HB := Aside0.mk (below_step HB.out hb_); replace BKg3 := Aside0.mk (blk_below BKg3.out hb_); have cg3_0 : W1.cell? ⟨g3, 0, none⟩ = some (.int .i64 0) := (blk_cell BKg3.out 0).trans rfl; have zg3_0 : W1.frozen? ⟨g3, 0, none⟩ = false := blk_frozen BKg3.out 0; have cg3_1 : W1.cell? ⟨g3, 1, none⟩ = some (.int .i64 0) := (blk_cell BKg3.out 1).trans rfl; have zg3_1 : W1.frozen? ⟨g3, 1, none⟩ = false := blk_frozen BKg3.out 1; have cg3_2 : W1.cell? ⟨g3, 2, none⟩ = some (.int .i64 0) := (blk_cell BKg3.out 2).trans rfl; have zg3_2 : W1.frozen? ⟨g3, 2, none⟩ = false := blk_frozen BKg3.out 2; replace BKg := Aside0.mk (blk_below BKg.out hb_); have cg_0 : W1.cell? ⟨g, 0, none⟩ = some (.string s) := (blk_cell BKg.out 0).trans rfl; have cg_1 : W1.cell? ⟨g, 1, none⟩ = some (.int .i64 j) := (blk_cell BKg.out 1).trans rfl; have cg_2 : W1.cell? ⟨g, 2, none⟩ = some (.int .i64 q.line) := (blk_cell BKg.out 2).trans rfl; have cg_3 : W1.cell? ⟨g, 3, none⟩ = some (.int .i64 q.col) := (blk_cell BKg.out 3).trans rfl; replace HG := Aside0.mk (GP.below HG.out hb_); have BKg6 := Aside0.mk hbox_; have cg6_0 : W1.cell? ⟨g6, 0, none⟩ = some (.int .i64 0) := (blk_cell BKg6.out 0).trans rfl; have cg6_1 : W1.cell? ⟨g6, 1, none⟩ = some (.string ⟨#[]⟩) := (blk_cell BKg6.out 1).trans rfl; have cg6_2 : W1.cell? ⟨g6, 2, none⟩ = some (.int .i64 0) := (blk_cell BKg6.out 2).trans rfl; have cg6_3 : W1.cell? ⟨g6, 3, none⟩ = some (.int .i64 0) := (blk_cell BKg6.out 3).trans rfl; have cg6_4 : W1.cell? ⟨g6, 4, none⟩ = some (.int .i64 0) := (blk_cell BKg6.out 4).trans rfl; clear hb_ hbox_ hgE_))
        refine start_ (n := 8) (S := fun w' => w'.cell? ⟨g, 2, none⟩ = some (.int .i64 q.line) ∧ w'.cell? ⟨g, 3, none⟩ = some (.int .i64 q.col)) (ds := [7]) #[false, false, false, false, false, false, false, false] (by kernel_rfl) rfl rfl ⟨cg_2, cg_3⟩ (fun hHeld => ?_)
        refine pure_ (i := 0) (N := some 24) (v := ?_) (a' := ?_) #[true, false, false, false, false, false, false, false] rfl rfl (by kernel_rfl) (fun _ _ _ h => h) (Or.inl ⟨by rfl, ?_⟩) ?_ ?_
        rotate_left
        · intro w'
          go_simp
          with_reducible rfl
        rotate_left
        · simp only [Act.put, List.setIfInBounds_toArray, List.set_cons_zero, List.set_cons_succ, i64_w, i32_w]
          rfl
        refine pure_ (i := 1) (N := some 25) (v := ?_) (a' := ?_) #[true, true, false, false, false, false, false, false] rfl rfl (by kernel_rfl) (fun _ _ _ h => h) (Or.inl ⟨by rfl, ?_⟩) ?_ ?_
        rotate_left
        · intro w'
          go_simp
          with_reducible rfl
        rotate_left
        · simp only [Act.put, List.setIfInBounds_toArray, List.set_cons_zero, List.set_cons_succ, i64_w, i32_w]
          rfl
        refine pure_ (i := 2) (N := some 26) (v := ?_) (a' := ?_) #[true, true, true, false, false, false, false, false] rfl rfl (by kernel_rfl) (fun _ _ _ h => h) (Or.inl ⟨by rfl, ?_⟩) ?_ ?_
        rotate_left
        · intro w'
          go_simp
          with_reducible rfl
        rotate_left
        · simp only [Act.put, List.setIfInBounds_toArray, List.set_cons_zero, List.set_cons_succ, i64_w, i32_w]
          rfl
        refine pure_ (i := 3) (N := some 27) (v := ?_) (a' := ?_) #[true, true, true, true, false, false, false, false] rfl rfl (by kernel_rfl) (fun _ _ _ h => h) (Or.inl ⟨by rfl, ?_⟩) ?_ ?_
        rotate_left
        · intro w'
          go_simp
          with_reducible rfl
        rotate_left
        · simp only [Act.put, List.setIfInBounds_toArray, List.set_cons_zero, List.set_cons_succ, i64_w, i32_w]
          rfl
        refine pure_ (i := 6) (N := some 2) (v := ?_) (a' := ?_) #[true, true, true, true, false, false, true, false] rfl rfl (by kernel_rfl) (fun _ _ _ h => h) (Or.inl ⟨by rfl, ?_⟩) ?_ ?_
        rotate_left
        · intro w'
          go_simp
          with_reducible rfl
        rotate_left
        · simp only [Act.put, List.setIfInBounds_toArray, List.set_cons_zero, List.set_cons_succ, i64_w, i32_w]
          rfl
        refine take_ (i := 4) (N := some 28) (v := ?_) (a' := ?_) #[true, true, true, true, true, false, true, false] rfl rfl (by kernel_rfl) (fun _ _ _ h => h) (Or.inl ⟨by rfl, ?_⟩) hHeld ?_ ?_
        rotate_left
        · rintro w' ⟨s0, s1⟩
          go_simp
          with_reducible rfl
        rotate_left
        · simp only [Act.put, List.setIfInBounds_toArray, List.set_cons_zero, List.set_cons_succ, i64_w, i32_w]
          rfl
        refine pure_ (i := 5) (N := some 29) (v := ?_) (a' := ?_) #[true, true, true, true, true, true, true, false] rfl rfl (by kernel_rfl) (fun _ _ _ h => h) (Or.inl ⟨by rfl, ?_⟩) ?_ ?_
        rotate_left
        · intro w'
          go_simp
          with_reducible rfl
        rotate_left
        · simp only [Act.put, List.setIfInBounds_toArray, List.set_cons_zero, List.set_cons_succ, i64_w, i32_w]
          rfl
        refine last_ (i := 7) (N := none) #[true, true, true, true, true, true, true, true] rfl rfl (by kernel_rfl) (by decide) (fun K hK => ?_)
        refine skip_ (w1 := ?_) (by rfl) rfl ?_ ?_
        rotate_left
        · go_simp
          rfl
        refine hK.out _ _ ?_
        clear hK K
        refine done_ (by kernel_rfl) ?_
        obtain ⟨W9, hW9⟩ : ∃ W, W = (((W1.setCell ⟨g3, 0, none⟩ (.int .i64 k)).setCell ⟨g3, 1, none⟩ (.int .i64 q.line)).setCell ⟨g3, 2, none⟩ (.int .i64 q.col)).drew := ⟨_, rfl⟩
        rw [← hW9]
        have chg_ : Chg g3 W1 W9 := by
          rw [hW9]
          exact ((((Chg.refl _ _).set _ _).set _ _).set _ _).trans (Chg.of_below (below_drew (Below.refl _ _)))
        have BK9 : Aside0 (W9.heap[g3]? = some (.cells #[.int .i64 k, .int .i64 q.line, .int .i64 q.col] 34 (0, 0))) := ⟨by rw [hW9]; exact blk_put (blk_put (blk_put BKg3.out 0 _ rfl) 1 _ rfl) 2 _ rfl⟩
        have HB9 := Aside0.mk (below_chg HB.out HB.out.size GEg3.out chg_)
        clear chg_ hW9 hHeld
        go_wp2
        refine bodyPost_ret (results_tc rfl _ _ g3 34 #[.int .i64 k, .int .i64 q.line, .int .i64 q.col] (0, 0) _ rfl (show _ from BK9.out) Tryd.underlying34 rfl (by kernel_rfl)) rfl ?_
        exact ⟨HB9.out, .inl ⟨⟨k, q⟩, HR.out, HK0.out, rfl⟩⟩
      | ok t =>
        have HT := Lib.hid htk
        by_cases h0 : t.kind = 0
        · have k0 : (t.kind == 0) = true := beq_iff_eq.2 h0
          have HR := Lib.hid (show lexL s.data.toList = .ok (ts ++ [t]) by rw [HV.out, lexF_end _ _ _ _ _ htk h0])
          clear htk h0
          go_wp2_with (first | (go_at_call 42; (with_reducible refine (next_ok ga N g s i p _ t BKg.out hi hs HPB.out HG.out HNg.out HT.out).mono ?_); rintro e w3 ⟨rfl, ch_, hwf_, j, q, hij_, hjs_, hdr_, hq_, hpb_, bk_⟩; have HWF := Lib.hid hwf_; have HIJ := Lib.hid hij_; have HJS := Lib.hid hjs_; have HDR := Lib.hid hdr_; have HQ := Lib.hid hq_; have HPB2 := Aside0.mk hpb_; replace HO := Aside0.mk (Kd.N_step HO.out (fun k hk hlt => ch_.block k hlt hk.2.1)); replace BKg3 := Aside0.mk (ch_.blk BKg3.out NEg3_g.out); replace HB := Aside0.mk (below_chg HB.out HB.out.size GEg.out ch_); replace BKg := Aside0.mk bk_; replace HG := Aside0.mk (GP.step HG.out ch_ HNg.out); clear ch_ hwf_ hij_ hjs_ hdr_ hq_ hpb_ bk_) | ((with_reducible refine gate_dst (N := 6) rfl ?_); refine var_event (W1 := ?w1_6_3) (N := 6) (cs := #[.int .i64 t.kind, .string t.text, .int .i64 t.num, .int .i64 t.pos.line, .int .i64 t.pos.col]) (t := 71) ?hg ?hd ?hg2 ?hd2 ?hr ?hr2 ?_; (case hd => rfl); (case hg => rfl); (case hd2 => rfl); (case hg2 => rfl); (case hr => first | (go_simp; done) | (go_simp; rfl)); (case hr2 => first | (go_simp; done) | (go_simp; rfl)); intro g6 hgE_ W1 hbox_ hb_; have GEg6 := Aside0.mk (show w.heap.size ≤ g6 from Nat.le_trans HB.out.size (hgE_)); have NEg3_g6 := Aside0.mk (show g3 ≠ g6 from Nat.ne_of_lt (Nat.lt_of_lt_of_le (blk_lt BKg3.out) (hgE_))); have NEg_g6 := Aside0.mk (show g ≠ g6 from Nat.ne_of_lt (Nat.lt_of_lt_of_le (blk_lt BKg.out) (hgE_))); replace HB := Aside0.mk (below_step HB.out hb_); replace BKg3 := Aside0.mk (blk_below BKg3.out hb_); have cg3_0 : W1.cell? ⟨g3, 0, none⟩ = some (.int .i64 0) := (blk_cell BKg3.out 0).trans rfl; have zg3_0 : W1.frozen? ⟨g3, 0, none⟩ = false := blk_frozen BKg3.out 0; have cg3_1 : W1.cell? ⟨g3, 1, none⟩ = some (.int .i64 0) := (blk_cell BKg3.out 1).trans rfl; have zg3_1 : W1.frozen? ⟨g3, 1, none⟩ = false := blk_frozen BKg3.out 1; have cg3_2 : W1.cell? ⟨g3, 2, none⟩ = some (.int .i64 0) := (blk_cell BKg3.out 2).trans rfl; have zg3_2 : W1.frozen? ⟨g3, 2, none⟩ = false := blk_frozen BKg3.out 2; replace BKg := Aside0.mk (blk_below BKg.out hb_); have cg_0 : W1.cell? ⟨g, 0, none⟩ = some (.string s) := (blk_cell BKg.out 0).trans rfl; have cg_1 : W1.cell? ⟨g, 1, none⟩ = some (.int .i64 j) := (blk_cell BKg.out 1).trans rfl; have cg_2 : W1.cell? ⟨g, 2, none⟩ = some (.int .i64 q.line) := (blk_cell BKg.out 2).trans rfl; have cg_3 : W1.cell? ⟨g, 3, none⟩ = some (.int .i64 q.col) := (blk_cell BKg.out 3).trans rfl; replace HG := Aside0.mk (GP.below HG.out hb_); replace HO := Aside0.mk (Kd.N_below (Kd.N_elderB HO.out g6 hgE_) hb_); have BKg6 := Aside0.mk hbox_; have cg6_0 : W1.cell? ⟨g6, 0, none⟩ = some (.int .i64 t.kind) := (blk_cell BKg6.out 0).trans rfl; have cg6_1 : W1.cell? ⟨g6, 1, none⟩ = some (.string t.text) := (blk_cell BKg6.out 1).trans rfl; have cg6_2 : W1.cell? ⟨g6, 2, none⟩ = some (.int .i64 t.num) := (blk_cell BKg6.out 2).trans rfl; have cg6_3 : W1.cell? ⟨g6, 3, none⟩ = some (.int .i64 t.pos.line) := (blk_cell BKg6.out 3).trans rfl; have cg6_4 : W1.cell? ⟨g6, 4, none⟩ = some (.int .i64 t.pos.col) := (blk_cell BKg6.out 4).trans rfl; clear hb_ hbox_ hgE_) | ((with_reducible refine gate_builtin (b := .append) (xs := #[.tmp 30, .tmp 32]) rfl ?_); at_builtin; refine Kd.N_append kToken (w0 := w) w.heap.size rfl (.tmp 30) (.tmp 32) 63 71 (.agg #[.int .i64 0, .string ⟨#[]⟩, .int .i64 0, .int .i64 0, .int .i64 0]) 48 rfl Tryd.underlying63 infoToken rfl (by decide) (by omega) u5 _ t [.int .i64 t.kind, .string t.text, .int .i64 t.num, .int .i64 t.pos.line, .int .i64 t.pos.col] (fun k => (w.heap.size ≤ k ∧ k ≠ g ∧ k ≠ g3) ∧ k ≠ g6) (fun _ => False) rfl rfl ?aP (fun _ hk => hk.elim) ?aF HO.out HB.out HB.out.size ?aL ?_; (case aP => exact fun W' _ => kToken_mk W' t HWF.out); (case aF => exact fun k hk => ⟨⟨Nat.le_trans HB.out.size hk, Nat.ne_of_gt (Nat.lt_of_lt_of_le (blk_lt BKg.out) hk), Nat.ne_of_gt (Nat.lt_of_lt_of_le (blk_lt BKg3.out) hk)⟩, Nat.ne_of_gt (Nat.lt_of_lt_of_le (blk_lt BKg6.out) hk)⟩); (case aL => omega); intro v7 W7 ho7 hb7 hg7 hat7; replace BKg3 := Aside0.mk (blk_grown BKg3.out hg7 (Kd.N_away HO.out (fun _ hk => hk.1.2.2))); replace BKg6 := Aside0.mk (blk_grown BKg6.out hg7 (Kd.N_away HO.out (fun _ hk => hk.2))); replace HG := Aside0.mk (GP.grown HG.out hg7 (fun k hk he => by have := Kd.N_base HO.out k he.symm; have := HG0.out.size; omega)); replace BKg := Aside0.mk (blk_grown BKg.out hg7 (Kd.N_away HO.out (fun _ hk => hk.1.2.1))); replace HO := Aside0.mk ho7; replace HB := Aside0.mk hb7; clear ho7 hb7 hg7 hat7 cg3_0 zg3_0 cg3_1 zg3_1 cg3_2 zg3_2 cg_0 cg_1 cg_2 cg_3 cg6_0 cg6_1 cg6_2 cg6_3 cg6_4; have cg3_0 := (blk_cell BKg3.out 0).trans rfl; have zg3_0 := blk_frozen BKg3.out 0; have cg3_1 := (blk_cell BKg3.out 1).trans rfl; have zg3_1 := blk_frozen BKg3.out 1; have cg3_2 := (blk_cell BKg3.out 2).trans rfl; have zg3_2 := blk_frozen BKg3.out 2; have cg6_0 : W7.cell? ⟨g6, 0, none⟩ = some (.int .i64 t.kind) := (blk_cell BKg6.out 0).trans rfl) | ((with_reducible refine gate_store (t := 34) (p := 3) (v := .tmp 38) rfl ?_); refine put_event (w1 := ?w1p_9) (g := g3) (cs := #[.int .i64 0, .int .i64 0, .int .i64 0]) (T := 34) ?hg (t := 34) (p := 3) (v := .tmp 38) ?ha ?hn ?hr ?hk ?hb ?_; (case ha => rfl); (case hn => rfl); (case hg => rfl); (case hr => first | (go_simp; done) | (go_simp; rfl)); (case hk => exact (((Chg.refl _ _).set _ _).set _ _).set _ _); (case hb => exact blk_put (blk_put (blk_put BKg3.out 0 _ rfl) 1 _ rfl) 2 _ rfl); intro W8 ch_ hbox_; replace HB := Aside0.mk (below_chg HB.out HB.out.size GEg3.out ch_); replace HO := Aside0.mk (Kd.N_step HO.out (fun k hk hlt => ch_.block k hlt hk.1.2.2)); replace BKg3 := Aside0.mk hbox_; clear ch_ hbox_))
          refine bodyPost_ret (results_tc rfl _ _ g3 34 #[.int .i64 0, .int .i64 0, .int .i64 0] (0, 0) _ rfl (show _ from BKg3.out) Tryd.underlying34 rfl (by kernel_rfl)) rfl ?_
          exact ⟨HB.out, .inr ⟨ts ++ [t], _, HR.out, rfl, Kd.N_mono HO.out (fun k hk => hk.1.1)⟩⟩
        · have k0 : (t.kind == 0) = false := beq_eq_false_iff_ne.2 h0
          have hpos : 1 ≤ t.text.size := by
            rcases tok_ok htk with ⟨h, _⟩ | ⟨_, h⟩
            · exact absurd h h0
            · exact h
          have HPS := Lib.hid hpos
          have HR := Aside0.mk (show lexL s.data.toList = lexF n1 (advs (blankL false p (s.data.toList.drop i)).1 ((blankL false p (s.data.toList.drop i)).2.take t.text.size)) ((blankL false p (s.data.toList.drop i)).2.drop t.text.size) (ts ++ [t]) by rw [HV.out, lexF_more _ _ _ _ _ htk h0])
          clear htk h0 hpos
          go_wp2_with (first | (go_at_call 42; (with_reducible refine (next_ok ga N g s i p _ t BKg.out hi hs HPB.out HG.out HNg.out HT.out).mono ?_); rintro e w3 ⟨rfl, ch_, hwf_, j, q, hij_, hjs_, hdr_, hq_, hpb_, bk_⟩; have HWF := Lib.hid hwf_; have HIJ := Lib.hid hij_; have HJS := Lib.hid hjs_; have HDR := Lib.hid hdr_; have HQ := Lib.hid hq_; have HPB2 := Aside0.mk hpb_; replace HO := Aside0.mk (Kd.N_step HO.out (fun k hk hlt => ch_.block k hlt hk.2.1)); replace BKg3 := Aside0.mk (ch_.blk BKg3.out NEg3_g.out); replace HB := Aside0.mk (below_chg HB.out HB.out.size GEg.out ch_); replace BKg := Aside0.mk bk_; replace HG := Aside0.mk (GP.step HG.out ch_ HNg.out); clear ch_ hwf_ hij_ hjs_ hdr_ hq_ hpb_ bk_) | ((with_reducible refine gate_dst (N := 6) rfl ?_); refine var_event (W1 := ?w1_6_4) (N := 6) (cs := #[.int .i64 t.kind, .string t.text, .int .i64 t.num, .int .i64 t.pos.line, .int .i64 t.pos.col]) (t := 71) ?hg ?hd ?hg2 ?hd2 ?hr ?hr2 ?_; (case hd => rfl); (case hg => rfl); (case hd2 => rfl); (case hg2 => rfl); (case hr => first | (go_simp; done) | (go_simp; rfl)); (case hr2 => first | (go_simp; done) | (go_simp; rfl)); intro g6 hgE_ W1 hbox_ hb_; have GEg6 := Aside0.mk (show w.heap.size ≤ g6 from Nat.le_trans HB.out.size (hgE_)); have NEg3_g6 := Aside0.mk (show g3 ≠ g6 from Nat.ne_of_lt (Nat.lt_of_lt_of_le (blk_lt BKg3.out) (hgE_))); have NEg_g6 := Aside0.mk (show g ≠ g6 from Nat.ne_of_lt (Nat.lt_of_lt_of_le (blk_lt BKg.out) (hgE_))); replace HB := Aside0.mk (below_step HB.out hb_); replace BKg3 := Aside0.mk (blk_below BKg3.out hb_); have cg3_0 : W1.cell? ⟨g3, 0, none⟩ = some (.int .i64 0) := (blk_cell BKg3.out 0).trans rfl; have zg3_0 : W1.frozen? ⟨g3, 0, none⟩ = false := blk_frozen BKg3.out 0; have cg3_1 : W1.cell? ⟨g3, 1, none⟩ = some (.int .i64 0) := (blk_cell BKg3.out 1).trans rfl; have zg3_1 : W1.frozen? ⟨g3, 1, none⟩ = false := blk_frozen BKg3.out 1; have cg3_2 : W1.cell? ⟨g3, 2, none⟩ = some (.int .i64 0) := (blk_cell BKg3.out 2).trans rfl; have zg3_2 : W1.frozen? ⟨g3, 2, none⟩ = false := blk_frozen BKg3.out 2; replace BKg := Aside0.mk (blk_below BKg.out hb_); have cg_0 : W1.cell? ⟨g, 0, none⟩ = some (.string s) := (blk_cell BKg.out 0).trans rfl; have cg_1 : W1.cell? ⟨g, 1, none⟩ = some (.int .i64 j) := (blk_cell BKg.out 1).trans rfl; have cg_2 : W1.cell? ⟨g, 2, none⟩ = some (.int .i64 q.line) := (blk_cell BKg.out 2).trans rfl; have cg_3 : W1.cell? ⟨g, 3, none⟩ = some (.int .i64 q.col) := (blk_cell BKg.out 3).trans rfl; replace HG := Aside0.mk (GP.below HG.out hb_); replace HO := Aside0.mk (Kd.N_below (Kd.N_elderB HO.out g6 hgE_) hb_); have BKg6 := Aside0.mk hbox_; have cg6_0 : W1.cell? ⟨g6, 0, none⟩ = some (.int .i64 t.kind) := (blk_cell BKg6.out 0).trans rfl; have cg6_1 : W1.cell? ⟨g6, 1, none⟩ = some (.string t.text) := (blk_cell BKg6.out 1).trans rfl; have cg6_2 : W1.cell? ⟨g6, 2, none⟩ = some (.int .i64 t.num) := (blk_cell BKg6.out 2).trans rfl; have cg6_3 : W1.cell? ⟨g6, 3, none⟩ = some (.int .i64 t.pos.line) := (blk_cell BKg6.out 3).trans rfl; have cg6_4 : W1.cell? ⟨g6, 4, none⟩ = some (.int .i64 t.pos.col) := (blk_cell BKg6.out 4).trans rfl; clear hb_ hbox_ hgE_) | ((with_reducible refine gate_builtin (b := .append) (xs := #[.tmp 30, .tmp 32]) rfl ?_); at_builtin; refine Kd.N_append kToken (w0 := w) w.heap.size rfl (.tmp 30) (.tmp 32) 63 71 (.agg #[.int .i64 0, .string ⟨#[]⟩, .int .i64 0, .int .i64 0, .int .i64 0]) 48 rfl Tryd.underlying63 infoToken rfl (by decide) (by omega) u5 _ t [.int .i64 t.kind, .string t.text, .int .i64 t.num, .int .i64 t.pos.line, .int .i64 t.pos.col] (fun k => (w.heap.size ≤ k ∧ k ≠ g ∧ k ≠ g3) ∧ k ≠ g6) (fun _ => False) rfl rfl ?aP (fun _ hk => hk.elim) ?aF HO.out HB.out HB.out.size ?aL ?_; (case aP => exact fun W' _ => kToken_mk W' t HWF.out); (case aF => exact fun k hk => ⟨⟨Nat.le_trans HB.out.size hk, Nat.ne_of_gt (Nat.lt_of_lt_of_le (blk_lt BKg.out) hk), Nat.ne_of_gt (Nat.lt_of_lt_of_le (blk_lt BKg3.out) hk)⟩, Nat.ne_of_gt (Nat.lt_of_lt_of_le (blk_lt BKg6.out) hk)⟩); (case aL => omega); intro v7 W7 ho7 hb7 hg7 hat7; replace BKg3 := Aside0.mk (blk_grown BKg3.out hg7 (Kd.N_away HO.out (fun _ hk => hk.1.2.2))); replace BKg6 := Aside0.mk (blk_grown BKg6.out hg7 (Kd.N_away HO.out (fun _ hk => hk.2))); replace HG := Aside0.mk (GP.grown HG.out hg7 (fun k hk he => by have := Kd.N_base HO.out k he.symm; have := HG0.out.size; omega)); replace BKg := Aside0.mk (blk_grown BKg.out hg7 (Kd.N_away HO.out (fun _ hk => hk.1.2.1))); replace HO := Aside0.mk ho7; replace HB := Aside0.mk hb7; clear ho7 hb7 hg7 hat7 cg3_0 zg3_0 cg3_1 zg3_1 cg3_2 zg3_2 cg_0 cg_1 cg_2 cg_3 cg6_0 cg6_1 cg6_2 cg6_3 cg6_4; have cg3_0 := (blk_cell BKg3.out 0).trans rfl; have zg3_0 := blk_frozen BKg3.out 0; have cg3_1 := (blk_cell BKg3.out 1).trans rfl; have zg3_1 := blk_frozen BKg3.out 1; have cg3_2 := (blk_cell BKg3.out 2).trans rfl; have zg3_2 := blk_frozen BKg3.out 2; have cg6_0 : W7.cell? ⟨g6, 0, none⟩ = some (.int .i64 t.kind) := (blk_cell BKg6.out 0).trans rfl))
          have hps := HPS.out
          have hij := HIJ.out
          have hjs := HJS.out
          go_roundg (s.size + 1 - j)
          case measure => omega
          case rel =>
            refine ⟨j, n1, q, ts ++ [t], by omega, by omega, by omega, by simp; omega, ⟨?_⟩, HPB2, BKg, BKg3, ⟨Kd.N_mono HO.out (fun k hk => hk.1)⟩, HB, HG⟩
            rw [HR.out, HDR.out, HQ.out]
end Go.Proofs.YtgenlgfbjlclbaaDoor
