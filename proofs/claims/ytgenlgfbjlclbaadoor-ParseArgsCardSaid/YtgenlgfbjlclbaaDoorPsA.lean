/- The parser's state, and what its small functions compute. -/
import Derived.Test.YtgenlgfbjlclbaaDoorGP
import Derived.Test.YtgenlgfbjlclbaaDoorFq
namespace Go.Proofs.YtgenlgfbjlclbaaDoor
open Go.RowKit Go.Proofs.YtgenlgfbjlclbaaDoorW.PrintWords Go.Proofs.YtgenlgfbjlclbaaDoorW.PrintLast Go.Proofs.YtgenlgfbjlclbaaDoorW.PrintMore
set_option linter.unusedVariables false
set_option linter.unusedSimpArgs false

/-- Tokens, the last of which, and no other, is the end. -/
def WT (ts : List Token) : Prop := ∃ i l, ts = i ++ [l] ∧ l.kind = 0 ∧ ∀ t, t ∈ i → t.kind ≠ 0
theorem WT.cons {ts : List Token} (h : WT ts) : ∃ t r, ts = t :: r ∧ (t.kind ≠ 0 → WT r) := by
  obtain ⟨i, l, rfl, h0, h1⟩ := h
  cases i with
  | nil => exact ⟨l, [], rfl, fun h => absurd h0 h⟩
  | cons a i => exact ⟨a, i ++ [l], rfl, fun _ => ⟨i, l, rfl, h0, fun t ht => h1 t (List.mem_cons_of_mem _ ht)⟩⟩
/-- A parser in block g: what is elder is only read. -/
structure PSt (a : GA) (g : Nat) (s : PS) (w : World) : Prop where
  gp : GP a g w
  wt : WT s.ts
  d0 : 0 ≤ s.deep
  d1 : s.deep ≤ 200
  blk : ∃ ad c, w.heap[g]? = some (.cells #[.slice (some ad) s.ts.length c, .int .i64 s.deep, .int .i64 s.f.e, .int .i64 s.f.pos.line, .int .i64 s.f.pos.col] 68 (0, 0)) ∧ Kd.F kToken w (fun k => k < g) (some ad) s.ts.length s.ts ∧ s.ts.length ≤ c
section
variable {a : GA} {g : Nat} {s : PS} {w w' : World}
theorem PSt.below (h : PSt a g s w) (hb : Below w.heap.size w w') : PSt a g s w' := by
  obtain ⟨h1, h2, h3, h4, ad, c, h5, h6, h7⟩ := h
  exact ⟨h1.below hb, h2, h3, h4, ad, c, blk_below h5 hb, Kd.F_below h6 hb, h7⟩
theorem PSt.own {b : Nat} (h : PSt a g s w) (ch : Chg b w w') (hb : g < b) : PSt a g s w' := by
  obtain ⟨h1, h2, h3, h4, ad, c, h5, h6, h7⟩ := h
  exact ⟨h1.step ch (Nat.le_of_lt hb), h2, h3, h4, ad, c, ch.blk h5 (by omega), Kd.F_step h6 (fun k hk hlt => ch.block k hlt (by omega)), h7⟩
theorem PSt.lt (h : PSt a g s w) : g < w.heap.size := by
  obtain ⟨ad, c, h5, _⟩ := h.blk
  exact blk_lt h5
end
theorem C_tail {w : World} {ad : Addr} {t : Token} {r : List Token} {n : Nat} (h : Kd.C kToken w (some ad) (n + 1) (t :: r)) : Kd.C kToken w (some (ad.add 5)) n r := by
  obtain ⟨h1, h2, h3⟩ := h
  refine ⟨by simpa using h1, by omega, fun hn => ⟨ad.add 5, rfl, fun j p hj => ?_⟩⟩
  obtain ⟨ad', he, hc⟩ := h3 (by omega)
  obtain rfl := Option.some.inj he
  obtain ⟨c, hl, hK, hcc⟩ := hc (j + 1) p (by simpa using hj)
  refine ⟨c, hl, hK, fun i u hu => ?_⟩
  rw [Addr.add_add, show 5 + (j * kToken.sz + i) = (j + 1) * kToken.sz + i by show 5 + (j * 5 + i) = (j + 1) * 5 + i; omega]
  exact hcc i u hu
theorem fld0 (a b c d e : Value) (w : World) : (Instr.field 71 (.agg #[a, b, c, d, e]) 0).run Tryd.prog w = .ok a w := by simp [Instr.field, go_sem, asAgg]
theorem fld1 (a b c d e : Value) (w : World) : (Instr.field 71 (.agg #[a, b, c, d, e]) 1).run Tryd.prog w = .ok b w := by simp [Instr.field, go_sem, asAgg]
theorem fld2 (a b c d e : Value) (w : World) : (Instr.field 71 (.agg #[a, b, c, d, e]) 2).run Tryd.prog w = .ok c w := by simp [Instr.field, go_sem, asAgg]
theorem fld3 (a b c d e : Value) (w : World) : (Instr.field 71 (.agg #[a, b, c, d, e]) 3).run Tryd.prog w = .ok (.agg #[d, e]) w := by simp [Instr.field, go_sem, asAgg]
theorem F_tail {w : World} {ok : Nat → Prop} {ad : Addr} {t : Token} {r : List Token} {n : Nat} (h : Kd.F kToken w ok (some ad) (n + 1) (t :: r)) : Kd.F kToken w ok (some (ad.add 5)) n r := fun W' hW => C_tail (h W' hW)

set_option maxRecDepth 100000 in
set_option maxHeartbeats 1600000 in
theorem now_calls {a : GA} {g : Nat} {s : PS} {w : World} (h : PSt a g s w) :
    Calls Tryd.prog 22 #[.pointer (some ⟨g, 0, none⟩)] w fun e w' => e = .returned (.agg #[.int .i64 s.now.kind, .string s.now.text, .int .i64 s.now.num, .int .i64 s.now.pos.line, .int .i64 s.now.pos.col]) ∧ Below w.heap.size w w' := by
  obtain ⟨ts, deep, f⟩ := s
  obtain ⟨hgp, hwt, hd0, hd1, ad, c, hbk, hF, hlc⟩ := h
  obtain ⟨t, r, rfl, hwr⟩ := hwt.cons
  replace hd0 : 0 ≤ deep := hd0
  replace hd1 : deep ≤ 200 := hd1
  have BKg : Aside0 (w.heap[g]? = some (.cells #[.slice (some ad) (r.length + 1) c, .int .i64 deep, .int .i64 f.e, .int .i64 f.pos.line, .int .i64 f.pos.col] 68 (0, 0))) := ⟨hbk⟩
  replace hF : Kd.F kToken w (fun k => k < g) (some ad) (r.length + 1) (t :: r) := hF
  replace hlc : r.length + 1 ≤ c := hlc
  have HF := Aside0.mk hF
  have HLC := Lib.hid hlc
  have hm := Kd.F_max hF
  clear hF hbk hgp hwt hwr
  go_enter Tryd.func22, Tryd.ntmps22
  go_wp2_with (first | ((with_reducible refine gate_dst (N := 2) rfl ?_); refine box_event ?hg (N := 2) ?hd (cs := #[.int .i64 0, .string ⟨#[]⟩, .int .i64 0, .int .i64 0, .int .i64 0]) (t := 71) ?hr ?_; (case hd => rfl); (case hg => rfl); (case hr => first | (go_simp; done) | (go_simp; rfl)); intro g2 hgE_ W1 hbox_ hb_; have GEg2 := Aside0.mk (show w.heap.size ≤ g2 from Nat.le_of_eq hgE_.symm); have NEg_g2 := Aside0.mk (show g ≠ g2 from Nat.ne_of_lt (Nat.lt_of_lt_of_le (blk_lt BKg.out) (Nat.le_of_eq hgE_.symm))); have HB := Aside0.mk hb_; replace BKg := Aside0.mk (blk_below BKg.out hb_); have cg_0 : W1.cell? ⟨g, 0, none⟩ = some (.slice (some ad) (r.length + 1) c) := (blk_cell BKg.out 0).trans rfl; have cg_1 : W1.cell? ⟨g, 1, none⟩ = some (.int .i64 deep) := (blk_cell BKg.out 1).trans rfl; have cg_2 : W1.cell? ⟨g, 2, none⟩ = some (.int .i64 f.e) := (blk_cell BKg.out 2).trans rfl; have cg_3 : W1.cell? ⟨g, 3, none⟩ = some (.int .i64 f.pos.line) := (blk_cell BKg.out 3).trans rfl; have cg_4 : W1.cell? ⟨g, 4, none⟩ = some (.int .i64 f.pos.col) := (blk_cell BKg.out 4).trans rfl; replace HF := Aside0.mk (Kd.F_below HF.out hb_); have BKg2 := Aside0.mk hbox_; have cg2_0 : W1.cell? ⟨g2, 0, none⟩ = some (.int .i64 0) := (blk_cell BKg2.out 0).trans rfl; have zg2_0 : W1.frozen? ⟨g2, 0, none⟩ = false := blk_frozen BKg2.out 0; have cg2_1 : W1.cell? ⟨g2, 1, none⟩ = some (.string ⟨#[]⟩) := (blk_cell BKg2.out 1).trans rfl; have zg2_1 : W1.frozen? ⟨g2, 1, none⟩ = false := blk_frozen BKg2.out 1; have cg2_2 : W1.cell? ⟨g2, 2, none⟩ = some (.int .i64 0) := (blk_cell BKg2.out 2).trans rfl; have zg2_2 : W1.frozen? ⟨g2, 2, none⟩ = false := blk_frozen BKg2.out 2; have cg2_3 : W1.cell? ⟨g2, 3, none⟩ = some (.int .i64 0) := (blk_cell BKg2.out 3).trans rfl; have zg2_3 : W1.frozen? ⟨g2, 3, none⟩ = false := blk_frozen BKg2.out 3; have cg2_4 : W1.cell? ⟨g2, 4, none⟩ = some (.int .i64 0) := (blk_cell BKg2.out 4).trans rfl; have zg2_4 : W1.frozen? ⟨g2, 4, none⟩ = false := blk_frozen BKg2.out 4; clear hb_ hbox_ hgE_; obtain ⟨ad2, ea, e0, e1, e2, e3, e4, em0⟩ := atToken (Kd.F_now HF.out) 0 (by decide) (by omega); obtain rfl := Option.some.inj ea; rw [show Int.toNat 0 * 5 = 0 from rfl, show ad.add 0 = ad from rfl, show rdToken (t :: r) 0 = t from rfl] at e0 e1 e2 e3 e4; clear em0) | ((with_reducible refine gate_store (t := 71) (p := 2) (v := .tmp 8) rfl ?_); refine put_event (w1 := ?w1p_2) (g := g2) (cs := #[.int .i64 t.kind, .string t.text, .int .i64 t.num, .int .i64 t.pos.line, .int .i64 t.pos.col]) (T := 71) ?hg (t := 71) (p := 2) (v := .tmp 8) ?ha ?hn ?hr ?hk ?hb ?_; (case ha => rfl); (case hn => rfl); (case hg => rfl); (case hr => first | (go_simp; done) | (go_simp; rfl)); (case hk => exact (((((Chg.refl _ _).set _ _).set _ _).set _ _).set _ _).set _ _); (case hb => exact blk_put (blk_put (blk_put (blk_put (blk_put BKg2.out 0 _ rfl) 1 _ rfl) 2 _ rfl) 3 _ rfl) 4 _ rfl); intro W2 ch_ hbox_; replace HB := Aside0.mk (below_chg HB.out HB.out.size GEg2.out ch_); replace BKg := Aside0.mk (ch_.blk BKg.out NEg_g2.out); replace cg_0 : W2.cell? ⟨g, 0, none⟩ = some (.slice (some ad) (r.length + 1) c) := (blk_cell BKg.out 0).trans rfl; replace cg_1 : W2.cell? ⟨g, 1, none⟩ = some (.int .i64 deep) := (blk_cell BKg.out 1).trans rfl; replace cg_2 : W2.cell? ⟨g, 2, none⟩ = some (.int .i64 f.e) := (blk_cell BKg.out 2).trans rfl; replace cg_3 : W2.cell? ⟨g, 3, none⟩ = some (.int .i64 f.pos.line) := (blk_cell BKg.out 3).trans rfl; replace cg_4 : W2.cell? ⟨g, 4, none⟩ = some (.int .i64 f.pos.col) := (blk_cell BKg.out 4).trans rfl; replace BKg2 := Aside0.mk hbox_; replace cg2_0 : W2.cell? ⟨g2, 0, none⟩ = some (.int .i64 t.kind) := (blk_cell BKg2.out 0).trans rfl; replace zg2_0 : W2.frozen? ⟨g2, 0, none⟩ = false := blk_frozen BKg2.out 0; replace cg2_1 : W2.cell? ⟨g2, 1, none⟩ = some (.string t.text) := (blk_cell BKg2.out 1).trans rfl; replace zg2_1 : W2.frozen? ⟨g2, 1, none⟩ = false := blk_frozen BKg2.out 1; replace cg2_2 : W2.cell? ⟨g2, 2, none⟩ = some (.int .i64 t.num) := (blk_cell BKg2.out 2).trans rfl; replace zg2_2 : W2.frozen? ⟨g2, 2, none⟩ = false := blk_frozen BKg2.out 2; replace cg2_3 : W2.cell? ⟨g2, 3, none⟩ = some (.int .i64 t.pos.line) := (blk_cell BKg2.out 3).trans rfl; replace zg2_3 : W2.frozen? ⟨g2, 3, none⟩ = false := blk_frozen BKg2.out 3; replace cg2_4 : W2.cell? ⟨g2, 4, none⟩ = some (.int .i64 t.pos.col) := (blk_cell BKg2.out 4).trans rfl; replace zg2_4 : W2.frozen? ⟨g2, 4, none⟩ = false := blk_frozen BKg2.out 4; clear ch_ hbox_))
  refine bodyPost_ret (results_cell_row rfl _ _ g2 71 #[.int .i64 t.kind, .string t.text, .int .i64 t.num, .int .i64 t.pos.line, .int .i64 t.pos.col] (0, 0) _ rfl BKg2.out Tryd.underlying71 rfl (by kernel_rfl)) rfl ?_
  exact ⟨rfl, HB.out⟩

set_option maxRecDepth 100000 in
theorem bad_calls {a : GA} {g : Nat} {s : PS} {w : World} (h : PSt a g s w) :
    Calls Tryd.prog 21 #[.pointer (some ⟨g, 0, none⟩)] w fun e w' => e = .returned (.bool s.bad) ∧ Below w.heap.size w w' := by
  obtain ⟨ts, deep, f⟩ := s
  obtain ⟨hgp, hwt, hd0, hd1, ad, c, hbk, hF, hlc⟩ := h
  obtain ⟨t, r, rfl, hwr⟩ := hwt.cons
  replace hd0 : 0 ≤ deep := hd0
  replace hd1 : deep ≤ 200 := hd1
  have BKg : Aside0 (w.heap[g]? = some (.cells #[.slice (some ad) (r.length + 1) c, .int .i64 deep, .int .i64 f.e, .int .i64 f.pos.line, .int .i64 f.pos.col] 68 (0, 0))) := ⟨hbk⟩
  replace hF : Kd.F kToken w (fun k => k < g) (some ad) (r.length + 1) (t :: r) := hF
  replace hlc : r.length + 1 ≤ c := hlc
  have HF := Aside0.mk hF
  have HLC := Lib.hid hlc
  have hm := Kd.F_max hF
  have cg_2 : w.cell? ⟨g, 2, none⟩ = some (.int .i64 f.e) := (blk_cell BKg.out 2).trans rfl
  clear hF hbk hgp hwt hwr
  go_enter Tryd.func21, Tryd.ntmps21
  go_wp2
  go_ret
  exact ⟨rfl, Below.refl _ _⟩

set_option maxRecDepth 100000 in
set_option maxHeartbeats 1600000 in
theorem is_calls {a : GA} {g : Nat} {s : PS} {w : World} (m : ByteArray) (h : PSt a g s w) :
    Calls Tryd.prog 43 #[.pointer (some ⟨g, 0, none⟩), .string m] w fun e w' => e = .returned (.bool (s.isM m.data.toList)) ∧ Below w.heap.size w w' := by
  have PS := Aside0.mk h
  have HB := Aside0.mk (Below.refl w.heap.size w)
  obtain ⟨t, ht⟩ : ∃ t, t = s.now := ⟨_, rfl⟩
  have HV := Lib.hid (show s.isM m.data.toList = ((t.kind == 3 || t.kind == 4) && (t.text.toList == m.toList)) by rw [PS.isM, ht, Lib.toList_data, Lib.toList_data])
  have HT := Lib.hid ht
  clear h ht
  have RW := HT.out
  by_cases k3 : t.kind = 3
  · have b3 : (t.kind == 3) = true := beq_iff_eq.2 k3
    clear k3 RW
    cases hx : t.text.toList == m.toList <;>
    · have HX := Lib.hid hx
      go_enter Tryd.func43, Tryd.ntmps43
      go_wp2_with (first | (go_at_call 22; (with_reducible refine (now_calls PS.out).mono ?_); rintro e W1 ⟨rfl, hb_⟩; rw [← HT.out]; replace HB := Aside0.mk (below_step HB.out hb_); replace PS := Aside0.mk (PSt.below PS.out hb_); clear hb_))
      go_ret
      refine ⟨?_, below_alloc HB.out _⟩
      rw [HV.out, b3, HX.out]
      rfl
  have b3 : (t.kind == 3) = false := beq_eq_false_iff_ne.2 k3
  by_cases k4 : t.kind = 4
  · have b4 : (t.kind == 4) = true := beq_iff_eq.2 k4
    clear k3 k4 RW
    cases hx : t.text.toList == m.toList <;>
    · have HX := Lib.hid hx
      go_enter Tryd.func43, Tryd.ntmps43
      go_wp2_with (first | (go_at_call 22; (with_reducible refine (now_calls PS.out).mono ?_); rintro e W1 ⟨rfl, hb_⟩; rw [← HT.out]; replace HB := Aside0.mk (below_step HB.out hb_); replace PS := Aside0.mk (PSt.below PS.out hb_); clear hb_))
      go_ret
      refine ⟨?_, below_alloc HB.out _⟩
      rw [HV.out, b3, b4, HX.out]
      rfl
  · have b4 : (t.kind == 4) = false := beq_eq_false_iff_ne.2 k4
    clear k3 k4 RW
    go_enter Tryd.func43, Tryd.ntmps43
    go_wp2_with (first | (go_at_call 22; (with_reducible refine (now_calls PS.out).mono ?_); rintro e W1 ⟨rfl, hb_⟩; rw [← HT.out]; replace HB := Aside0.mk (below_step HB.out hb_); replace PS := Aside0.mk (PSt.below PS.out hb_); clear hb_))
    go_ret
    refine ⟨?_, below_alloc HB.out _⟩
    rw [HV.out, b3, b4]
    rfl

set_option maxRecDepth 100000 in
set_option maxHeartbeats 1600000 in
theorem fail_calls {a : GA} {g : Nat} {s : PS} {w : World} (e0 : Int) (h : PSt a g s w) :
    Calls Tryd.prog 26 #[.pointer (some ⟨g, 0, none⟩), .int .i64 e0] w fun e w' => e = .returned (.tuple #[]) ∧ Chg g w w' ∧ PSt a g (s.fail e0) w' := by
  have PS0 := Aside0.mk h
  obtain ⟨ts, deep, f⟩ := s
  obtain ⟨hgp, hwt, hd0, hd1, ad, c, hbk, hF, hlc⟩ := h
  obtain ⟨t, r, rfl, hwr⟩ := hwt.cons
  replace hd0 : 0 ≤ deep := hd0
  replace hd1 : deep ≤ 200 := hd1
  have BKg : Aside0 (w.heap[g]? = some (.cells #[.slice (some ad) (r.length + 1) c, .int .i64 deep, .int .i64 f.e, .int .i64 f.pos.line, .int .i64 f.pos.col] 68 (0, 0))) := ⟨hbk⟩
  replace hF : Kd.F kToken w (fun k => k < g) (some ad) (r.length + 1) (t :: r) := hF
  replace hlc : r.length + 1 ≤ c := hlc
  have HF := Aside0.mk hF
  have HLC := Lib.hid hlc
  have hm := Kd.F_max hF
  have CH := Aside0.mk (Chg.refl g w)
  have HGP := Aside0.mk hgp
  have HNg := Lib.hid (Nat.le_refl g)
  have HWT := Lib.hid hwt
  have HD := Lib.hid (And.intro hd0 hd1)
  have hfd := fld3
  by_cases hz : f.e = 0
  · have kz : (f.e == 0) = true := beq_iff_eq.2 hz
    have HV := Lib.hid (show PS.fail ⟨t :: r, deep, f⟩ e0 = ⟨t :: r, deep, ⟨e0, t.pos⟩⟩ by rw [PS.fail, if_pos (show (PS.mk (t :: r) deep f).f.e = 0 from hz)]; rfl)
    clear hF hbk hgp hwt hwr hz
    have Cg := cl_of BKg.out
    go_enter Tryd.func26, Tryd.ntmps26
    go_wp2_with (first | (go_at_call 22; (with_reducible refine (now_calls PS0.out).mono ?_); rintro e W1 ⟨rfl, hb_⟩; rw [show PS.now ⟨t :: r, deep, f⟩ = t from rfl]; have ch_ : Chg g w W1 := Chg.of_below hb_; have bk_ := blk_below BKg.out hb_; replace CH := Aside0.mk (CH.out.trans ch_); replace BKg := Aside0.mk bk_; replace HF := Aside0.mk (Kd.F_step HF.out (fun k hk hlt => ch_.block k hlt (by have hx := HNg.out; have hy : k < g := hk; omega))); replace Cg := cl_of BKg.out; clear ch_ bk_ hb_) | ((with_reducible refine gate_store (t := 34) (p := 17) (v := .tmp 15) rfl ?_); refine put_event (w1 := ?w1p_2) (g := g) (cs := #[.slice (some ad) (r.length + 1) c, .int .i64 deep, .int .i64 e0, .int .i64 t.pos.line, .int .i64 t.pos.col]) (T := 68) ?hg (t := 34) (p := 17) (v := .tmp 15) ?ha ?hn ?hr ?hk ?hb ?_; (case ha => rfl); (case hn => rfl); (case hg => rfl); (case hr => first | (go_simp; done) | (go_simp; rfl)); (case hk => exact (((Chg.refl _ _).set _ _).set _ _).set _ _); (case hb => exact blk_put (blk_put (blk_put BKg.out 2 _ rfl) 3 _ rfl) 4 _ rfl); intro W2 ch_ hbox_; replace CH := Aside0.mk (CH.out.trans ch_); replace BKg := Aside0.mk hbox_; replace HF := Aside0.mk (Kd.F_step HF.out (fun k hk hlt => ch_.block k hlt (by have hx := HNg.out; have hy : k < g := hk; omega))); replace Cg := cl_of BKg.out; clear ch_ hbox_))
    go_end0
    refine ⟨rfl, CH.out, ?_⟩
    rw [HV.out]
    exact ⟨HGP.out.step CH.out (Nat.le_refl _), HWT.out, HD.out.1, HD.out.2, ad, c, BKg.out, HF.out, HLC.out⟩
  · have kz : (f.e == 0) = false := beq_eq_false_iff_ne.2 hz
    have HV := Lib.hid (show PS.fail ⟨t :: r, deep, f⟩ e0 = ⟨t :: r, deep, f⟩ by rw [PS.fail, if_neg (show ¬ (PS.mk (t :: r) deep f).f.e = 0 from hz)])
    clear hF hbk hgp hwt hwr hz
    have Cg := cl_of BKg.out
    go_enter Tryd.func26, Tryd.ntmps26
    go_wp2
    go_end0
    refine ⟨rfl, CH.out, ?_⟩
    rw [HV.out]
    exact ⟨HGP.out, HWT.out, HD.out.1, HD.out.2, ad, c, BKg.out, HF.out, HLC.out⟩

set_option maxRecDepth 100000 in
set_option maxHeartbeats 3200000 in
theorem skip_calls {a : GA} {g : Nat} {s : PS} {w : World} (h : PSt a g s w) :
    Calls Tryd.prog 44 #[.pointer (some ⟨g, 0, none⟩)] w fun e w' => e = .returned (.agg #[.int .i64 s.now.kind, .string s.now.text, .int .i64 s.now.num, .int .i64 s.now.pos.line, .int .i64 s.now.pos.col]) ∧ Chg g w w' ∧ PSt a g s.skip w' := by
  have PS0 := Aside0.mk h
  obtain ⟨ts, deep, f⟩ := s
  obtain ⟨hgp, hwt, hd0, hd1, ad, c, hbk, hF, hlc⟩ := h
  obtain ⟨t, r, rfl, hwr⟩ := hwt.cons
  replace hd0 : 0 ≤ deep := hd0
  replace hd1 : deep ≤ 200 := hd1
  have BKg : Aside0 (w.heap[g]? = some (.cells #[.slice (some ad) (r.length + 1) c, .int .i64 deep, .int .i64 f.e, .int .i64 f.pos.line, .int .i64 f.pos.col] 68 (0, 0))) := ⟨hbk⟩
  replace hF : Kd.F kToken w (fun k => k < g) (some ad) (r.length + 1) (t :: r) := hF
  replace hlc : r.length + 1 ≤ c := hlc
  have HF := Aside0.mk hF
  have HLC := Lib.hid hlc
  have hm := Kd.F_max hF
  have CH := Aside0.mk (Chg.refl g w)
  have HGP := Aside0.mk hgp
  have HNw := Lib.hid hgp.size
  have HNg := Lib.hid (Nat.le_refl g)
  have HWT := Lib.hid hwt
  have HD := Lib.hid (And.intro hd0 hd1)
  by_cases hz : t.kind = 0
  · have kz : (t.kind != 0) = false := by rw [hz]; rfl
    have HV := Lib.hid (show PS.skip ⟨t :: r, deep, f⟩ = ⟨t :: r, deep, f⟩ by rw [PS.skip, if_pos (show (PS.now ⟨t :: r, deep, f⟩).kind = 0 from hz)])
    clear hF hbk hgp hwt hwr hz
    have Cg := cl_of BKg.out
    go_enter Tryd.func44, Tryd.ntmps44
    go_wp2_with (first | ((with_reducible refine gate_dst (N := 2) rfl ?_); refine box_event ?hg (N := 2) ?hd (cs := #[.int .i64 0, .string ⟨#[]⟩, .int .i64 0, .int .i64 0, .int .i64 0]) (t := 71) ?hr ?_; (case hd => rfl); (case hg => rfl); (case hr => first | (go_simp; done) | (go_simp; rfl)); intro h2 hgE_ W1 hbox_ hb_; have GEh2 := Aside0.mk (show w.heap.size ≤ h2 from Nat.le_trans CH.out.size (Nat.le_of_eq hgE_.symm)); have NEh2 := Aside0.mk (show g ≠ h2 from Nat.ne_of_lt (Nat.lt_of_lt_of_le (blk_lt BKg.out) (Nat.le_of_eq hgE_.symm))); have ch_ : Chg g w W1 := Chg.of_below hb_; replace CH := Aside0.mk (CH.out.trans ch_); replace BKg := Aside0.mk (blk_below BKg.out hb_); replace HF := Aside0.mk (Kd.F_step HF.out (fun k hk hlt => ch_.block k hlt (by have hx := HNg.out; have hy : k < g := hk; omega))); replace Cg := cl_of BKg.out; have BKh2 := Aside0.mk hbox_; have Ch2 := cl_of BKh2.out; have HBX := Aside0.mk hb_; clear ch_ hb_ hbox_ hgE_) | (go_at_call 22; (with_reducible refine (now_calls (PSt.below PS0.out HBX.out)).mono ?_); rintro e W2 ⟨rfl, hb_⟩; rw [show PS.now ⟨t :: r, deep, f⟩ = t from rfl]; have ch_ : Chg g W1 W2 := Chg.of_below hb_; have bk_ := blk_below BKg.out hb_; replace CH := Aside0.mk (CH.out.trans ch_); replace BKg := Aside0.mk bk_; replace HF := Aside0.mk (Kd.F_step HF.out (fun k hk hlt => ch_.block k hlt (by have hx := HNg.out; have hy : k < g := hk; omega))); replace BKh2 := Aside0.mk (blk_below BKh2.out hb_); replace Cg := cl_of BKg.out; replace Ch2 := cl_of BKh2.out; clear ch_ bk_ hb_ HBX) | ((with_reducible refine gate_dst (N := 3) rfl ?_); refine var_event (W1 := ?w1_z3) (N := 3) (cs := #[.int .i64 t.kind, .string t.text, .int .i64 t.num, .int .i64 t.pos.line, .int .i64 t.pos.col]) (t := 71) ?hg ?hd ?hg2 ?hd2 ?hr ?hr2 ?_; (case hd => rfl); (case hg => rfl); (case hd2 => rfl); (case hg2 => rfl); (case hr => first | (go_simp; done) | (go_simp; rfl)); (case hr2 => first | (go_simp; done) | (go_simp; rfl)); intro h3 hgE_ W3 hbox_ hb_; have GEh3 := Aside0.mk (show w.heap.size ≤ h3 from Nat.le_trans CH.out.size (hgE_)); have NEh3 := Aside0.mk (show g ≠ h3 from Nat.ne_of_lt (Nat.lt_of_lt_of_le (blk_lt BKg.out) (hgE_))); have NEh2_h3 := Aside0.mk (show h2 ≠ h3 from Nat.ne_of_lt (Nat.lt_of_lt_of_le (blk_lt BKh2.out) (hgE_))); have ch_ : Chg g W2 W3 := Chg.of_below hb_; replace CH := Aside0.mk (CH.out.trans ch_); replace BKg := Aside0.mk (blk_below BKg.out hb_); replace HF := Aside0.mk (Kd.F_step HF.out (fun k hk hlt => ch_.block k hlt (by have hx := HNg.out; have hy : k < g := hk; omega))); replace BKh2 := Aside0.mk (blk_below BKh2.out hb_); replace Cg := cl_of BKg.out; replace Ch2 := cl_of BKh2.out; have BKh3 := Aside0.mk hbox_; have Ch3 := cl_of BKh3.out; clear ch_ hb_ hbox_ hgE_) | ((with_reducible refine gate_store (t := 71) (p := 2) (v := .tmp 17) rfl ?_); refine put_event (w1 := ?w1p_Z4) (g := h2) (cs := #[.int .i64 t.kind, .string t.text, .int .i64 t.num, .int .i64 t.pos.line, .int .i64 t.pos.col]) (T := 71) ?hg (t := 71) (p := 2) (v := .tmp 17) ?ha ?hn ?hr ?hk ?hb ?_; (case ha => rfl); (case hn => rfl); (case hg => rfl); (case hr => first | (go_simp; done) | (go_simp; rfl)); (case hk => exact (((((Chg.refl _ _).set _ _).set _ _).set _ _).set _ _).set _ _); (case hb => exact blk_put (blk_put (blk_put (blk_put (blk_put BKh2.out 0 _ rfl) 1 _ rfl) 2 _ rfl) 3 _ rfl) 4 _ rfl); intro ZW4 ch_ hbox_; replace CH := Aside0.mk (Chg.own CH.out ch_ GEh2.out); replace HF := Aside0.mk (Kd.F_step HF.out (fun k hk hlt => ch_.block k hlt (by have hx := (Nat.le_trans HNw.out GEh2.out); have hy : k < g := hk; omega))); replace BKg := Aside0.mk (ch_.blk BKg.out NEh2.out); replace BKh2 := Aside0.mk hbox_; replace BKh3 := Aside0.mk (ch_.blk BKh3.out (Ne.symm NEh2_h3.out)); replace Cg := cl_of BKg.out; replace Ch2 := cl_of BKh2.out; replace Ch3 := cl_of BKh3.out; clear ch_ hbox_))
    refine bodyPost_ret (results_cell_row rfl _ _ h2 71 #[.int .i64 t.kind, .string t.text, .int .i64 t.num, .int .i64 t.pos.line, .int .i64 t.pos.col] (0, 0) _ rfl BKh2.out Tryd.underlying71 rfl (by kernel_rfl)) rfl ?_
    refine ⟨rfl, CH.out, ?_⟩
    rw [HV.out]
    exact ⟨HGP.out.step CH.out (Nat.le_refl _), HWT.out, HD.out.1, HD.out.2, ad, c, BKg.out, HF.out, HLC.out⟩
  · have kz : (t.kind != 0) = true := bne_iff_ne.2 hz
    have HV := Lib.hid (show PS.skip ⟨t :: r, deep, f⟩ = ⟨r, deep, f⟩ by rw [PS.skip, if_neg (show ¬ (PS.now ⟨t :: r, deep, f⟩).kind = 0 from hz)]; rfl)
    have HWR := Lib.hid (hwr hz)
    have hc1 : ¬ c = 1 := by
      obtain ⟨t', r', hr', _⟩ := (hwr hz).cons
      rw [hr', List.length_cons] at hlc
      omega
    have HAD := Lib.hid (show ad.add 5 = ⟨ad.block, ad.off + 5, none⟩ from Addr.add_succ' ad 4)
    clear hF hbk hgp hwt hwr hz
    have Cg := cl_of BKg.out
    go_enter Tryd.func44, Tryd.ntmps44
    go_wp2_with (first | ((with_reducible refine gate_dst (N := 2) rfl ?_); refine box_event ?hg (N := 2) ?hd (cs := #[.int .i64 0, .string ⟨#[]⟩, .int .i64 0, .int .i64 0, .int .i64 0]) (t := 71) ?hr ?_; (case hd => rfl); (case hg => rfl); (case hr => first | (go_simp; done) | (go_simp; rfl)); intro h2 hgE_ W1 hbox_ hb_; have GEh2 := Aside0.mk (show w.heap.size ≤ h2 from Nat.le_trans CH.out.size (Nat.le_of_eq hgE_.symm)); have NEh2 := Aside0.mk (show g ≠ h2 from Nat.ne_of_lt (Nat.lt_of_lt_of_le (blk_lt BKg.out) (Nat.le_of_eq hgE_.symm))); have ch_ : Chg g w W1 := Chg.of_below hb_; replace CH := Aside0.mk (CH.out.trans ch_); replace BKg := Aside0.mk (blk_below BKg.out hb_); replace HF := Aside0.mk (Kd.F_step HF.out (fun k hk hlt => ch_.block k hlt (by have hx := HNg.out; have hy : k < g := hk; omega))); replace Cg := cl_of BKg.out; have BKh2 := Aside0.mk hbox_; have Ch2 := cl_of BKh2.out; have HBX := Aside0.mk hb_; clear ch_ hb_ hbox_ hgE_) | (go_at_call 22; (with_reducible refine (now_calls (PSt.below PS0.out HBX.out)).mono ?_); rintro e W2 ⟨rfl, hb_⟩; rw [show PS.now ⟨t :: r, deep, f⟩ = t from rfl]; have ch_ : Chg g W1 W2 := Chg.of_below hb_; have bk_ := blk_below BKg.out hb_; replace CH := Aside0.mk (CH.out.trans ch_); replace BKg := Aside0.mk bk_; replace HF := Aside0.mk (Kd.F_step HF.out (fun k hk hlt => ch_.block k hlt (by have hx := HNg.out; have hy : k < g := hk; omega))); replace BKh2 := Aside0.mk (blk_below BKh2.out hb_); replace Cg := cl_of BKg.out; replace Ch2 := cl_of BKh2.out; clear ch_ bk_ hb_ HBX) | ((with_reducible refine gate_dst (N := 3) rfl ?_); refine var_event (W1 := ?w1_3) (N := 3) (cs := #[.int .i64 t.kind, .string t.text, .int .i64 t.num, .int .i64 t.pos.line, .int .i64 t.pos.col]) (t := 71) ?hg ?hd ?hg2 ?hd2 ?hr ?hr2 ?_; (case hd => rfl); (case hg => rfl); (case hd2 => rfl); (case hg2 => rfl); (case hr => first | (go_simp; done) | (go_simp; rfl)); (case hr2 => first | (go_simp; done) | (go_simp; rfl)); intro h3 hgE_ W3 hbox_ hb_; have GEh3 := Aside0.mk (show w.heap.size ≤ h3 from Nat.le_trans CH.out.size (hgE_)); have NEh3 := Aside0.mk (show g ≠ h3 from Nat.ne_of_lt (Nat.lt_of_lt_of_le (blk_lt BKg.out) (hgE_))); have NEh2_h3 := Aside0.mk (show h2 ≠ h3 from Nat.ne_of_lt (Nat.lt_of_lt_of_le (blk_lt BKh2.out) (hgE_))); have ch_ : Chg g W2 W3 := Chg.of_below hb_; replace CH := Aside0.mk (CH.out.trans ch_); replace BKg := Aside0.mk (blk_below BKg.out hb_); replace HF := Aside0.mk (Kd.F_step HF.out (fun k hk hlt => ch_.block k hlt (by have hx := HNg.out; have hy : k < g := hk; omega))); replace BKh2 := Aside0.mk (blk_below BKh2.out hb_); replace Cg := cl_of BKg.out; replace Ch2 := cl_of BKh2.out; have BKh3 := Aside0.mk hbox_; have Ch3 := cl_of BKh3.out; clear ch_ hb_ hbox_ hgE_) | ((with_reducible refine gate_store (t := 63) (p := 16) (v := .tmp 14) rfl ?_); refine put_event (w1 := ?w1p_4) (g := g) (cs := #[.slice (some ⟨ad.block, ad.off + 5, none⟩) r.length (c - 1), .int .i64 deep, .int .i64 f.e, .int .i64 f.pos.line, .int .i64 f.pos.col]) (T := 68) ?hg (t := 63) (p := 16) (v := .tmp 14) ?ha ?hn ?hr ?hk ?hb ?_; (case ha => rfl); (case hn => rfl); (case hg => rfl); (case hr => first | (go_simp; done) | (go_simp; rfl)); (case hk => exact (Chg.refl _ _).set _ _); (case hb => exact blk_put BKg.out 0 _ rfl); intro W4 ch_ hbox_; replace CH := Aside0.mk (CH.out.trans ch_); replace BKg := Aside0.mk hbox_; replace HF := Aside0.mk (Kd.F_step HF.out (fun k hk hlt => ch_.block k hlt (by have hx := HNg.out; have hy : k < g := hk; omega))); replace BKh2 := Aside0.mk (ch_.blk BKh2.out (Ne.symm NEh2.out)); replace BKh3 := Aside0.mk (ch_.blk BKh3.out (Ne.symm NEh3.out)); replace Cg := cl_of BKg.out; replace Ch2 := cl_of BKh2.out; replace Ch3 := cl_of BKh3.out; clear ch_ hbox_) | ((with_reducible refine gate_store (t := 71) (p := 2) (v := .tmp 17) rfl ?_); refine put_event (w1 := ?w1p_5) (g := h2) (cs := #[.int .i64 t.kind, .string t.text, .int .i64 t.num, .int .i64 t.pos.line, .int .i64 t.pos.col]) (T := 71) ?hg (t := 71) (p := 2) (v := .tmp 17) ?ha ?hn ?hr ?hk ?hb ?_; (case ha => rfl); (case hn => rfl); (case hg => rfl); (case hr => first | (go_simp; done) | (go_simp; rfl)); (case hk => exact (((((Chg.refl _ _).set _ _).set _ _).set _ _).set _ _).set _ _); (case hb => exact blk_put (blk_put (blk_put (blk_put (blk_put BKh2.out 0 _ rfl) 1 _ rfl) 2 _ rfl) 3 _ rfl) 4 _ rfl); intro W5 ch_ hbox_; replace CH := Aside0.mk (Chg.own CH.out ch_ GEh2.out); replace HF := Aside0.mk (Kd.F_step HF.out (fun k hk hlt => ch_.block k hlt (by have hx := (Nat.le_trans HNw.out GEh2.out); have hy : k < g := hk; omega))); replace BKg := Aside0.mk (ch_.blk BKg.out NEh2.out); replace BKh2 := Aside0.mk hbox_; replace BKh3 := Aside0.mk (ch_.blk BKh3.out (Ne.symm NEh2_h3.out)); replace Cg := cl_of BKg.out; replace Ch2 := cl_of BKh2.out; replace Ch3 := cl_of BKh3.out; clear ch_ hbox_))
    refine bodyPost_ret (results_cell_row rfl _ _ h2 71 #[.int .i64 t.kind, .string t.text, .int .i64 t.num, .int .i64 t.pos.line, .int .i64 t.pos.col] (0, 0) _ rfl BKh2.out Tryd.underlying71 rfl (by kernel_rfl)) rfl ?_
    refine ⟨rfl, CH.out, ?_⟩
    rw [HV.out]
    exact ⟨HGP.out.step CH.out (Nat.le_refl _), HWR.out, HD.out.1, HD.out.2, ⟨ad.block, ad.off + 5, none⟩, c - 1, BKg.out, by rw [← HAD.out]; exact F_tail HF.out, by have := HLC.out; show r.length ≤ c - 1; omega⟩
end Go.Proofs.YtgenlgfbjlclbaaDoor
