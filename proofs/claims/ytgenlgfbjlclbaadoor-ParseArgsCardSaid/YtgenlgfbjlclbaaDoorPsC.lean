/- What the parser's functions hand back; its deferred steps; whole. -/
import Derived.Test.YtgenlgfbjlclbaaDoorPsB
import Derived.Defers
namespace Go.Proofs.YtgenlgfbjlclbaaDoor
open Go.RowKit Go.Proofs.YtgenlgfbjlclbaaDoorW.PrintWords Go.Proofs.YtgenlgfbjlclbaaDoorW.PrintLast Go.Proofs.YtgenlgfbjlclbaaDoorW.PrintMore
set_option linter.unusedVariables false
set_option linter.unusedSimpArgs false

/-- An expression is handed back: it lies in blocks made since. -/
def EPost (a : GA) (g : Nat) (w : World) (x : Expr) (s : PS) (e : Ending) (w' : World) : Prop :=
  ∃ A6 c6, e = .returned (.agg #[.int .i64 x.kind, .int .i64 x.pos.line, .int .i64 x.pos.col, .int .i64 x.num, .string x.name, .int .i64 x.op, .slice A6 x.kids.length c6]) ∧ Kd.FK kExpr w' (fun k => w.heap.size ≤ k) x [.int .i64 x.kind, .int .i64 x.pos.line, .int .i64 x.pos.col, .int .i64 x.num, .string x.name, .int .i64 x.op, .slice A6 x.kids.length c6] ∧ Chg g w w' ∧ PSt a g s w'
theorem eZ_FK (w : World) (ok : Nat → Prop) : Kd.FK kExpr w ok eZ [.int .i64 0, .int .i64 0, .int .i64 0, .int .i64 0, .string ⟨#[]⟩, .int .i64 0, .slice none 0 0] := fun W' _ => kExpr_mk W' eZ wf_zero (Nat.le_refl _) (Kd.C_nil kExpr W')
/-- A row of expressions is handed back. -/
def APost (a : GA) (g : Nat) (w : World) (xs : List Expr) (s : PS) (e : Ending) (w' : World) : Prop :=
  ∃ A c, e = .returned (.slice A xs.length c) ∧ xs.length ≤ c ∧ Kd.F kExpr w' (fun k => w.heap.size ≤ k) A xs.length xs ∧ Chg g w w' ∧ PSt a g s w'
/-- A statement is handed back. -/
def SPost (a : GA) (g : Nat) (w : World) (x : Stmt) (s : PS) (e : Ending) (w' : World) : Prop :=
  ∃ A4 c4 A5 c5 A6 c6, e = .returned (.agg #[.int .i64 x.does, .int .i64 x.pos.line, .int .i64 x.pos.col, .string x.name, .slice A4 x.es.length c4, .slice A5 x.thens.length c5, .slice A6 x.elses.length c6]) ∧ Kd.FK kStmt w' (fun k => w.heap.size ≤ k) x [.int .i64 x.does, .int .i64 x.pos.line, .int .i64 x.pos.col, .string x.name, .slice A4 x.es.length c4, .slice A5 x.thens.length c5, .slice A6 x.elses.length c6] ∧ Chg g w w' ∧ PSt a g s w'
/-- A row of statements is handed back. -/
def BPost (a : GA) (g : Nat) (w : World) (xs : List Stmt) (s : PS) (e : Ending) (w' : World) : Prop :=
  ∃ A c, e = .returned (.slice A xs.length c) ∧ xs.length ≤ c ∧ Kd.F kStmt w' (fun k => w.heap.size ≤ k) A xs.length xs ∧ Chg g w w' ∧ PSt a g s w'
/-- What the parser's functions that call each other do, as far as p says. -/
structure Good (a : GA) (g : Nat) (p : Ps) : Prop where
  expr : ∀ (l : Nat) (s : PS) (x : Expr) (s' : PS) (w : World), PSt a g s w → l ≤ 5 → p.expr l s = some (x, s') → Calls Tryd.prog 86 #[.pointer (some ⟨g, 0, none⟩), .int .i64 l] w (EPost a g w x s')
  whole : ∀ (s : PS) (x : Expr) (s' : PS) (w : World), PSt a g s w → p.whole s = some (x, s') → Calls Tryd.prog 73 #[.pointer (some ⟨g, 0, none⟩)] w (EPost a g w x s')
  unary : ∀ (s : PS) (x : Expr) (s' : PS) (w : World), PSt a g s w → p.unary s = some (x, s') → Calls Tryd.prog 92 #[.pointer (some ⟨g, 0, none⟩)] w (EPost a g w x s')
  primary : ∀ (q : Pos) (s : PS) (x : Expr) (s' : PS) (w : World), PSt a g s w → s.bad = false → p.primary q s = some (x, s') → Calls Tryd.prog 96 #[.pointer (some ⟨g, 0, none⟩), .agg #[.int .i64 q.line, .int .i64 q.col]] w (EPost a g w x s')
  args : ∀ (s : PS) (xs : List Expr) (s' : PS) (w : World), PSt a g s w → p.args [] s = some (xs, s') → Calls Tryd.prog 98 #[.pointer (some ⟨g, 0, none⟩)] w (APost a g w xs s')
  block : ∀ (s : PS) (xs : List Stmt) (s' : PS) (w : World), PSt a g s w → p.block s = some (xs, s') → Calls Tryd.prog 47 #[.pointer (some ⟨g, 0, none⟩)] w (BPost a g w xs s')
  stmt : ∀ (s : PS) (x : Stmt) (s' : PS) (w : World), PSt a g s w → p.stmt s = some (x, s') → Calls Tryd.prog 62 #[.pointer (some ⟨g, 0, none⟩)] w (SPost a g w x s')
  choice : ∀ (q : Pos) (s : PS) (x : Stmt) (s' : PS) (w : World), PSt a g s w → p.choice q s = some (x, s') → Calls Tryd.prog 74 #[.pointer (some ⟨g, 0, none⟩), .agg #[.int .i64 0, .int .i64 q.line, .int .i64 q.col, .string ⟨#[]⟩, .slice none 0 0, .slice none 0 0, .slice none 0 0]] w (SPost a g w x s')
  turn : ∀ (q : Pos) (s : PS) (x : Stmt) (s' : PS) (w : World), PSt a g s w → p.turn q s = some (x, s') → Calls Tryd.prog 75 #[.pointer (some ⟨g, 0, none⟩), .agg #[.int .i64 0, .int .i64 q.line, .int .i64 q.col, .string ⟨#[]⟩, .slice none 0 0, .slice none 0 0, .slice none 0 0]] w (SPost a g w x s')

set_option maxRecDepth 100000 in
set_option maxHeartbeats 1600000 in
theorem whole_up {a : GA} {g : Nat} {s : PS} {w : World} (b : Nat) (u : FrameMode) (hb : w.cell? ⟨b, 0, none⟩ = some (.pointer (some ⟨g, 0, none⟩))) (h : PSt a g s w) (hd : 1 ≤ s.deep) :
    CallsD Tryd.prog 85 #[.pointer (some ⟨b, 0, none⟩)] u w fun e u' w' => u' = u ∧ (e = .returned (.tuple #[]) ∧ Chg g w w' ∧ PSt a g s.up w') := by
  obtain ⟨ts, deep, f⟩ := s
  obtain ⟨hgp, hwt, hd0, hd1, ad, c, hbk, hF, hlc⟩ := h
  obtain ⟨t, r, rfl, hwr⟩ := hwt.cons
  replace hd0 : 0 ≤ deep := hd0
  replace hd1 : deep ≤ 200 := hd1
  have BKg : Aside0 (w.heap[g]? = some (.cells #[.slice (some ad) (r.length + 1) c, .int .i64 deep, .int .i64 f.e, .int .i64 f.pos.line, .int .i64 f.pos.col] 68 (0, 0))) := ⟨hbk⟩
  replace hF : Kd.F kToken w (fun k => k < g) (some ad) (r.length + 1) (t :: r) := hF
  replace hlc : r.length + 1 ≤ c := hlc
  have HF := Aside0.mk hF
  have HLC := Lib.hid hlc
  have hm := Kd.F_max hF
  replace hd : 1 ≤ deep := hd
  have CH := Aside0.mk (Chg.refl g w)
  have HGP := Aside0.mk hgp
  have HNg := Lib.hid (Nat.le_refl g)
  have HWT := Lib.hid hwt
  have HD := Lib.hid (show 0 ≤ deep - 1 ∧ deep - 1 ≤ 200 by omega)
  clear hF hbk hgp hwt hwr
  have Cg := cl_of BKg.out
  go_enter_d Tryd.func85, Tryd.ntmps85
  go_wp2_with (first | ((with_reducible refine gate_store (t := 3) (p := 7) (v := .tmp 5) rfl ?_); refine put_event (w1 := ?w1p_1) (g := g) (cs := #[.slice (some ad) (r.length + 1) c, .int .i64 (deep - 1), .int .i64 f.e, .int .i64 f.pos.line, .int .i64 f.pos.col]) (T := 68) ?hg (t := 3) (p := 7) (v := .tmp 5) ?ha ?hn ?hr ?hk ?hb ?_; (case ha => rfl); (case hn => rfl); (case hg => rfl); (case hr => first | (go_simp; done) | (go_simp; rfl)); (case hk => exact (Chg.refl _ _).set _ _); (case hb => exact blk_put BKg.out 1 _ rfl); intro W1 ch_ hbox_; replace CH := Aside0.mk (CH.out.trans ch_); replace BKg := Aside0.mk hbox_; replace HF := Aside0.mk (Kd.F_step HF.out (fun k hk hlt => ch_.block k hlt (by have hx := HNg.out; have hy : k < g := hk; omega))); replace Cg := cl_of BKg.out; clear ch_ hbox_))
  go_end0
  exact ⟨rfl, CH.out, HGP.out.step CH.out (Nat.le_refl _), HWT.out, HD.out.1, HD.out.2, ad, c, BKg.out, HF.out, HLC.out⟩

set_option maxRecDepth 100000 in
set_option maxHeartbeats 1600000 in
theorem unary_up {a : GA} {g : Nat} {s : PS} {w : World} (b : Nat) (u : FrameMode) (hb : w.cell? ⟨b, 0, none⟩ = some (.pointer (some ⟨g, 0, none⟩))) (h : PSt a g s w) (hd : 1 ≤ s.deep) :
    CallsD Tryd.prog 95 #[.pointer (some ⟨b, 0, none⟩)] u w fun e u' w' => u' = u ∧ (e = .returned (.tuple #[]) ∧ Chg g w w' ∧ PSt a g s.up w') := by
  obtain ⟨ts, deep, f⟩ := s
  obtain ⟨hgp, hwt, hd0, hd1, ad, c, hbk, hF, hlc⟩ := h
  obtain ⟨t, r, rfl, hwr⟩ := hwt.cons
  replace hd0 : 0 ≤ deep := hd0
  replace hd1 : deep ≤ 200 := hd1
  have BKg : Aside0 (w.heap[g]? = some (.cells #[.slice (some ad) (r.length + 1) c, .int .i64 deep, .int .i64 f.e, .int .i64 f.pos.line, .int .i64 f.pos.col] 68 (0, 0))) := ⟨hbk⟩
  replace hF : Kd.F kToken w (fun k => k < g) (some ad) (r.length + 1) (t :: r) := hF
  replace hlc : r.length + 1 ≤ c := hlc
  have HF := Aside0.mk hF
  have HLC := Lib.hid hlc
  have hm := Kd.F_max hF
  replace hd : 1 ≤ deep := hd
  have CH := Aside0.mk (Chg.refl g w)
  have HGP := Aside0.mk hgp
  have HNg := Lib.hid (Nat.le_refl g)
  have HWT := Lib.hid hwt
  have HD := Lib.hid (show 0 ≤ deep - 1 ∧ deep - 1 ≤ 200 by omega)
  clear hF hbk hgp hwt hwr
  have Cg := cl_of BKg.out
  go_enter_d Tryd.func95, Tryd.ntmps95
  go_wp2_with (first | ((with_reducible refine gate_store (t := 3) (p := 7) (v := .tmp 5) rfl ?_); refine put_event (w1 := ?w1p_1) (g := g) (cs := #[.slice (some ad) (r.length + 1) c, .int .i64 (deep - 1), .int .i64 f.e, .int .i64 f.pos.line, .int .i64 f.pos.col]) (T := 68) ?hg (t := 3) (p := 7) (v := .tmp 5) ?ha ?hn ?hr ?hk ?hb ?_; (case ha => rfl); (case hn => rfl); (case hg => rfl); (case hr => first | (go_simp; done) | (go_simp; rfl)); (case hk => exact (Chg.refl _ _).set _ _); (case hb => exact blk_put BKg.out 1 _ rfl); intro W1 ch_ hbox_; replace CH := Aside0.mk (CH.out.trans ch_); replace BKg := Aside0.mk hbox_; replace HF := Aside0.mk (Kd.F_step HF.out (fun k hk hlt => ch_.block k hlt (by have hx := HNg.out; have hy : k < g := hk; omega))); replace Cg := cl_of BKg.out; clear ch_ hbox_))
  go_end0
  exact ⟨rfl, CH.out, HGP.out.step CH.out (Nat.le_refl _), HWT.out, HD.out.1, HD.out.2, ad, c, BKg.out, HF.out, HLC.out⟩

set_option maxRecDepth 100000 in
set_option maxHeartbeats 1600000 in
theorem block_up {a : GA} {g : Nat} {s : PS} {w : World} (b : Nat) (u : FrameMode) (hb : w.cell? ⟨b, 0, none⟩ = some (.pointer (some ⟨g, 0, none⟩))) (h : PSt a g s w) (hd : 1 ≤ s.deep) :
    CallsD Tryd.prog 61 #[.pointer (some ⟨b, 0, none⟩)] u w fun e u' w' => u' = u ∧ (e = .returned (.tuple #[]) ∧ Chg g w w' ∧ PSt a g s.up w') := by
  obtain ⟨ts, deep, f⟩ := s
  obtain ⟨hgp, hwt, hd0, hd1, ad, c, hbk, hF, hlc⟩ := h
  obtain ⟨t, r, rfl, hwr⟩ := hwt.cons
  replace hd0 : 0 ≤ deep := hd0
  replace hd1 : deep ≤ 200 := hd1
  have BKg : Aside0 (w.heap[g]? = some (.cells #[.slice (some ad) (r.length + 1) c, .int .i64 deep, .int .i64 f.e, .int .i64 f.pos.line, .int .i64 f.pos.col] 68 (0, 0))) := ⟨hbk⟩
  replace hF : Kd.F kToken w (fun k => k < g) (some ad) (r.length + 1) (t :: r) := hF
  replace hlc : r.length + 1 ≤ c := hlc
  have HF := Aside0.mk hF
  have HLC := Lib.hid hlc
  have hm := Kd.F_max hF
  replace hd : 1 ≤ deep := hd
  have CH := Aside0.mk (Chg.refl g w)
  have HGP := Aside0.mk hgp
  have HNg := Lib.hid (Nat.le_refl g)
  have HWT := Lib.hid hwt
  have HD := Lib.hid (show 0 ≤ deep - 1 ∧ deep - 1 ≤ 200 by omega)
  clear hF hbk hgp hwt hwr
  have Cg := cl_of BKg.out
  go_enter_d Tryd.func61, Tryd.ntmps61
  go_wp2_with (first | ((with_reducible refine gate_store (t := 3) (p := 7) (v := .tmp 5) rfl ?_); refine put_event (w1 := ?w1p_1) (g := g) (cs := #[.slice (some ad) (r.length + 1) c, .int .i64 (deep - 1), .int .i64 f.e, .int .i64 f.pos.line, .int .i64 f.pos.col]) (T := 68) ?hg (t := 3) (p := 7) (v := .tmp 5) ?ha ?hn ?hr ?hk ?hb ?_; (case ha => rfl); (case hn => rfl); (case hg => rfl); (case hr => first | (go_simp; done) | (go_simp; rfl)); (case hk => exact (Chg.refl _ _).set _ _); (case hb => exact blk_put BKg.out 1 _ rfl); intro W1 ch_ hbox_; replace CH := Aside0.mk (CH.out.trans ch_); replace BKg := Aside0.mk hbox_; replace HF := Aside0.mk (Kd.F_step HF.out (fun k hk hlt => ch_.block k hlt (by have hx := HNg.out; have hy : k < g := hk; omega))); replace Cg := cl_of BKg.out; clear ch_ hbox_))
  go_end0
  exact ⟨rfl, CH.out, HGP.out.step CH.out (Nat.le_refl _), HWT.out, HD.out.1, HD.out.2, ad, c, BKg.out, HF.out, HLC.out⟩

theorem deep_down {s : PS} (h : s.down.1 = true) : s.down.2.deep = s.deep + 1 := by
  unfold PS.down at h ⊢
  split
  · rename_i hb; rw [if_pos hb] at h; cases h
  · split
    · rename_i hb h2; rw [if_neg hb, if_pos h2] at h; cases h
    · rfl
set_option maxRecDepth 100000 in
set_option maxHeartbeats 6400000 in
theorem whole_step {a : GA} {g : Nat} {p : Ps} (G : Good a g p) (hdeep : ∀ l s x s', p.expr l s = some (x, s') → s'.deep = s.deep) (s : PS) (x : Expr) (s' : PS) (w : World) (h : PSt a g s w) (hx : psWhole p s = some (x, s')) :
    Calls Tryd.prog 73 #[.pointer (some ⟨g, 0, none⟩)] w (EPost a g w x s') := by
  have hmf : ∀ (fn : Fn) (first cap : Array Value) (w : World), (Instr.makeFunc fn first cap).run Tryd.prog w = .ok (.func fn first cap) w := fun _ _ _ _ => rfl
  have PS := Aside0.mk h
  have CH := Aside0.mk (Chg.refl g w)
  unfold psWhole at hx
  cases hd : s.down.1 with
  | false =>
    have HD := Lib.hid hd
    rw [hd, if_neg (by decide)] at hx
    obtain ⟨rfl, rfl⟩ := Prod.mk.inj (Option.some.inj hx)
    clear hx hd h
    go_enter_defers Tryd.func73, Tryd.ntmps73
    go_wp2_with (first | ((with_reducible refine gate_dst (N := 1) rfl ?_); refine box_event ?hg (N := 1) ?hd (cs := #[.pointer (some ⟨g, 0, none⟩)]) (t := 66) ?hr ?_; (case hd => rfl); (case hg => rfl); (case hr => first | (go_simp; done) | (go_simp; rfl)); intro h1 hgE_ W1 hbox_ hb_; have NE1 := Aside0.mk (show g < h1 from hgE_ ▸ PS.out.lt); have GE1 := Aside0.mk (show w.heap.size ≤ h1 from Nat.le_of_eq hgE_.symm); replace CH := Aside0.mk (CH.out.trans (Chg.of_below hb_)); replace PS := Aside0.mk (PSt.below PS.out hb_); have BK1 := Aside0.mk hbox_; clear hb_ hbox_ hgE_) | ((with_reducible refine gate_dst (N := 2) rfl ?_); refine box_event ?hg (N := 2) ?hd (cs := #[.int .i64 0, .int .i64 0, .int .i64 0, .int .i64 0, .string ⟨#[]⟩, .int .i64 0, .slice none 0 0]) (t := 51) ?hr ?_; (case hd => rfl); (case hg => rfl); (case hr => first | (go_simp; done) | (go_simp; rfl)); intro h2 hgE_ W2 hbox_ hb_; have NE2 := Aside0.mk (show g < h2 from hgE_ ▸ PS.out.lt); have GE2 := Aside0.mk (show w.heap.size ≤ h2 from Nat.le_trans CH.out.size (Nat.le_of_eq hgE_.symm)); have NE12 := Aside0.mk (show h1 ≠ h2 from Nat.ne_of_lt (hgE_ ▸ blk_lt BK1.out)); replace CH := Aside0.mk (CH.out.trans (Chg.of_below hb_)); replace PS := Aside0.mk (PSt.below PS.out hb_); replace BK1 := Aside0.mk (blk_below BK1.out hb_); have BK2 := Aside0.mk hbox_; have c1_0 : W2.cell? ⟨h1, 0, none⟩ = some (.pointer (some ⟨g, 0, none⟩)) := (blk_cell BK1.out 0).trans rfl; have c2_0 : W2.cell? ⟨h2, 0, none⟩ = some (.int .i64 0) := (blk_cell BK2.out 0).trans rfl; have z2_0 : W2.frozen? ⟨h2, 0, none⟩ = false := blk_frozen BK2.out 0; have c2_1 : W2.cell? ⟨h2, 1, none⟩ = some (.int .i64 0) := (blk_cell BK2.out 1).trans rfl; have z2_1 : W2.frozen? ⟨h2, 1, none⟩ = false := blk_frozen BK2.out 1; have c2_2 : W2.cell? ⟨h2, 2, none⟩ = some (.int .i64 0) := (blk_cell BK2.out 2).trans rfl; have z2_2 : W2.frozen? ⟨h2, 2, none⟩ = false := blk_frozen BK2.out 2; have c2_3 : W2.cell? ⟨h2, 3, none⟩ = some (.int .i64 0) := (blk_cell BK2.out 3).trans rfl; have z2_3 : W2.frozen? ⟨h2, 3, none⟩ = false := blk_frozen BK2.out 3; have c2_4 : W2.cell? ⟨h2, 4, none⟩ = some (.string ⟨#[]⟩) := (blk_cell BK2.out 4).trans rfl; have z2_4 : W2.frozen? ⟨h2, 4, none⟩ = false := blk_frozen BK2.out 4; have c2_5 : W2.cell? ⟨h2, 5, none⟩ = some (.int .i64 0) := (blk_cell BK2.out 5).trans rfl; have z2_5 : W2.frozen? ⟨h2, 5, none⟩ = false := blk_frozen BK2.out 5; have c2_6 : W2.cell? ⟨h2, 6, none⟩ = some (.slice none 0 0) := (blk_cell BK2.out 6).trans rfl; have z2_6 : W2.frozen? ⟨h2, 6, none⟩ = false := blk_frozen BK2.out 6; clear hb_ hbox_ hgE_) | (go_at_call 60; (with_reducible refine (down_no PS.out HD.out).mono ?_); rintro e W3 ⟨rfl, ch_, ps_⟩; replace CH := Aside0.mk (CH.out.trans ch_); replace PS := Aside0.mk ps_; replace BK1 := Aside0.mk (ch_.blk BK1.out (Nat.ne_of_gt NE1.out)); replace BK2 := Aside0.mk (ch_.blk BK2.out (Nat.ne_of_gt NE2.out)); replace c1_0 : W3.cell? ⟨h1, 0, none⟩ = some (.pointer (some ⟨g, 0, none⟩)) := (blk_cell BK1.out 0).trans rfl; replace c2_0 : W3.cell? ⟨h2, 0, none⟩ = some (.int .i64 0) := (blk_cell BK2.out 0).trans rfl; replace z2_0 : W3.frozen? ⟨h2, 0, none⟩ = false := blk_frozen BK2.out 0; replace c2_1 : W3.cell? ⟨h2, 1, none⟩ = some (.int .i64 0) := (blk_cell BK2.out 1).trans rfl; replace z2_1 : W3.frozen? ⟨h2, 1, none⟩ = false := blk_frozen BK2.out 1; replace c2_2 : W3.cell? ⟨h2, 2, none⟩ = some (.int .i64 0) := (blk_cell BK2.out 2).trans rfl; replace z2_2 : W3.frozen? ⟨h2, 2, none⟩ = false := blk_frozen BK2.out 2; replace c2_3 : W3.cell? ⟨h2, 3, none⟩ = some (.int .i64 0) := (blk_cell BK2.out 3).trans rfl; replace z2_3 : W3.frozen? ⟨h2, 3, none⟩ = false := blk_frozen BK2.out 3; replace c2_4 : W3.cell? ⟨h2, 4, none⟩ = some (.string ⟨#[]⟩) := (blk_cell BK2.out 4).trans rfl; replace z2_4 : W3.frozen? ⟨h2, 4, none⟩ = false := blk_frozen BK2.out 4; replace c2_5 : W3.cell? ⟨h2, 5, none⟩ = some (.int .i64 0) := (blk_cell BK2.out 5).trans rfl; replace z2_5 : W3.frozen? ⟨h2, 5, none⟩ = false := blk_frozen BK2.out 5; replace c2_6 : W3.cell? ⟨h2, 6, none⟩ = some (.slice none 0 0) := (blk_cell BK2.out 6).trans rfl; replace z2_6 : W3.frozen? ⟨h2, 6, none⟩ = false := blk_frozen BK2.out 6; clear ch_ ps_) | ((with_reducible refine gate_store (t := 51) (p := 2) (v := .tmp 6) rfl ?_); refine put_event (w1 := ?w1p_a) (g := h2) (cs := #[.int .i64 0, .int .i64 0, .int .i64 0, .int .i64 0, .string ⟨#[]⟩, .int .i64 0, .slice none 0 0]) (T := 51) ?hg (t := 51) (p := 2) (v := .tmp 6) ?ha ?hn ?hr ?hk ?hb ?_; (case ha => rfl); (case hn => rfl); (case hg => rfl); (case hr => first | (go_simp; done) | (go_simp; rfl)); (case hk => exact (((((((Chg.refl _ _).set _ _).set _ _).set _ _).set _ _).set _ _).set _ _).set _ _); (case hb => exact blk_put (blk_put (blk_put (blk_put (blk_put (blk_put (blk_put BK2.out 0 _ rfl) 1 _ rfl) 2 _ rfl) 3 _ rfl) 4 _ rfl) 5 _ rfl) 6 _ rfl); intro W9 ch_ hbox_; replace CH := Aside0.mk (Chg.own CH.out ch_ GE2.out); replace PS := Aside0.mk (PSt.own PS.out ch_ NE2.out); replace BK1 := Aside0.mk (ch_.blk BK1.out NE12.out); replace c1_0 : W9.cell? ⟨h1, 0, none⟩ = some (.pointer (some ⟨g, 0, none⟩)) := (blk_cell BK1.out 0).trans rfl; replace BK2 := Aside0.mk hbox_; clear ch_ hbox_))
    refine ⟨_, results_cell_row rfl _ _ h2 51 #[.int .i64 0, .int .i64 0, .int .i64 0, .int .i64 0, .string ⟨#[]⟩, .int .i64 0, .slice none 0 0] (0, 0) _ rfl BK2.out Tryd.underlying51 rfl (by kernel_rfl), none, 0, rfl, eZ_FK _ _, CH.out, PS.out⟩
  | true =>
    have HD := Lib.hid hd
    have HDD := Lib.hid (deep_down hd)
    have h0 := h.d0
    rw [hd, if_pos rfl] at hx
    obtain ⟨⟨x1, s1⟩, h1, h2⟩ := Option.bind_eq_some_iff.1 hx
    obtain ⟨rfl, rfl⟩ := Prod.mk.inj (Option.some.inj h2)
    have HX := Lib.hid h1
    have G0 : ∀ (s : Go.Proofs.YtgenlgfbjlclbaaDoor.PS) (x : Expr) (s' : Go.Proofs.YtgenlgfbjlclbaaDoor.PS) (w : World), PSt a g s w → p.expr 0 s = some (x, s') → Calls Tryd.prog 86 #[.pointer (some ⟨g, 0, none⟩), .int .i64 0] w (EPost a g w x s') := fun s x s' w h hx => G.expr 0 s x s' w h (by decide) hx
    have HDX := Lib.hid (show 1 ≤ s1.deep by rw [hdeep _ _ _ _ h1, deep_down hd]; omega)
    clear hx hd h h1 h2 h0
    go_enter_defers Tryd.func73, Tryd.ntmps73
    go_wp2_with (first | ((with_reducible refine gate_dst (N := 1) rfl ?_); refine box_event ?hg (N := 1) ?hd (cs := #[.pointer (some ⟨g, 0, none⟩)]) (t := 66) ?hr ?_; (case hd => rfl); (case hg => rfl); (case hr => first | (go_simp; done) | (go_simp; rfl)); intro h1 hgE_ W1 hbox_ hb_; have NE1 := Aside0.mk (show g < h1 from hgE_ ▸ PS.out.lt); have GE1 := Aside0.mk (show w.heap.size ≤ h1 from Nat.le_of_eq hgE_.symm); replace CH := Aside0.mk (CH.out.trans (Chg.of_below hb_)); replace PS := Aside0.mk (PSt.below PS.out hb_); have BK1 := Aside0.mk hbox_; clear hb_ hbox_ hgE_) | ((with_reducible refine gate_dst (N := 2) rfl ?_); refine box_event ?hg (N := 2) ?hd (cs := #[.int .i64 0, .int .i64 0, .int .i64 0, .int .i64 0, .string ⟨#[]⟩, .int .i64 0, .slice none 0 0]) (t := 51) ?hr ?_; (case hd => rfl); (case hg => rfl); (case hr => first | (go_simp; done) | (go_simp; rfl)); intro h2 hgE_ W2 hbox_ hb_; have NE2 := Aside0.mk (show g < h2 from hgE_ ▸ PS.out.lt); have GE2 := Aside0.mk (show w.heap.size ≤ h2 from Nat.le_trans CH.out.size (Nat.le_of_eq hgE_.symm)); have NE12 := Aside0.mk (show h1 ≠ h2 from Nat.ne_of_lt (hgE_ ▸ blk_lt BK1.out)); replace CH := Aside0.mk (CH.out.trans (Chg.of_below hb_)); replace PS := Aside0.mk (PSt.below PS.out hb_); replace BK1 := Aside0.mk (blk_below BK1.out hb_); have BK2 := Aside0.mk hbox_; have c1_0 : W2.cell? ⟨h1, 0, none⟩ = some (.pointer (some ⟨g, 0, none⟩)) := (blk_cell BK1.out 0).trans rfl; have c2_0 : W2.cell? ⟨h2, 0, none⟩ = some (.int .i64 0) := (blk_cell BK2.out 0).trans rfl; have z2_0 : W2.frozen? ⟨h2, 0, none⟩ = false := blk_frozen BK2.out 0; have c2_1 : W2.cell? ⟨h2, 1, none⟩ = some (.int .i64 0) := (blk_cell BK2.out 1).trans rfl; have z2_1 : W2.frozen? ⟨h2, 1, none⟩ = false := blk_frozen BK2.out 1; have c2_2 : W2.cell? ⟨h2, 2, none⟩ = some (.int .i64 0) := (blk_cell BK2.out 2).trans rfl; have z2_2 : W2.frozen? ⟨h2, 2, none⟩ = false := blk_frozen BK2.out 2; have c2_3 : W2.cell? ⟨h2, 3, none⟩ = some (.int .i64 0) := (blk_cell BK2.out 3).trans rfl; have z2_3 : W2.frozen? ⟨h2, 3, none⟩ = false := blk_frozen BK2.out 3; have c2_4 : W2.cell? ⟨h2, 4, none⟩ = some (.string ⟨#[]⟩) := (blk_cell BK2.out 4).trans rfl; have z2_4 : W2.frozen? ⟨h2, 4, none⟩ = false := blk_frozen BK2.out 4; have c2_5 : W2.cell? ⟨h2, 5, none⟩ = some (.int .i64 0) := (blk_cell BK2.out 5).trans rfl; have z2_5 : W2.frozen? ⟨h2, 5, none⟩ = false := blk_frozen BK2.out 5; have c2_6 : W2.cell? ⟨h2, 6, none⟩ = some (.slice none 0 0) := (blk_cell BK2.out 6).trans rfl; have z2_6 : W2.frozen? ⟨h2, 6, none⟩ = false := blk_frozen BK2.out 6; clear hb_ hbox_ hgE_) | (go_at_call 60; (with_reducible refine (down_yes PS.out HD.out).mono ?_); rintro e W3 ⟨rfl, ch_, ps_⟩; replace CH := Aside0.mk (CH.out.trans ch_); replace PS := Aside0.mk ps_; replace BK1 := Aside0.mk (ch_.blk BK1.out (Nat.ne_of_gt NE1.out)); replace BK2 := Aside0.mk (ch_.blk BK2.out (Nat.ne_of_gt NE2.out)); replace c1_0 : W3.cell? ⟨h1, 0, none⟩ = some (.pointer (some ⟨g, 0, none⟩)) := (blk_cell BK1.out 0).trans rfl; replace c2_0 : W3.cell? ⟨h2, 0, none⟩ = some (.int .i64 0) := (blk_cell BK2.out 0).trans rfl; replace z2_0 : W3.frozen? ⟨h2, 0, none⟩ = false := blk_frozen BK2.out 0; replace c2_1 : W3.cell? ⟨h2, 1, none⟩ = some (.int .i64 0) := (blk_cell BK2.out 1).trans rfl; replace z2_1 : W3.frozen? ⟨h2, 1, none⟩ = false := blk_frozen BK2.out 1; replace c2_2 : W3.cell? ⟨h2, 2, none⟩ = some (.int .i64 0) := (blk_cell BK2.out 2).trans rfl; replace z2_2 : W3.frozen? ⟨h2, 2, none⟩ = false := blk_frozen BK2.out 2; replace c2_3 : W3.cell? ⟨h2, 3, none⟩ = some (.int .i64 0) := (blk_cell BK2.out 3).trans rfl; replace z2_3 : W3.frozen? ⟨h2, 3, none⟩ = false := blk_frozen BK2.out 3; replace c2_4 : W3.cell? ⟨h2, 4, none⟩ = some (.string ⟨#[]⟩) := (blk_cell BK2.out 4).trans rfl; replace z2_4 : W3.frozen? ⟨h2, 4, none⟩ = false := blk_frozen BK2.out 4; replace c2_5 : W3.cell? ⟨h2, 5, none⟩ = some (.int .i64 0) := (blk_cell BK2.out 5).trans rfl; replace z2_5 : W3.frozen? ⟨h2, 5, none⟩ = false := blk_frozen BK2.out 5; replace c2_6 : W3.cell? ⟨h2, 6, none⟩ = some (.slice none 0 0) := (blk_cell BK2.out 6).trans rfl; replace z2_6 : W3.frozen? ⟨h2, 6, none⟩ = false := blk_frozen BK2.out 6; clear ch_ ps_) | (go_at_call 86; (with_reducible refine (G0 _ _ _ _ PS.out HX.out).mono ?_); rintro e W4 ⟨A6, c6, rfl, fk_, ch_, ps_⟩; have GEW := Aside0.mk CH.out.size; replace CH := Aside0.mk (CH.out.trans ch_); replace PS := Aside0.mk ps_; obtain ⟨LW_, hlw_⟩ : ∃ n, n = W3.heap.size := ⟨_, rfl⟩; rw [← hlw_] at fk_; have H2L := Aside0.mk (show h2 < LW_ from hlw_ ▸ blk_lt BK2.out); have HLW := Aside0.mk (show w.heap.size ≤ LW_ from hlw_ ▸ GEW.out); clear hlw_; have FK := Aside0.mk fk_; replace BK1 := Aside0.mk (ch_.blk BK1.out (Nat.ne_of_gt NE1.out)); replace BK2 := Aside0.mk (ch_.blk BK2.out (Nat.ne_of_gt NE2.out)); replace c1_0 : W4.cell? ⟨h1, 0, none⟩ = some (.pointer (some ⟨g, 0, none⟩)) := (blk_cell BK1.out 0).trans rfl; replace c2_0 : W4.cell? ⟨h2, 0, none⟩ = some (.int .i64 0) := (blk_cell BK2.out 0).trans rfl; replace z2_0 : W4.frozen? ⟨h2, 0, none⟩ = false := blk_frozen BK2.out 0; replace c2_1 : W4.cell? ⟨h2, 1, none⟩ = some (.int .i64 0) := (blk_cell BK2.out 1).trans rfl; replace z2_1 : W4.frozen? ⟨h2, 1, none⟩ = false := blk_frozen BK2.out 1; replace c2_2 : W4.cell? ⟨h2, 2, none⟩ = some (.int .i64 0) := (blk_cell BK2.out 2).trans rfl; replace z2_2 : W4.frozen? ⟨h2, 2, none⟩ = false := blk_frozen BK2.out 2; replace c2_3 : W4.cell? ⟨h2, 3, none⟩ = some (.int .i64 0) := (blk_cell BK2.out 3).trans rfl; replace z2_3 : W4.frozen? ⟨h2, 3, none⟩ = false := blk_frozen BK2.out 3; replace c2_4 : W4.cell? ⟨h2, 4, none⟩ = some (.string ⟨#[]⟩) := (blk_cell BK2.out 4).trans rfl; replace z2_4 : W4.frozen? ⟨h2, 4, none⟩ = false := blk_frozen BK2.out 4; replace c2_5 : W4.cell? ⟨h2, 5, none⟩ = some (.int .i64 0) := (blk_cell BK2.out 5).trans rfl; replace z2_5 : W4.frozen? ⟨h2, 5, none⟩ = false := blk_frozen BK2.out 5; replace c2_6 : W4.cell? ⟨h2, 6, none⟩ = some (.slice none 0 0) := (blk_cell BK2.out 6).trans rfl; replace z2_6 : W4.frozen? ⟨h2, 6, none⟩ = false := blk_frozen BK2.out 6; clear ch_ ps_ fk_) | ((with_reducible refine gate_store (t := 51) (p := 2) (v := .tmp 9) rfl ?_); refine put_event (w1 := ?w1p_b) (g := h2) (cs := #[.int .i64 x1.kind, .int .i64 x1.pos.line, .int .i64 x1.pos.col, .int .i64 x1.num, .string x1.name, .int .i64 x1.op, .slice A6 x1.kids.length c6]) (T := 51) ?hg (t := 51) (p := 2) (v := .tmp 9) ?ha ?hn ?hr ?hk ?hb ?_; (case ha => rfl); (case hn => rfl); (case hg => rfl); (case hr => first | (go_simp; done) | (go_simp; rfl)); (case hk => exact (((((((Chg.refl _ _).set _ _).set _ _).set _ _).set _ _).set _ _).set _ _).set _ _); (case hb => exact blk_put (blk_put (blk_put (blk_put (blk_put (blk_put (blk_put BK2.out 0 _ rfl) 1 _ rfl) 2 _ rfl) 3 _ rfl) 4 _ rfl) 5 _ rfl) 6 _ rfl); intro W9 ch_ hbox_; replace CH := Aside0.mk (Chg.own CH.out ch_ GE2.out); replace PS := Aside0.mk (PSt.own PS.out ch_ NE2.out); replace BK1 := Aside0.mk (ch_.blk BK1.out NE12.out); replace c1_0 : W9.cell? ⟨h1, 0, none⟩ = some (.pointer (some ⟨g, 0, none⟩)) := (blk_cell BK1.out 0).trans rfl; replace BK2 := Aside0.mk hbox_; replace FK := Aside0.mk (Foot.step FK.out (fun k hk hlt => ch_.block k hlt (by have h_ : LW_ ≤ k := hk; have h2_ := H2L.out; omega))); clear ch_ hbox_))
    refine leaves_cons (f := 85) (args := #[.pointer (some ⟨h1, 0, none⟩)]) (by simp) (by simp [go_sem]) ?_
    refine (whole_up h1 .returning ((blk_cell BK1.out 0).trans rfl) PS.out HDX.out).mono ?_
    rintro e u' w9 ⟨rfl, rfl, ch_, ps_⟩
    exact ⟨_, results_cell_row rfl _ _ h2 51 #[.int .i64 x1.kind, .int .i64 x1.pos.line, .int .i64 x1.pos.col, .int .i64 x1.num, .string x1.name, .int .i64 x1.op, .slice A6 x1.kids.length c6] (0, 0) _ rfl (ch_.blk BK2.out (Nat.ne_of_gt NE2.out)) Tryd.underlying51 rfl (by kernel_rfl), A6, c6, rfl, Foot.mono (Foot.step FK.out (fun k hk hlt => ch_.block k hlt (by have h_ : LW_ ≤ k := hk; have h2_ := H2L.out; have h3_ := NE2.out; omega))) (fun k hk => Nat.le_trans HLW.out hk), CH.out.trans ch_, ps_⟩
end Go.Proofs.YtgenlgfbjlclbaaDoor
