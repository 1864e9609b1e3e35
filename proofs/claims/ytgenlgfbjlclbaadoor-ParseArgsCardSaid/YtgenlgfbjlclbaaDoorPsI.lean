/- expr: an expression of marks from a level on. -/
import Derived.Test.YtgenlgfbjlclbaaDoorPsH
namespace Go.Proofs.YtgenlgfbjlclbaaDoor
open Go.RowKit Go.Proofs.YtgenlgfbjlclbaaDoorW.PrintWords Go.Proofs.YtgenlgfbjlclbaaDoorW.PrintLast Go.Proofs.YtgenlgfbjlclbaaDoorW.PrintMore
set_option linter.unusedVariables false
set_option linter.unusedSimpArgs false

theorem levels_at {a : GA} {g : Nat} {s : PS} {w : World} (h : PSt a g s w) (l : Nat) (hl : l < 5) :
    ∃ ad A n c, a.lA = some ad ∧ w.cell? (ad.add l) = some (.slice A n c) ∧ Kd.F Kd.string w (fun k => k < g) A n (strs (levelsL.getD l [])) := by
  have hF : Kd.F (Kd.slice 9 Kd.string) w (fun k => k < g) a.lA 5 (levelsL.map strs) := fun W' hW => (h.gp.all W' (fun k hk => hW k hk (Nat.lt_of_lt_of_le hk h.gp.size))).levelsC
  obtain ⟨ad, c, hA, hcl, hK, hcc, _⟩ := Kd.F_get hF [] (l : Int) (by omega) (by omega)
  have hget : (levelsL.map strs).getD (l : Int).toNat [] = strs (levelsL.getD l []) := by
    have hl2 : l < levelsL.length := hl
    simp [List.getD_eq_getElem?_getD, hl2]
  rw [hget] at hK
  obtain ⟨A, cc, rfl, hl1, hC⟩ := Foot.now hK
  refine ⟨ad, A, (strs (levelsL.getD l [])).length, cc, hA, ?_, fun W' hW => ?_⟩
  · have h2 : w.cell? (ad.add ((l : Int).toNat * 1 + 0)) = some (.slice A (strs (levelsL.getD l [])).length cc) := hcc 0 _ rfl
    simpa using h2
  · obtain ⟨A', cc', he, _, hC'⟩ := hK W' hW
    injection he with he _
    injection he with e1 e2 e3
    rw [e1]
    exact hC'
theorem Fr.both {a : GA} {g : Nat} {w0 w : World} {s : PS} {os : List Ow} {vs : List Vl} {ok1 ok2 : Nat → Prop} (m : ByteArray) (q : Pos) (x y : Expr) (A B : Option Addr) (c d : Nat) (F : Fr a g w0 s os (⟨ok2, fun W => kExpr.K W y [.int .i64 y.kind, .int .i64 y.pos.line, .int .i64 y.pos.col, .int .i64 y.num, .string y.name, .int .i64 y.op, .slice B y.kids.length d]⟩ :: ⟨ok1, fun W => kExpr.K W x [.int .i64 x.kind, .int .i64 x.pos.line, .int .i64 x.pos.col, .int .i64 x.num, .string x.name, .int .i64 x.op, .slice A x.kids.length c]⟩ :: vs) w) :
    Calls Tryd.prog 94 #[.string m, .agg #[.int .i64 q.line, .int .i64 q.col], .agg #[.int .i64 x.kind, .int .i64 x.pos.line, .int .i64 x.pos.col, .int .i64 x.num, .string x.name, .int .i64 x.op, .slice A x.kids.length c], .agg #[.int .i64 y.kind, .int .i64 y.pos.line, .int .i64 y.pos.col, .int .i64 y.num, .string y.name, .int .i64 y.op, .slice B y.kids.length d]] w fun e w' => ∃ A6 c6 ok, e = .returned (.agg #[.int .i64 (bothL m.data.toList q x y).kind, .int .i64 (bothL m.data.toList q x y).pos.line, .int .i64 (bothL m.data.toList q x y).pos.col, .int .i64 (bothL m.data.toList q x y).num, .string (bothL m.data.toList q x y).name, .int .i64 (bothL m.data.toList q x y).op, .slice A6 (bothL m.data.toList q x y).kids.length c6]) ∧ Fr a g w0 s os (⟨ok, fun W => kExpr.K W (bothL m.data.toList q x y) [.int .i64 (bothL m.data.toList q x y).kind, .int .i64 (bothL m.data.toList q x y).pos.line, .int .i64 (bothL m.data.toList q x y).pos.col, .int .i64 (bothL m.data.toList q x y).num, .string (bothL m.data.toList q x y).name, .int .i64 (bothL m.data.toList q x y).op, .slice A6 (bothL m.data.toList q x y).kids.length c6]⟩ :: vs) w' :=
  (both_calls m q x y A B c d (fun k => ok2 k ∨ ok1 k) w (Foot.mono (F.val _ (.tail _ (.head _))).1 (fun _ => .inr)) (Foot.mono (F.val _ (.head _)).1 (fun _ => .inl)) F.ps.gp.now.glob).mono (fun _ _ h => by
    obtain ⟨A6, c6, he, hf, hb⟩ := h
    obtain ⟨ok, F'⟩ := F.turn2 hb hf
    exact ⟨A6, c6, ok, he, F'⟩)
theorem ps_rest (m : Nat) : (ps (m + 1)).rest = psRest (ps m) := rfl
set_option maxRecDepth 100000 in
set_option maxHeartbeats 12800000 in
theorem expr_step {a : GA} {g : Nat} (n : Nat) (IH : ∀ m, m ≤ n → Good a g (ps m)) (l : Nat) (s : PS) (x : Expr) (s' : PS) (w : World) (h : PSt a g s w) (hl : l ≤ 5) (hx : psExpr (ps n) l s = some (x, s')) :
    Calls Tryd.prog 86 #[.pointer (some ⟨g, 0, none⟩), .int .i64 l] w (EPost a g w x s') := by
  obtain ⟨wA, wc, mA, mc, lA, lc⟩ := a
  have FR := Aside0.mk (Fr.start h)
  have C := FR.out.c0
  have G := IH n (Nat.le_refl _)
  unfold psExpr at hx
  by_cases h5 : l = 5
  · rw [if_pos h5] at hx
    subst h5
    have HX := Lib.hid hx
    clear hx h hl
    go_enter Tryd.func86, Tryd.ntmps86
    go_wp2_with (first | ((with_reducible refine gate_dst (N := 4) rfl ?_); refine FR.out.boxE (N := 4) #[.int .i64 0, .int .i64 0, .int .i64 0, .int .i64 0, .string ⟨#[]⟩, .int .i64 0, .slice none 0 0] 51 (by rfl) (by rfl) ?hr ?_; (case hr => first | (go_simp; done) | (go_simp; rfl)); intro b4 AW1 f_; replace FR := Aside0.mk f_; replace C := f_.c1; clear f_; have clv : AW1.cell? ⟨5, 0, none⟩ = some (.slice lA 5 lc) := FR.out.ps.gp.now.levels) | (go_at_call 92; (with_reducible refine (FR.out.ec (G.unary _ _ _ _ FR.out.ps HX.out)).mono ?_); rintro e AW2 ⟨A1, c1, okx, rfl, f_⟩; replace FR := Aside0.mk f_; replace C := f_.c1; clear f_) | ((with_reducible refine gate_store (t := 51) (p := 4) (v := .tmp 14) rfl ?_); refine FR.out.s1 [.int .i64 x.kind, .int .i64 x.pos.line, .int .i64 x.pos.col, .int .i64 x.num, .string x.name, .int .i64 x.op, .slice A1 x.kids.length c1] (by rfl) (by rfl) ?hr (by rfl) ?_; (case hr => first | (go_simp; done) | (go_simp; rfl)); intro AW3 f_; replace FR := Aside0.mk f_; replace C := f_.c1; clear f_))
    refine bodyPost_ret (results_cell_row rfl _ _ b4 _ _ (0, 0) _ rfl FR.out.b1 Tryd.underlying51 rfl (by kernel_rfl)) rfl ?_
    exact FR.out.epost rfl FR.out.v1
  · rw [if_neg h5] at hx
    have kl : ((l : Int) == 5) = false := beq_eq_false_iff_ne.2 (by omega)
    have hl5 : l < 5 := by omega
    have hl5i : (l : Int) < 5 := by omega
    obtain ⟨⟨x1, s1⟩, h1, h2⟩ := Option.bind_eq_some_iff.1 hx
    have HX := Lib.hid h1
    have GE : ∀ (s : Go.Proofs.YtgenlgfbjlclbaaDoor.PS) (x : Expr) (s' : Go.Proofs.YtgenlgfbjlclbaaDoor.PS) (w : World), PSt ⟨wA, wc, mA, mc, lA, lc⟩ g s w → (ps n).expr (l + 1) s = some (x, s') → Calls Tryd.prog 86 #[.pointer (some ⟨g, 0, none⟩), .int .i64 ((l : Int) + 1)] w (EPost ⟨wA, wc, mA, mc, lA, lc⟩ g w x s') := fun s x s' w h hx => G.expr (l + 1) s x s' w h (by omega) hx
    have hn1 : ∃ n1, n = n1 + 1 := by
      cases n with
      | zero => cases h1
      | succ n => exact ⟨n, rfl⟩
    obtain ⟨n1, hn1⟩ := hn1
    have HR0 := Aside0.mk (show psRest (ps n1) l x1 s1 = some (x, s') by rw [hn1] at h2; exact h2)
    have HN1 := Lib.hid hn1
    clear hx h h1 h2 h5 hn1 hl
    go_enter Tryd.func86, Tryd.ntmps86
    go_wp2_with (first | ((with_reducible refine gate_dst (N := 4) rfl ?_); refine FR.out.boxE (N := 4) #[.int .i64 0, .int .i64 0, .int .i64 0, .int .i64 0, .string ⟨#[]⟩, .int .i64 0, .slice none 0 0] 51 (by rfl) (by rfl) ?hr ?_; (case hr => first | (go_simp; done) | (go_simp; rfl)); intro b4 BW1 f_; replace FR := Aside0.mk f_; replace C := f_.c1; clear f_; have clv : BW1.cell? ⟨5, 0, none⟩ = some (.slice lA 5 lc) := FR.out.ps.gp.now.levels) | (go_at_call 86; (with_reducible refine (FR.out.ec (GE _ _ _ _ FR.out.ps HX.out)).mono ?_); rintro e BW2 ⟨A1, c1, okx, rfl, f_⟩; replace FR := Aside0.mk f_; replace C := f_.c1; clear f_; clear clv) | ((with_reducible refine gate_dst (N := 5) rfl ?_); refine FR.out.varE (W1 := ?_) (N := 5) #[.int .i64 x1.kind, .int .i64 x1.pos.line, .int .i64 x1.pos.col, .int .i64 x1.num, .string x1.name, .int .i64 x1.op, .slice A1 x1.kids.length c1] 51 (by rfl) (by rfl) (by rfl) (by rfl) ?hr ?hs ?_; (case hr => first | (go_simp; done) | (go_simp; rfl)); (case hs => first | (go_simp; done) | (go_simp; rfl)); intro b5 BW3 f_; replace FR := Aside0.mk f_; replace C := f_.c2; clear f_))
    clear GE HX
    simp only [Act.put, List.setIfInBounds_toArray, List.set_cons_zero, List.set_cons_succ]
    go_loopg [6] n1 (fun kq v6 w' => ∃ (m : Nat) (x1 : Expr) (A1 : Option Addr) (c1 : Nat) (st : Go.Proofs.YtgenlgfbjlclbaaDoor.PS) (ok : Nat → Prop), kq = m ∧ m ≤ n1 ∧ Aside0 (psRest (ps m) l x1 st = some (x, s')) ∧ Aside0 (Fr ⟨wA, wc, mA, mc, lA, lc⟩ g w st [⟨b5, #[.int .i64 x1.kind, .int .i64 x1.pos.line, .int .i64 x1.pos.col, .int .i64 x1.num, .string x1.name, .int .i64 x1.op, .slice A1 x1.kids.length c1], 51⟩, ⟨b4, #[.int .i64 0, .int .i64 0, .int .i64 0, .int .i64 0, .string ⟨#[]⟩, .int .i64 0, .slice none 0 0], 51⟩] [⟨ok, fun W => kExpr.K W x1 [.int .i64 x1.kind, .int .i64 x1.pos.line, .int .i64 x1.pos.col, .int .i64 x1.num, .string x1.name, .int .i64 x1.op, .slice A1 x1.kids.length c1]⟩] w'))
    case atStart => exact ⟨n1, x1, A1, c1, s1, okx, rfl, Nat.le_refl _, HR0, FR⟩
    case round =>
      clear HR0 FR C
      obtain ⟨m, x1, A1, c1, st, ok, hm, hmn, HR, FR⟩ := hrel
      have C := FR.out.c2
      have hx := HR.out
      unfold psRest at hx
      cases hb : st.bad with
      | true =>
        rw [if_pos hb] at hx
        obtain ⟨rfl, rfl⟩ := Prod.mk.inj (Option.some.inj hx)
        have HB_ := Lib.hid hb
        clear hx hb HR
        go_wp2_with (first | (go_at_call 21; (with_reducible refine (FR.out.bc (bad_calls FR.out.ps)).mono ?_); rintro e CW1 ⟨rfl, f_⟩; rw [HB_.out]; replace FR := Aside0.mk f_; replace C := f_.c2; clear f_) | ((with_reducible refine gate_store (t := 51) (p := 4) (v := .tmp 44) rfl ?_); refine FR.out.s2 [.int .i64 x1.kind, .int .i64 x1.pos.line, .int .i64 x1.pos.col, .int .i64 x1.num, .string x1.name, .int .i64 x1.op, .slice A1 x1.kids.length c1] (by rfl) (by rfl) ?hr (by rfl) ?_; (case hr => first | (go_simp; done) | (go_simp; rfl)); intro CW2 f_; replace FR := Aside0.mk f_; replace C := f_.c2; clear f_))
        refine bodyPost_ret (results_cell_row rfl _ _ b4 _ _ (0, 0) _ rfl FR.out.b2 Tryd.underlying51 rfl (by kernel_rfl)) rfl ?_
        exact FR.out.epost rfl FR.out.v1
      | false =>
        rw [if_neg (by rw [hb]; decide)] at hx
        have HB_ := Lib.hid hb
        obtain ⟨M, hM⟩ : ∃ M, M = st.mark (levelsL.getD l []) := ⟨_, rfl⟩
        obtain ⟨MK, hMK⟩ : ∃ MK, MK = bsOf M := ⟨_, rfl⟩
        have HMK := Lib.hid (show bsOf (st.mark (levelsL.getD l [])) = MK by rw [hMK, hM])
        simp only [] at hx
        rw [← hM] at hx
        have hmt : MK.toList = M := by rw [hMK, Lib.toList_data]; rfl
        by_cases hm0 : M = []
        · rw [if_pos hm0] at hx
          obtain ⟨rfl, rfl⟩ := Prod.mk.inj (Option.some.inj hx)
          have kM : (MK.toList == []) = true := by rw [hmt, hm0]; rfl
          clear hx hb HR hmt hm0 hM hMK
          go_wp2_with (first | (go_at_call 21; (with_reducible refine (FR.out.bc (bad_calls FR.out.ps)).mono ?_); rintro e DW1 ⟨rfl, f_⟩; rw [HB_.out]; replace FR := Aside0.mk f_; replace C := f_.c2; clear f_; obtain ⟨ad, A, nn, cc, hA_, hc_, hF_⟩ := levels_at FR.out.ps l (by omega); obtain rfl : lA = some ad := hA_; have HMF := Aside0.mk hF_; have clv : DW1.cell? ⟨5, 0, none⟩ = some (.slice (some ad) 5 lc) := FR.out.ps.gp.now.levels; have cel := hc_; clear hF_ hc_) | (go_at_call 93; (with_reducible refine (FR.out.bc (mark_calls A nn cc (levelsL.getD l []) FR.out.ps HMF.out)).mono ?_); rintro e DW2 ⟨rfl, f_⟩; rw [HMK.out]; replace FR := Aside0.mk f_; replace C := f_.c2; clear f_) | ((with_reducible refine gate_store (t := 51) (p := 4) (v := .tmp 44) rfl ?_); refine FR.out.s2 [.int .i64 x1.kind, .int .i64 x1.pos.line, .int .i64 x1.pos.col, .int .i64 x1.num, .string x1.name, .int .i64 x1.op, .slice A1 x1.kids.length c1] (by rfl) (by rfl) ?hr (by rfl) ?_; (case hr => first | (go_simp; done) | (go_simp; rfl)); intro DW3 f_; replace FR := Aside0.mk f_; replace C := f_.c2; clear f_))
          refine bodyPost_ret (results_cell_row rfl _ _ b4 _ _ (0, 0) _ rfl FR.out.b2 Tryd.underlying51 rfl (by kernel_rfl)) rfl ?_
          exact FR.out.epost rfl FR.out.v1
        · rw [if_neg hm0] at hx
          have kM : (MK.toList == []) = false := by rw [hmt]; exact beq_eq_false_iff_ne.2 hm0
          obtain ⟨⟨y1, s2⟩, h1, h2⟩ := Option.bind_eq_some_iff.1 hx
          obtain ⟨t, ht⟩ : ∃ t, t = st.now := ⟨_, rfl⟩
          have HN := Lib.hid ht
          have hf3 := fld3
          have HX := Lib.hid h1
          have G := IH m (by have := HN1.out; omega)
          have GE : ∀ (s : Go.Proofs.YtgenlgfbjlclbaaDoor.PS) (x : Expr) (s' : Go.Proofs.YtgenlgfbjlclbaaDoor.PS) (w : World), PSt ⟨wA, wc, mA, mc, lA, lc⟩ g s w → (ps m).expr (l + 1) s = some (x, s') → Calls Tryd.prog 86 #[.pointer (some ⟨g, 0, none⟩), .int .i64 ((l : Int) + 1)] w (EPost ⟨wA, wc, mA, mc, lA, lc⟩ g w x s') := fun s x s' w h hx => G.expr (l + 1) s x s' w h (by omega) hx
          have hMb : MK.data.toList = M := by rw [hMK]; rfl
          have HMB := Lib.hid hMb
          by_cases hl2 : l = 2
          · have k2 : ((l : Int) == 2) = true := beq_iff_eq.2 (by omega)
            replace h2 : some (bothL M st.now.pos x1 y1, s2) = some (x, s') := by rw [← h2]; exact (if_pos hl2).symm
            obtain ⟨hxe, hse⟩ := Prod.mk.inj (Option.some.inj h2)
            have HXE := Lib.hid (show x = bothL MK.data.toList t.pos x1 y1 by rw [hMb, ht, hxe])
            have HSE := Lib.hid hse
            clear hx hb HR hmt hm0 hM hMK h1 h2 ht hMb hl2 hxe hse
            go_wp2_with (first | (go_at_call 21; (with_reducible refine (FR.out.bc (bad_calls FR.out.ps)).mono ?_); rintro e EW1 ⟨rfl, f_⟩; rw [HB_.out]; replace FR := Aside0.mk f_; replace C := f_.c2; clear f_; obtain ⟨ad, A, nn, cc, hA_, hc_, hF_⟩ := levels_at FR.out.ps l (by omega); obtain rfl : lA = some ad := hA_; have HMF := Aside0.mk hF_; have clv : EW1.cell? ⟨5, 0, none⟩ = some (.slice (some ad) 5 lc) := FR.out.ps.gp.now.levels; have cel := hc_; clear hF_ hc_) | (go_at_call 93; (with_reducible refine (FR.out.bc (mark_calls A nn cc (levelsL.getD l []) FR.out.ps HMF.out)).mono ?_); rintro e EW2 ⟨rfl, f_⟩; rw [HMK.out]; replace FR := Aside0.mk f_; replace C := f_.c2; clear f_) | (go_at_call 44; (with_reducible refine (FR.out.cc (skip_calls FR.out.ps)).mono ?_); rintro e EW3 ⟨rfl, f_⟩; rw [← HN.out]; replace FR := Aside0.mk f_; replace C := f_.c2; clear f_) | ((with_reducible refine gate_dst (N := 7) rfl ?_); refine FR.out.varE (W1 := ?_) (N := 7) #[.int .i64 t.pos.line, .int .i64 t.pos.col] 32 (by rfl) (by rfl) (by rfl) (by rfl) ?hr ?hs ?_; (case hr => first | (go_simp; done) | (go_simp; rfl)); (case hs => first | (go_simp; done) | (go_simp; rfl)); intro b7 EW4 f_; replace FR := Aside0.mk f_; replace C := f_.c3; clear f_) | (go_at_call 86; (with_reducible refine (FR.out.ec (GE _ _ _ _ FR.out.ps HX.out)).mono ?_); rintro e EW5 ⟨A6, c6, oky, rfl, f_⟩; replace FR := Aside0.mk f_; replace C := f_.c3; clear f_) | ((with_reducible refine gate_dst (N := 8) rfl ?_); refine FR.out.varE (W1 := ?_) (N := 8) #[.int .i64 y1.kind, .int .i64 y1.pos.line, .int .i64 y1.pos.col, .int .i64 y1.num, .string y1.name, .int .i64 y1.op, .slice A6 y1.kids.length c6] 51 (by rfl) (by rfl) (by rfl) (by rfl) ?hr ?hs ?_; (case hr => first | (go_simp; done) | (go_simp; rfl)); (case hs => first | (go_simp; done) | (go_simp; rfl)); intro b8 EW6 f_; replace FR := Aside0.mk f_; replace C := f_.c4; clear f_) | (go_at_call 94; (refine (FR.out.both MK t.pos x1 y1 A1 A6 c1 c6).mono ?_); rintro e EW7 ⟨A9, c9, okz, rfl, f_⟩; replace FR := Aside0.mk f_; replace C := f_.c4; clear f_) | ((with_reducible refine gate_store (t := 51) (p := 5) (v := .tmp 41) rfl ?_); refine FR.out.s3 [.int .i64 (bothL MK.data.toList t.pos x1 y1).kind, .int .i64 (bothL MK.data.toList t.pos x1 y1).pos.line, .int .i64 (bothL MK.data.toList t.pos x1 y1).pos.col, .int .i64 (bothL MK.data.toList t.pos x1 y1).num, .string (bothL MK.data.toList t.pos x1 y1).name, .int .i64 (bothL MK.data.toList t.pos x1 y1).op, .slice A9 (bothL MK.data.toList t.pos x1 y1).kids.length c9] (by rfl) (by rfl) ?hr (by rfl) ?_; (case hr => first | (go_simp; done) | (go_simp; rfl)); intro EW8 f_; replace FR := Aside0.mk f_; replace C := f_.c4; clear f_) | ((with_reducible refine gate_store (t := 51) (p := 4) (v := .tmp 44) rfl ?_); refine FR.out.s4 [.int .i64 (bothL MK.data.toList t.pos x1 y1).kind, .int .i64 (bothL MK.data.toList t.pos x1 y1).pos.line, .int .i64 (bothL MK.data.toList t.pos x1 y1).pos.col, .int .i64 (bothL MK.data.toList t.pos x1 y1).num, .string (bothL MK.data.toList t.pos x1 y1).name, .int .i64 (bothL MK.data.toList t.pos x1 y1).op, .slice A9 (bothL MK.data.toList t.pos x1 y1).kids.length c9] (by rfl) (by rfl) ?hr (by rfl) ?_; (case hr => first | (go_simp; done) | (go_simp; rfl)); intro EW9 f_; replace FR := Aside0.mk f_; replace C := f_.c4; clear f_))
            refine bodyPost_ret (results_cell_row rfl _ _ b4 _ _ (0, 0) _ rfl FR.out.b4 Tryd.underlying51 rfl (by kernel_rfl)) rfl ?_
            rw [HXE.out, ← HSE.out]
            exact FR.out.epost rfl FR.out.v1
          · have k2 : ((l : Int) == 2) = false := beq_eq_false_iff_ne.2 (by omega)
            replace h2 : (ps m).rest l (bothL M st.now.pos x1 y1) s2 = some (x, s') := by rw [← h2]; exact (if_neg hl2).symm
            cases gk with
            | zero =>
              subst hm
              cases h1
            | succ k1_ =>
              subst hm
              have HR2 := Aside0.mk (show psRest (ps k1_) l (bothL MK.data.toList t.pos x1 y1) s2 = some (x, s') by rw [hMb, ht]; exact h2)
              clear hx hb HR hmt hm0 hM hMK h1 h2 ht hMb hl2
              go_wp2_with (first | (go_at_call 21; (with_reducible refine (FR.out.bc (bad_calls FR.out.ps)).mono ?_); rintro e FW1 ⟨rfl, f_⟩; rw [HB_.out]; replace FR := Aside0.mk f_; replace C := f_.c2; clear f_; obtain ⟨ad, A, nn, cc, hA_, hc_, hF_⟩ := levels_at FR.out.ps l (by omega); obtain rfl : lA = some ad := hA_; have HMF := Aside0.mk hF_; have clv : FW1.cell? ⟨5, 0, none⟩ = some (.slice (some ad) 5 lc) := FR.out.ps.gp.now.levels; have cel := hc_; clear hF_ hc_) | (go_at_call 93; (with_reducible refine (FR.out.bc (mark_calls A nn cc (levelsL.getD l []) FR.out.ps HMF.out)).mono ?_); rintro e FW2 ⟨rfl, f_⟩; rw [HMK.out]; replace FR := Aside0.mk f_; replace C := f_.c2; clear f_) | (go_at_call 44; (with_reducible refine (FR.out.cc (skip_calls FR.out.ps)).mono ?_); rintro e FW3 ⟨rfl, f_⟩; rw [← HN.out]; replace FR := Aside0.mk f_; replace C := f_.c2; clear f_) | ((with_reducible refine gate_dst (N := 7) rfl ?_); refine FR.out.varE (W1 := ?_) (N := 7) #[.int .i64 t.pos.line, .int .i64 t.pos.col] 32 (by rfl) (by rfl) (by rfl) (by rfl) ?hr ?hs ?_; (case hr => first | (go_simp; done) | (go_simp; rfl)); (case hs => first | (go_simp; done) | (go_simp; rfl)); intro b7 FW4 f_; replace FR := Aside0.mk f_; replace C := f_.c3; clear f_) | (go_at_call 86; (with_reducible refine (FR.out.ec (GE _ _ _ _ FR.out.ps HX.out)).mono ?_); rintro e FW5 ⟨A6, c6, oky, rfl, f_⟩; replace FR := Aside0.mk f_; replace C := f_.c3; clear f_) | ((with_reducible refine gate_dst (N := 8) rfl ?_); refine FR.out.varE (W1 := ?_) (N := 8) #[.int .i64 y1.kind, .int .i64 y1.pos.line, .int .i64 y1.pos.col, .int .i64 y1.num, .string y1.name, .int .i64 y1.op, .slice A6 y1.kids.length c6] 51 (by rfl) (by rfl) (by rfl) (by rfl) ?hr ?hs ?_; (case hr => first | (go_simp; done) | (go_simp; rfl)); (case hs => first | (go_simp; done) | (go_simp; rfl)); intro b8 FW6 f_; replace FR := Aside0.mk f_; replace C := f_.c4; clear f_) | (go_at_call 94; (refine (FR.out.both MK t.pos x1 y1 A1 A6 c1 c6).mono ?_); rintro e FW7 ⟨A9, c9, okz, rfl, f_⟩; replace FR := Aside0.mk f_; replace C := f_.c4; clear f_) | ((with_reducible refine gate_store (t := 51) (p := 5) (v := .tmp 41) rfl ?_); refine FR.out.s3 [.int .i64 (bothL MK.data.toList t.pos x1 y1).kind, .int .i64 (bothL MK.data.toList t.pos x1 y1).pos.line, .int .i64 (bothL MK.data.toList t.pos x1 y1).pos.col, .int .i64 (bothL MK.data.toList t.pos x1 y1).num, .string (bothL MK.data.toList t.pos x1 y1).name, .int .i64 (bothL MK.data.toList t.pos x1 y1).op, .slice A9 (bothL MK.data.toList t.pos x1 y1).kids.length c9] (by rfl) (by rfl) ?hr (by rfl) ?_; (case hr => first | (go_simp; done) | (go_simp; rfl)); intro FW8 f_; replace FR := Aside0.mk f_; replace C := f_.c4; clear f_))
              go_roundg k1_
              case measure => omega
              case rel => exact ⟨k1_, bothL MK.data.toList t.pos x1 y1, A9, c9, s2, okz, rfl, by omega, HR2, ⟨FR.out.drop1.drop1⟩⟩
end Go.Proofs.YtgenlgfbjlclbaaDoor
