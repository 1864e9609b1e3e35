/- function: a function behind its word. -/
import Derived.Test.YtgenlgfbjlclbaaDoorPsM
namespace Go.Proofs.YtgenlgfbjlclbaaDoor
open Go.RowKit Go.Proofs.YtgenlgfbjlclbaaDoorW.PrintWords Go.Proofs.YtgenlgfbjlclbaaDoorW.PrintLast Go.Proofs.YtgenlgfbjlclbaaDoorW.PrintMore
set_option linter.unusedVariables false
set_option linter.unusedSimpArgs false

/-- A function is handed back. -/
def FPost (a : GA) (g : Nat) (w : World) (x : Fun) (s : PS) (e : Ending) (w' : World) : Prop :=
  ∃ A1 c1 A2 c2, e = .returned (.agg #[.string x.name, .slice A1 x.params.length c1, .slice A2 x.body.length c2, .int .i64 x.pos.line, .int .i64 x.pos.col]) ∧ Kd.FK kFun w' (fun k => w.heap.size ≤ k) x [.string x.name, .slice A1 x.params.length c1, .slice A2 x.body.length c2, .int .i64 x.pos.line, .int .i64 x.pos.col] ∧ Chg g w w' ∧ PSt a g s w'

set_option maxRecDepth 100000 in
set_option maxHeartbeats 12800000 in
theorem function_calls {a : GA} {g : Nat} (n : Nat) (hn : n ≤ 1000000) (s : PS) (w : World) (h : PSt a g s w) (x : Fun) (s' : PS) (hx : functionF n s = some (x, s')) :
    Calls Tryd.prog 25 #[.pointer (some ⟨g, 0, none⟩)] w (FPost a g w x s') := by
  have FR := Aside0.mk (Fr.start h)
  have C := FR.out.c0
  have G : Good a g (ps n) := good_all n hn n (Nat.le_refl _)
  have hf3 := fld3
  unfold functionF at hx
  obtain ⟨⟨pr, s1⟩, h1, hx⟩ := Option.bind_eq_some_iff.1 hx
  obtain ⟨⟨xs1, s2⟩, h2, hx⟩ := Option.bind_eq_some_iff.1 hx
  obtain ⟨rfl, rfl⟩ := Prod.mk.inj (Option.some.inj hx)
  obtain ⟨t, ht⟩ : ∃ t, t = s.now := ⟨_, rfl⟩
  have HN := Lib.hid ht
  simp only []
  rw [← ht]
  have HX0 := Aside0.mk h1
  have HB := Lib.hid h2
  clear hx h h1 h2 ht
  go_enter Tryd.func25, Tryd.ntmps25
  go_wp2_with (first | ((with_reducible refine gate_dst (N := 2) rfl ?_); refine FR.out.boxE (N := 2) #[.string ⟨#[]⟩, .slice none 0 0, .slice none 0 0, .int .i64 0, .int .i64 0] 41 (by rfl) (by rfl) ?hr ?_; (case hr => first | (go_simp; done) | (go_simp; rfl)); intro b2 AW1 f_; replace FR := Aside0.mk f_; replace C := f_.c1; clear f_) | (go_at_call 22; (with_reducible refine (FR.out.bc (now_calls FR.out.ps)).mono ?_); rintro e AW2 ⟨rfl, f_⟩; rw [← HN.out]; replace FR := Aside0.mk f_; replace C := f_.c1; clear f_) | (go_at_call 45; (with_reducible refine (FR.out.cc (name_calls FR.out.ps)).mono ?_); rintro e AW3 ⟨rfl, f_⟩; replace FR := Aside0.mk f_; replace C := f_.c1; clear f_) | ((with_reducible refine gate_dst (N := 3) rfl ?_); refine FR.out.varE (W1 := ?_) (N := 3) #[.string s.name.1, .slice none 0 0, .slice none 0 0, .int .i64 t.pos.line, .int .i64 t.pos.col] 41 (by rfl) (by rfl) (by rfl) (by rfl) ?hr ?hs ?_; (case hr => first | (go_simp; done) | (go_simp; rfl)); (case hs => first | (go_simp; done) | (go_simp; rfl)); intro b3 AW4 f_; replace FR := Aside0.mk f_; replace C := f_.c2; clear f_) | (go_at_call 46; (with_reducible refine (FR.out.cc (want_calls ⟨#[40]⟩ [40] rfl FR.out.ps)).mono ?_); rintro e AW5 ⟨rfl, f_⟩; replace FR := Aside0.mk f_; replace C := f_.c2; clear f_))
  replace FR := Aside0.mk (FR.out.rowNil Kd.string 9)
  go_loopg [12] n (fun kq v12 w' => ∃ (m : Nat) (out : List ByteArray) (st : Go.Proofs.YtgenlgfbjlclbaaDoor.PS) (A : Option Addr) (c : Nat) (ok : Nat → Prop), kq = m ∧ m ≤ n ∧ out.length + m = n ∧ Aside0 (paramsF m out st = some (pr, s1)) ∧ Aside0 (Fr a g w st [⟨b3, #[.string s.name.1, .slice A out.length c, .slice none 0 0, .int .i64 t.pos.line, .int .i64 t.pos.col], 41⟩, ⟨b2, #[.string ⟨#[]⟩, .slice none 0 0, .slice none 0 0, .int .i64 0, .int .i64 0], 41⟩] [⟨ok, fun W => Kd.N Kd.string 9 W w.heap.size ok (.slice A out.length c) out⟩] w'))
  case atStart => exact ⟨n, [], _, none, 0, _, rfl, Nat.le_refl _, by simp, HX0, FR⟩
  case round =>
    clear FR C HX0
    obtain ⟨m, out, st, A, c, ok, hm, hmn, hol, HX, FR⟩ := hrel
    have C := FR.out.c2
    cases gk with
    | zero =>
      subst hm
      cases HX.out
    | succ k1_ =>
    subst hm
    have hmx : out.length ≤ 1000000 := by omega
    have hx : (if (st.bad || st.isM [41]) = true then some (out, st.want [41]) else paramsF k1_ (out ++ [(if out = [] then st else st.want [44]).name.1]) (if out = [] then st else st.want [44]).name.2) = some (pr, s1) := HX.out
    by_cases hex : (st.bad || st.isM [41]) = true
    · rw [if_pos hex] at hx
      obtain ⟨rfl, rfl⟩ := Prod.mk.inj (Option.some.inj hx)
      replace FR := Aside0.mk FR.out.rowRead
      cases hb : st.bad with
      | true =>
        have HB_ := Lib.hid hb
        clear hx hex hb HX
        go_wp2_with (first | (go_at_call 21; (with_reducible refine (FR.out.bc (bad_calls FR.out.ps)).mono ?_); rintro e BW1 ⟨rfl, f_⟩; rw [HB_.out]; replace FR := Aside0.mk f_; replace C := f_.c2; clear f_) | (go_at_call 46; (with_reducible refine (FR.out.cc (want_calls ⟨#[41]⟩ [41] rfl FR.out.ps)).mono ?_); rintro e BW2 ⟨rfl, f_⟩; replace FR := Aside0.mk f_; replace C := f_.c2; clear f_) | (go_at_call 47; (with_reducible refine (FR.out.blc (G.block _ _ _ _ FR.out.ps HB.out)).mono ?_); rintro e BW3 ⟨A5, c5, okk, rfl, f_⟩; replace FR := Aside0.mk f_; replace C := f_.c2; clear f_) | ((with_reducible refine gate_store (t := 39) (p := 37) (v := .tmp 36) rfl ?_); refine FR.out.p1 (W1 := ?_) #[.string s.name.1, .slice A out.length c, .slice A5 xs1.length c5, .int .i64 t.pos.line, .int .i64 t.pos.col] (by rfl) (by rfl) ?hr ?hk ?hb ?_; (case hr => first | (go_simp; done) | (go_simp; rfl)); (case hk => exact (Chg.refl _ _).set _ _); (case hb => exact fun h => blk_put h 2 _ rfl); intro BW4 f_; replace FR := Aside0.mk f_; replace C := f_.c2; clear f_) | ((with_reducible refine gate_store (t := 41) (p := 2) (v := .tmp 38) rfl ?_); refine FR.out.s2 [.string s.name.1, .slice A out.length c, .slice A5 xs1.length c5, .int .i64 t.pos.line, .int .i64 t.pos.col] (by rfl) (by rfl) ?hr (by rfl) ?_; (case hr => first | (go_simp; done) | (go_simp; rfl)); intro BW5 f_; replace FR := Aside0.mk f_; replace C := f_.c2; clear f_))
        refine bodyPost_ret (results_cell_row rfl _ _ b2 _ _ (0, 0) _ rfl FR.out.b2 Tryd.underlying41 rfl (by kernel_rfl)) rfl ?_
        exact ⟨A, c, A5, c5, rfl, foot_two FR.out.v2 FR.out.v1 fun W h k => kFun_mk W ⟨s.name.1, out, xs1, t.pos⟩ h.1 h.2 k.1 k.2, FR.out.ch, FR.out.ps⟩
      | false =>
        have HB_ := Lib.hid hb
        have HI_ := Lib.hid (show st.isM [41] = true by rw [hb, Bool.false_or] at hex; exact hex)
        clear hx hex hb HX
        go_wp2_with (first | (go_at_call 21; (with_reducible refine (FR.out.bc (bad_calls FR.out.ps)).mono ?_); rintro e CW1 ⟨rfl, f_⟩; rw [HB_.out]; replace FR := Aside0.mk f_; replace C := f_.c2; clear f_) | (go_at_call 43; (with_reducible refine (FR.out.bc (is_calls ⟨#[41]⟩ FR.out.ps)).mono ?_); rintro e CW2 ⟨rfl, f_⟩; rw [HI_.out]; replace FR := Aside0.mk f_; replace C := f_.c2; clear f_) | (go_at_call 46; (with_reducible refine (FR.out.cc (want_calls ⟨#[41]⟩ [41] rfl FR.out.ps)).mono ?_); rintro e CW3 ⟨rfl, f_⟩; replace FR := Aside0.mk f_; replace C := f_.c2; clear f_) | (go_at_call 47; (with_reducible refine (FR.out.blc (G.block _ _ _ _ FR.out.ps HB.out)).mono ?_); rintro e CW4 ⟨A5, c5, okk, rfl, f_⟩; replace FR := Aside0.mk f_; replace C := f_.c2; clear f_) | ((with_reducible refine gate_store (t := 39) (p := 37) (v := .tmp 36) rfl ?_); refine FR.out.p1 (W1 := ?_) #[.string s.name.1, .slice A out.length c, .slice A5 xs1.length c5, .int .i64 t.pos.line, .int .i64 t.pos.col] (by rfl) (by rfl) ?hr ?hk ?hb ?_; (case hr => first | (go_simp; done) | (go_simp; rfl)); (case hk => exact (Chg.refl _ _).set _ _); (case hb => exact fun h => blk_put h 2 _ rfl); intro CW5 f_; replace FR := Aside0.mk f_; replace C := f_.c2; clear f_) | ((with_reducible refine gate_store (t := 41) (p := 2) (v := .tmp 38) rfl ?_); refine FR.out.s2 [.string s.name.1, .slice A out.length c, .slice A5 xs1.length c5, .int .i64 t.pos.line, .int .i64 t.pos.col] (by rfl) (by rfl) ?hr (by rfl) ?_; (case hr => first | (go_simp; done) | (go_simp; rfl)); intro CW6 f_; replace FR := Aside0.mk f_; replace C := f_.c2; clear f_))
        refine bodyPost_ret (results_cell_row rfl _ _ b2 _ _ (0, 0) _ rfl FR.out.b2 Tryd.underlying41 rfl (by kernel_rfl)) rfl ?_
        exact ⟨A, c, A5, c5, rfl, foot_two FR.out.v2 FR.out.v1 fun W h k => kFun_mk W ⟨s.name.1, out, xs1, t.pos⟩ h.1 h.2 k.1 k.2, FR.out.ch, FR.out.ps⟩
    · rw [if_neg hex] at hx
      have hbi : st.bad = false ∧ st.isM [41] = false := by
        cases hb : st.bad <;> cases hi : st.isM [41] <;> rw [hb, hi] at hex <;> first | exact ⟨rfl, rfl⟩ | exact absurd rfl hex
      have HB_ := Lib.hid hbi.1
      have HI_ := Lib.hid hbi.2
      by_cases ho : out = []
      · have kl : ¬ 0 < out.length := by rw [ho]; decide
        rw [if_pos ho] at hx
        have HR := Aside0.mk hx
        clear hx hex hbi ho HX
        go_wp2_with (first | (go_at_call 21; (with_reducible refine (FR.out.bc (bad_calls FR.out.ps)).mono ?_); rintro e DW1 ⟨rfl, f_⟩; rw [HB_.out]; replace FR := Aside0.mk f_; replace C := f_.c2; clear f_) | (go_at_call 43; (with_reducible refine (FR.out.bc (is_calls ⟨#[41]⟩ FR.out.ps)).mono ?_); rintro e DW2 ⟨rfl, f_⟩; rw [HI_.out]; replace FR := Aside0.mk f_; replace C := f_.c2; clear f_))
        have FRd := FR.out.below (below_drew (Below.refl DW2.heap.size DW2))
        refine start_ (n := 8) (S := fun w' => (∀ i, w'.cell? ⟨b3, i, none⟩ = (#[.string s.name.1, .slice A out.length c, .slice none 0 0, .int .i64 t.pos.line, .int .i64 t.pos.col] : Array Value)[i]?)) (ds := [7]) #[false, false, false, false, false, false, false, false] (by kernel_rfl) rfl rfl (blk_cell FRd.b1) (fun hHeld => ?_)
        refine pure_ (i := 0) (N := some 26) (v := ?_) (a' := ?_) #[true, false, false, false, false, false, false, false] rfl rfl (by kernel_rfl) (fun _ _ _ h => h) (Or.inl ⟨by rfl, ?_⟩) ?_ ?_
        rotate_left
        · intro w'
          go_simp
          with_reducible rfl
        rotate_left
        · simp only [Act.put, List.setIfInBounds_toArray, List.set_cons_zero, List.set_cons_succ, i64_w, i32_w]
          rfl
        refine pure_ (i := 2) (N := some 28) (v := ?_) (a' := ?_) #[true, false, true, false, false, false, false, false] rfl rfl (by kernel_rfl) (fun _ _ _ h => h) (Or.inl ⟨by rfl, ?_⟩) ?_ ?_
        rotate_left
        · intro w'
          go_simp
          with_reducible rfl
        rotate_left
        · simp only [Act.put, List.setIfInBounds_toArray, List.set_cons_zero, List.set_cons_succ, i64_w, i32_w]
          rfl
        refine take_ (i := 1) (N := some 27) (v := ?_) (a' := ?_) #[true, true, true, false, false, false, false, false] rfl rfl (by kernel_rfl) (fun _ _ _ h => h) (Or.inl ⟨by rfl, ?_⟩) hHeld ?_ ?_
        rotate_left
        · intro w' s0
          go_simp
          with_reducible rfl
        rotate_left
        · simp only [Act.put, List.setIfInBounds_toArray, List.set_cons_zero, List.set_cons_succ, i64_w, i32_w]
          rfl
        refine one_ (i := 3) (N := some 29) #[true, true, true, true, false, false, false, false] rfl rfl (by kernel_rfl) (by decide) (fun K hK => ?_)
        refine goes_ Tryd.func45 (by kernel_rfl) rfl #[.pointer (some ⟨g, 0, none⟩)] (by rfl) rfl rfl (by simp only [List.map_toArray, List.map_cons, List.map_nil]; rfl) ?_
        with_reducible refine (FRd.cc (name_calls FRd.ps)).mono ?_
        rintro e w3 ⟨rfl, f_u⟩
        refine ⟨_, rfl, ?_⟩
        refine hK.out _ _ (blk_cell f_u.b1) (fun hHeld => ?_)
        clear hK K
        refine norm_ (a' := ?_) ?_ ?_
        rotate_left
        · show Act.put _ (some 29) _ = _
          simp only [Act.put, List.setIfInBounds_toArray, List.set_cons_zero, List.set_cons_succ, i64_w, i32_w]
          rfl
        refine one_ (i := 4) (N := some 30) #[true, true, true, true, true, false, false, false] rfl rfl (by kernel_rfl) (by decide) (fun K hK => ?_)
        refine value_ (w1 := ?_) (v := ?_) (by rfl) rfl ?_ ?_
        rotate_left 2
        · go_simp
          constructor
          · rfl
          · rfl
        refine hK.out _ _ (blk_cell (f_u.below (below_alloc (Below.refl _ _) _)).b1) (fun hHeld => ?_)
        clear hK K
        refine norm_ (a' := ?_) ?_ ?_
        rotate_left
        · show Act.put _ (some 30) _ = _
          simp only [Act.put, List.setIfInBounds_toArray, List.set_cons_zero, List.set_cons_succ, i64_w, i32_w]
          rfl
        refine one_ (i := 5) (N := some 31) #[true, true, true, true, true, true, false, false] rfl rfl (by kernel_rfl) (by decide) (fun K hK => ?_)
        refine Fr.appS Kd.string f_u (by rfl) (.tmp 27) (.tmp 30) 38 (.string ⟨#[]⟩) 16 (by rfl) Tryd.underlying38 infoStr (by rfl) (by decide) (by decide) (okp := fun _ => False) st.name.1 [.string st.name.1] (by rfl) (by rfl) (fun _ _ => rfl) (fun _ h => h.elim) (fun _ h => nomatch h) (by omega) ?_
        intro v1 w5 ok5 f5 hok5
        obtain ⟨A1, c1, hv1⟩ := Kd.N_slice f5.n1
        subst hv1
        have C5 := f5.c2
        refine hK.out _ _ (blk_cell f5.b1) (fun hHeld => ?_)
        clear hK K
        refine norm_ (a' := ?_) ?_ ?_
        rotate_left
        · show Act.put _ (some 31) _ = _
          simp only [Act.put, List.setIfInBounds_toArray, List.set_cons_zero, List.set_cons_succ, i64_w, i32_w]
          rfl
        refine pure_ (i := 6) (N := some 32) (v := ?_) (a' := ?_) #[true, true, true, true, true, true, true, false] rfl rfl (by kernel_rfl) (fun _ _ _ h => h) (Or.inl ⟨by rfl, ?_⟩) ?_ ?_
        rotate_left
        · intro w'
          go_simp
          with_reducible rfl
        rotate_left
        · simp only [Act.put, List.setIfInBounds_toArray, List.set_cons_zero, List.set_cons_succ, i64_w, i32_w]
          rfl
        refine last_ (i := 7) (N := none) #[true, true, true, true, true, true, true, true] rfl rfl (by kernel_rfl) (by decide) (fun K hK => ?_)
        refine skip_ (w1 := ?_) (by rfl) rfl ?_ ?_
        rotate_left
        · go_simp
          rfl
        refine hK.out _ _ ?_
        clear hK K
        refine done_ (by kernel_rfl) ?_
        obtain ⟨W9, hW9⟩ : ∃ W, W = w5.setCell ⟨b3, 1, none⟩ (.slice A1 (out.length + 1) c1) := ⟨_, rfl⟩
        rw [← hW9]
        rw [show out.length + 1 = (out ++ [st.name.1]).length by simp] at hW9
        have FR9 := Aside0.mk (Fr.putAt [] (cs' := #[.string s.name.1, .slice A1 (out ++ [st.name.1]).length c1, .slice none 0 0, .int .i64 t.pos.line, .int .i64 t.pos.col]) f5 (w' := W9) (by rw [hW9]; exact (Chg.refl b3 w5).set 1 _) (by rw [hW9]; exact blk_put f5.b1 1 _ rfl))
        clear hW9 hHeld f5 FR C C5
        go_wp2
        go_roundg k1_
        case measure => omega
        case rel => exact ⟨k1_, out ++ [st.name.1], st.name.2, A1, c1, ok5, rfl, by omega, by simp; omega, HR, FR9⟩
      · have kl : 0 < out.length := List.length_pos_iff.2 ho
        rw [if_neg ho] at hx
        have HR := Aside0.mk hx
        clear hx hex hbi ho HX
        go_wp2_with (first | (go_at_call 21; (with_reducible refine (FR.out.bc (bad_calls FR.out.ps)).mono ?_); rintro e EW1 ⟨rfl, f_⟩; rw [HB_.out]; replace FR := Aside0.mk f_; replace C := f_.c2; clear f_) | (go_at_call 43; (with_reducible refine (FR.out.bc (is_calls ⟨#[41]⟩ FR.out.ps)).mono ?_); rintro e EW2 ⟨rfl, f_⟩; rw [HI_.out]; replace FR := Aside0.mk f_; replace C := f_.c2; clear f_) | (go_at_call 46; (with_reducible refine (FR.out.cc (want_calls ⟨#[44]⟩ [44] rfl FR.out.ps)).mono ?_); rintro e EW3 ⟨rfl, f_⟩; replace FR := Aside0.mk f_; replace C := f_.c2; clear f_))
        have FRd := FR.out.below (below_drew (Below.refl EW3.heap.size EW3))
        refine start_ (n := 8) (S := fun w' => (∀ i, w'.cell? ⟨b3, i, none⟩ = (#[.string s.name.1, .slice A out.length c, .slice none 0 0, .int .i64 t.pos.line, .int .i64 t.pos.col] : Array Value)[i]?)) (ds := [7]) #[false, false, false, false, false, false, false, false] (by kernel_rfl) rfl rfl (blk_cell FRd.b1) (fun hHeld => ?_)
        refine pure_ (i := 0) (N := some 26) (v := ?_) (a' := ?_) #[true, false, false, false, false, false, false, false] rfl rfl (by kernel_rfl) (fun _ _ _ h => h) (Or.inl ⟨by rfl, ?_⟩) ?_ ?_
        rotate_left
        · intro w'
          go_simp
          with_reducible rfl
        rotate_left
        · simp only [Act.put, List.setIfInBounds_toArray, List.set_cons_zero, List.set_cons_succ, i64_w, i32_w]
          rfl
        refine pure_ (i := 2) (N := some 28) (v := ?_) (a' := ?_) #[true, false, true, false, false, false, false, false] rfl rfl (by kernel_rfl) (fun _ _ _ h => h) (Or.inl ⟨by rfl, ?_⟩) ?_ ?_
        rotate_left
        · intro w'
          go_simp
          with_reducible rfl
        rotate_left
        · simp only [Act.put, List.setIfInBounds_toArray, List.set_cons_zero, List.set_cons_succ, i64_w, i32_w]
          rfl
        refine take_ (i := 1) (N := some 27) (v := ?_) (a' := ?_) #[true, true, true, false, false, false, false, false] rfl rfl (by kernel_rfl) (fun _ _ _ h => h) (Or.inl ⟨by rfl, ?_⟩) hHeld ?_ ?_
        rotate_left
        · intro w' s0
          go_simp
          with_reducible rfl
        rotate_left
        · simp only [Act.put, List.setIfInBounds_toArray, List.set_cons_zero, List.set_cons_succ, i64_w, i32_w]
          rfl
        refine one_ (i := 3) (N := some 29) #[true, true, true, true, false, false, false, false] rfl rfl (by kernel_rfl) (by decide) (fun K hK => ?_)
        refine goes_ Tryd.func45 (by kernel_rfl) rfl #[.pointer (some ⟨g, 0, none⟩)] (by rfl) rfl rfl (by simp only [List.map_toArray, List.map_cons, List.map_nil]; rfl) ?_
        with_reducible refine (FRd.cc (name_calls FRd.ps)).mono ?_
        rintro e w3 ⟨rfl, f_u⟩
        refine ⟨_, rfl, ?_⟩
        refine hK.out _ _ (blk_cell f_u.b1) (fun hHeld => ?_)
        clear hK K
        refine norm_ (a' := ?_) ?_ ?_
        rotate_left
        · show Act.put _ (some 29) _ = _
          simp only [Act.put, List.setIfInBounds_toArray, List.set_cons_zero, List.set_cons_succ, i64_w, i32_w]
          rfl
        refine one_ (i := 4) (N := some 30) #[true, true, true, true, true, false, false, false] rfl rfl (by kernel_rfl) (by decide) (fun K hK => ?_)
        refine value_ (w1 := ?_) (v := ?_) (by rfl) rfl ?_ ?_
        rotate_left 2
        · go_simp
          constructor
          · rfl
          · rfl
        refine hK.out _ _ (blk_cell (f_u.below (below_alloc (Below.refl _ _) _)).b1) (fun hHeld => ?_)
        clear hK K
        refine norm_ (a' := ?_) ?_ ?_
        rotate_left
        · show Act.put _ (some 30) _ = _
          simp only [Act.put, List.setIfInBounds_toArray, List.set_cons_zero, List.set_cons_succ, i64_w, i32_w]
          rfl
        refine one_ (i := 5) (N := some 31) #[true, true, true, true, true, true, false, false] rfl rfl (by kernel_rfl) (by decide) (fun K hK => ?_)
        refine Fr.appS Kd.string f_u (by rfl) (.tmp 27) (.tmp 30) 38 (.string ⟨#[]⟩) 16 (by rfl) Tryd.underlying38 infoStr (by rfl) (by decide) (by decide) (okp := fun _ => False) (st.want [44]).name.1 [.string (st.want [44]).name.1] (by rfl) (by rfl) (fun _ _ => rfl) (fun _ h => h.elim) (fun _ h => nomatch h) (by omega) ?_
        intro v1 w5 ok5 f5 hok5
        obtain ⟨A1, c1, hv1⟩ := Kd.N_slice f5.n1
        subst hv1
        have C5 := f5.c2
        refine hK.out _ _ (blk_cell f5.b1) (fun hHeld => ?_)
        clear hK K
        refine norm_ (a' := ?_) ?_ ?_
        rotate_left
        · show Act.put _ (some 31) _ = _
          simp only [Act.put, List.setIfInBounds_toArray, List.set_cons_zero, List.set_cons_succ, i64_w, i32_w]
          rfl
        refine pure_ (i := 6) (N := some 32) (v := ?_) (a' := ?_) #[true, true, true, true, true, true, true, false] rfl rfl (by kernel_rfl) (fun _ _ _ h => h) (Or.inl ⟨by rfl, ?_⟩) ?_ ?_
        rotate_left
        · intro w'
          go_simp
          with_reducible rfl
        rotate_left
        · simp only [Act.put, List.setIfInBounds_toArray, List.set_cons_zero, List.set_cons_succ, i64_w, i32_w]
          rfl
        refine last_ (i := 7) (N := none) #[true, true, true, true, true, true, true, true] rfl rfl (by kernel_rfl) (by decide) (fun K hK => ?_)
        refine skip_ (w1 := ?_) (by rfl) rfl ?_ ?_
        rotate_left
        · go_simp
          rfl
        refine hK.out _ _ ?_
        clear hK K
        refine done_ (by kernel_rfl) ?_
        obtain ⟨W9, hW9⟩ : ∃ W, W = w5.setCell ⟨b3, 1, none⟩ (.slice A1 (out.length + 1) c1) := ⟨_, rfl⟩
        rw [← hW9]
        rw [show out.length + 1 = (out ++ [(st.want [44]).name.1]).length by simp] at hW9
        have FR9 := Aside0.mk (Fr.putAt [] (cs' := #[.string s.name.1, .slice A1 (out ++ [(st.want [44]).name.1]).length c1, .slice none 0 0, .int .i64 t.pos.line, .int .i64 t.pos.col]) f5 (w' := W9) (by rw [hW9]; exact (Chg.refl b3 w5).set 1 _) (by rw [hW9]; exact blk_put f5.b1 1 _ rfl))
        clear hW9 hHeld f5 FR C C5
        go_wp2
        go_roundg k1_
        case measure => omega
        case rel => exact ⟨k1_, out ++ [(st.want [44]).name.1], (st.want [44]).name.2, A1, c1, ok5, rfl, by omega, by simp; omega, HR, FR9⟩
end Go.Proofs.YtgenlgfbjlclbaaDoor
