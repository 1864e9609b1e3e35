/- primary: a call; and primary in one. -/
import Derived.Test.YtgenlgfbjlclbaaDoorPsF
namespace Go.Proofs.YtgenlgfbjlclbaaDoor
open Go.RowKit Go.Proofs.YtgenlgfbjlclbaaDoorW.PrintWords Go.Proofs.YtgenlgfbjlclbaaDoorW.PrintLast Go.Proofs.YtgenlgfbjlclbaaDoorW.PrintMore
set_option linter.unusedVariables false
set_option linter.unusedSimpArgs false

set_option maxRecDepth 100000 in
set_option maxHeartbeats 6400000 in
theorem prim_call {a : GA} {g : Nat} {p : Ps} (G : Good a g p) (q : Pos) (s : PS) (x : Expr) (s' : PS) (w : World) (h : PSt a g s w) (hx : psPrimary p q s = some (x, s')) (hk : ¬ s.now.kind = 2) (h1 : (s.take [116, 114, 117, 101]).1 = false) (h2 : (s.take [102, 97, 108, 115, 101]).1 = false) (h3 : (s.take [40]).1 = false) (h4 : (s.name.2.take [91]).1 = false) (h5 : (s.name.2.take [40]).1 = true) :
    Calls Tryd.prog 96 #[.pointer (some ⟨g, 0, none⟩), .agg #[.int .i64 q.line, .int .i64 q.col]] w (EPost a g w x s') := by
  have FR := Aside0.mk (Fr.start h)
  have C := FR.out.c0
  have HWN := Lib.hid (now_wf h)
  obtain ⟨t, ht⟩ : ∃ t, t = s.now := ⟨_, rfl⟩
  have HN := Lib.hid ht
  unfold psPrimary at hx
  rw [← ht] at hx
  have hk2 : ¬ t.kind = 2 := by rw [ht]; exact hk
  have kk : (t.kind == 2) = false := beq_eq_false_iff_ne.2 hk2
  rw [if_neg hk2] at hx
  rw [if_neg (by rw [h1]; decide), if_neg (by rw [h2]; decide), if_neg (by rw [h3]; decide)] at hx
  replace hx : (if (s.name.2.take [91]).1 = true then (p.whole s.name.2.skip).bind fun r => some ((⟨4, q, 0, s.name.1, 0, [r.1]⟩ : Expr), r.2.want [93]) else if (s.name.2.take [40]).1 = true then (p.args [] s.name.2.skip).bind fun r => some (⟨5, q, 0, s.name.1, 0, r.1⟩, r.2) else some (⟨3, q, 0, s.name.1, 0, []⟩, s.name.2)) = some (x, s') := hx
  rw [if_neg (by rw [h4]; decide), if_pos h5] at hx
  obtain ⟨⟨xs1, s1⟩, h6, h7⟩ := Option.bind_eq_some_iff.1 hx
  obtain ⟨rfl, rfl⟩ := Prod.mk.inj (Option.some.inj h7)
  have HT1 := Lib.hid h1
  have HT2 := Lib.hid h2
  have HT3 := Lib.hid h3
  have HT4 := Lib.hid h4
  have HT5 := Lib.hid h5
  have HX := Lib.hid h6
  clear hx hk hk2 ht h h1 h2 h3 h4 h5 h6 h7
  go_enter Tryd.func96, Tryd.ntmps96
  go_wp2_with (first | ((with_reducible refine gate_dst (N := 3) rfl ?_); refine FR.out.boxE (N := 3) #[.int .i64 q.line, .int .i64 q.col] 32 (by rfl) (by rfl) ?hr ?_; (case hr => first | (go_simp; done) | (go_simp; rfl)); intro b3 FW1 f_; replace FR := Aside0.mk f_; replace C := f_.c1; clear f_) | ((with_reducible refine gate_dst (N := 4) rfl ?_); refine FR.out.boxE (N := 4) #[.int .i64 0, .int .i64 0, .int .i64 0, .int .i64 0, .string ⟨#[]⟩, .int .i64 0, .slice none 0 0] 51 (by rfl) (by rfl) ?hr ?_; (case hr => first | (go_simp; done) | (go_simp; rfl)); intro b4 FW2 f_; replace FR := Aside0.mk f_; replace C := f_.c2; clear f_) | (go_at_call 22; (with_reducible refine (FR.out.bc (now_calls FR.out.ps)).mono ?_); rintro e FW3 ⟨rfl, f_⟩; rw [← HN.out]; replace FR := Aside0.mk f_; replace C := f_.c2; clear f_) | ((with_reducible refine gate_dst (N := 5) rfl ?_); refine FR.out.varE (W1 := ?_) (N := 5) #[.int .i64 t.kind, .string t.text, .int .i64 t.num, .int .i64 t.pos.line, .int .i64 t.pos.col] 71 (by rfl) (by rfl) (by rfl) (by rfl) ?hr ?hs ?_; (case hr => first | (go_simp; done) | (go_simp; rfl)); (case hs => first | (go_simp; done) | (go_simp; rfl)); intro b5 FW4 f_; replace FR := Aside0.mk f_; replace C := f_.c3; clear f_) | (go_at_call 23; (with_reducible refine (FR.out.cc (take_no ⟨#[116, 114, 117, 101]⟩ [116, 114, 117, 101] rfl FR.out.ps HT1.out)).mono ?_); rintro e FW5 ⟨rfl, f_⟩; replace FR := Aside0.mk f_; replace C := f_.c3; clear f_) | (go_at_call 23; (with_reducible refine (FR.out.cc (take_no ⟨#[102, 97, 108, 115, 101]⟩ [102, 97, 108, 115, 101] rfl FR.out.ps HT2.out)).mono ?_); rintro e FW6 ⟨rfl, f_⟩; replace FR := Aside0.mk f_; replace C := f_.c3; clear f_) | (go_at_call 23; (with_reducible refine (FR.out.cc (take_no ⟨#[40]⟩ [40] rfl FR.out.ps HT3.out)).mono ?_); rintro e FW7 ⟨rfl, f_⟩; replace FR := Aside0.mk f_; replace C := f_.c3; clear f_) | (go_at_call 45; (with_reducible refine (FR.out.cc (name_calls FR.out.ps)).mono ?_); rintro e FW8 ⟨rfl, f_⟩; replace FR := Aside0.mk f_; replace C := f_.c3; clear f_) | (go_at_call 23; (with_reducible refine (FR.out.cc (take_no ⟨#[91]⟩ [91] rfl FR.out.ps HT4.out)).mono ?_); rintro e FW9 ⟨rfl, f_⟩; replace FR := Aside0.mk f_; replace C := f_.c3; clear f_) | (go_at_call 23; (with_reducible refine (FR.out.cc (take_yes ⟨#[40]⟩ [40] rfl FR.out.ps HT5.out)).mono ?_); rintro e FW10 ⟨rfl, f_⟩; replace FR := Aside0.mk f_; replace C := f_.c3; clear f_))
  have FRd := Aside0.mk (FR.out.below (below_drew (Below.refl FW10.heap.size FW10)))
  refine start_ (n := 6) (S := fun w' => ∀ i, w'.cell? ⟨b3, i, none⟩ = (#[.int .i64 q.line, .int .i64 q.col] : Array Value)[i]?) (ds := [5]) #[false, false, false, false, false, false] (by kernel_rfl) rfl rfl (blk_cell FRd.out.b3) (fun hHeld => ?_)
  refine pure_ (i := 1) (N := some 57) (v := ?_) (a' := ?_) #[false, true, false, false, false, false] rfl rfl (by kernel_rfl) (fun _ _ _ h => h) (Or.inl ⟨by rfl, ?_⟩) ?_ ?_
  rotate_left
  · intro w'
    go_simp
    with_reducible rfl
  rotate_left
  · simp only [Act.put, List.setIfInBounds_toArray, List.set_cons_zero, List.set_cons_succ, i64_w, i32_w]
    rfl
  refine pure_ (i := 2) (N := some 58) (v := ?_) (a' := ?_) #[false, true, true, false, false, false] rfl rfl (by kernel_rfl) (fun _ _ _ h => h) (Or.inl ⟨by rfl, ?_⟩) ?_ ?_
  rotate_left
  · intro w'
    go_simp
    with_reducible rfl
  rotate_left
  · simp only [Act.put, List.setIfInBounds_toArray, List.set_cons_zero, List.set_cons_succ, i64_w, i32_w]
    rfl
  refine take_ (i := 0) (N := some 56) (v := ?_) (a' := ?_) #[true, true, true, false, false, false] rfl rfl (by kernel_rfl) (fun _ _ _ h => h) (Or.inl ⟨by rfl, ?_⟩) hHeld ?_ ?_
  rotate_left
  · intro w' s0
    go_simp
    with_reducible rfl
  rotate_left
  · simp only [Act.put, List.setIfInBounds_toArray, List.set_cons_zero, List.set_cons_succ, i64_w, i32_w]
    rfl
  refine one_ (i := 3) (N := some 59) #[true, true, true, true, false, false] rfl rfl (by kernel_rfl) (by decide) (fun K hK => ?_)
  refine goes_ Tryd.func98 (by kernel_rfl) rfl #[.pointer (some ⟨g, 0, none⟩)] (by rfl) rfl rfl (by simp only [List.map_toArray, List.map_cons, List.map_nil]; rfl) ?_
  with_reducible refine (FRd.out.ac (G.args _ _ _ _ FRd.out.ps HX.out)).mono ?_
  rintro e w3 ⟨Aa, ca, oka, rfl, f3⟩
  refine ⟨_, rfl, ?_⟩
  have C3 := f3.c3
  refine hK.out _ _ (blk_cell f3.b3) (fun hHeld => ?_)
  clear hK K
  refine norm_ (a' := ?_) ?_ ?_
  rotate_left
  · show Act.put _ (some 59) _ = _
    simp only [Act.put, List.setIfInBounds_toArray, List.set_cons_zero, List.set_cons_succ, i64_w, i32_w]
    rfl
  refine pure_ (i := 4) (N := some 60) (v := ?_) (a' := ?_) #[true, true, true, true, true, false] rfl rfl (by kernel_rfl) (fun _ _ _ h => h) (Or.inl ⟨by rfl, ?_⟩) ?_ ?_
  rotate_left
  · intro w'
    go_simp
    with_reducible rfl
  rotate_left
  · simp only [Act.put, List.setIfInBounds_toArray, List.set_cons_zero, List.set_cons_succ, i64_w, i32_w]
    rfl
  refine last_ (i := 5) (N := none) #[true, true, true, true, true, true] rfl rfl (by kernel_rfl) (by decide) (fun K hK => ?_)
  refine skip_ (w1 := ?_) (by rfl) rfl ?_ ?_
  rotate_left
  · go_simp
    rfl
  refine hK.out _ _ ?_
  clear hK K
  refine done_ (by kernel_rfl) ?_
  obtain ⟨W9, hW9⟩ : ∃ W, W = (((((((w3.setCell ⟨b4, 0, none⟩ (.int .i64 5)).setCell ⟨b4, 1, none⟩ (.int .i64 q.line)).setCell ⟨b4, 2, none⟩ (.int .i64 q.col)).setCell ⟨b4, 3, none⟩ (.int .i64 0)).setCell ⟨b4, 4, none⟩ (.string s.name.1)).setCell ⟨b4, 5, none⟩ (.int .i64 0)).setCell ⟨b4, 6, none⟩ (.slice Aa xs1.length ca)) := ⟨_, rfl⟩
  rw [← hW9]
  replace hW9 : W9 = setAll b4 0 [.int .i64 5, .int .i64 q.line, .int .i64 q.col, .int .i64 0, .string s.name.1, .int .i64 0, .slice Aa xs1.length ca] w3 := hW9
  have FR := Aside0.mk (Fr.setsAt (b := b4) [_] _ f3 (by rfl) hW9)
  clear hW9 hHeld f3 C3
  go_wp2
  refine bodyPost_ret (results_cell_row rfl _ _ b4 _ _ (0, 0) _ rfl FR.out.b2 Tryd.underlying51 rfl (by kernel_rfl)) rfl ?_
  exact FR.out.epost (x := ⟨5, q, 0, s.name.1, 0, xs1⟩) rfl (Foot.imp FR.out.v1 fun W h => kExpr_mk W ⟨5, q, 0, s.name.1, 0, xs1⟩ wf_zero h.1 h.2)

theorem prim_step {a : GA} {g : Nat} {p : Ps} (G : Good a g p) (q : Pos) (s : PS) (x : Expr) (s' : PS) (w : World) (h : PSt a g s w) (hx : psPrimary p q s = some (x, s')) :
    Calls Tryd.prog 96 #[.pointer (some ⟨g, 0, none⟩), .agg #[.int .i64 q.line, .int .i64 q.col]] w (EPost a g w x s') := by
  by_cases hk : s.now.kind = 2
  · exact prim_num G q s x s' w h hx hk
  cases h1 : (s.take [116, 114, 117, 101]).1 with
  | true => exact prim_true G q s x s' w h hx hk h1
  | false =>
  cases h2 : (s.take [102, 97, 108, 115, 101]).1 with
  | true => exact prim_false G q s x s' w h hx hk h1 h2
  | false =>
  cases h3 : (s.take [40]).1 with
  | true => exact prim_paren G q s x s' w h hx hk h1 h2 h3
  | false =>
  cases h4 : (s.name.2.take [91]).1 with
  | true => exact prim_index G q s x s' w h hx hk h1 h2 h3 h4
  | false =>
  cases h5 : (s.name.2.take [40]).1 with
  | true => exact prim_call G q s x s' w h hx hk h1 h2 h3 h4 h5
  | false => exact prim_var G q s x s' w h hx hk h1 h2 h3 h4 h5
end Go.Proofs.YtgenlgfbjlclbaaDoor
