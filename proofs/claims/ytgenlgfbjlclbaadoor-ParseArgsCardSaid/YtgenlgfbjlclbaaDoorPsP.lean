/- Program: the program of a text, or its first error. -/
import Derived.Test.YtgenlgfbjlclbaaDoorPsO
namespace Go.Proofs.YtgenlgfbjlclbaaDoor
open Go.RowKit Go.Proofs.YtgenlgfbjlclbaaDoorW.PrintWords Go.Proofs.YtgenlgfbjlclbaaDoorW.PrintLast Go.Proofs.YtgenlgfbjlclbaaDoorW.PrintMore
set_option linter.unusedVariables false
set_option linter.unusedSimpArgs false

set_option maxRecDepth 100000 in
set_option maxHeartbeats 12800000 in
theorem program_err {ga : GA} {N : Nat} (s : ByteArray) (w : World) (hG : GP ga N w) (f : Fault) (hl : lexL s.data.toList = .error f) :
    Calls Tryd.prog 10 #[.string s] w fun e w' => ∃ A0 c0 A1 c1, e = .returned (.tuple #[.agg #[.slice A0 0 c0, .slice A1 0 c1], .agg #[.int .i64 f.e, .int .i64 f.pos.line, .int .i64 f.pos.col]]) ∧ Kd.FK kProg w' (fun k => w.heap.size ≤ k) ⟨[], []⟩ [.slice A0 0 c0, .slice A1 0 c1] ∧ Below w.heap.size w w' := by
  have FR := Aside0.mk (Fq.start (w := w) (fun k => w.heap.size ≤ k) (fun _ h => h))
  have C := FR.out.c0
  have HL := Lib.hid hl
  have kf : (f.e == 0) = false := beq_eq_false_iff_ne.2 (err_ne hG hl)
  have kf2 : (f.e != 0) = true := by simp only [bne, kf]; rfl
  clear hl
  go_enter Tryd.func10, Tryd.ntmps10
  go_wp2_with (first | ((with_reducible refine gate_dst (N := 2) rfl ?_); refine FR.out.boxE (N := 2) #[.slice none 0 0, .slice none 0 0] 30 (by rfl) (by rfl) ?hr ?_; (case hr => first | (go_simp; done) | (go_simp; rfl)); intro b2 AW1 f_; replace FR := Aside0.mk f_; replace C := f_.c1; clear f_) | ((with_reducible refine gate_dst (N := 3) rfl ?_); refine FR.out.boxE (N := 3) #[.int .i64 0, .int .i64 0, .int .i64 0] 34 (by rfl) (by rfl) ?hr ?_; (case hr => first | (go_simp; done) | (go_simp; rfl)); intro b3 AW2 f_; replace FR := Aside0.mk f_; replace C := f_.c2; clear f_) | (go_at_call 20; (with_reducible refine (FR.out.bc (all_err ga N s _ (hG.below FR.out.bl) f HL.out)).mono ?_); rintro e AW3 ⟨rfl, f_⟩; replace FR := Aside0.mk f_; replace C := f_.c2; clear f_) | ((with_reducible refine gate_dst (N := 5) rfl ?_); refine FR.out.boxE (N := 5) #[.int .i64 0, .int .i64 0, .int .i64 0] 34 (by rfl) (by rfl) ?hr ?_; (case hr => first | (go_simp; done) | (go_simp; rfl)); intro b5 AW4 f_; replace FR := Aside0.mk f_; replace C := f_.c3; clear f_) | ((with_reducible refine gate_store (t := 34) (p := 5) (v := .tmp 12) rfl ?_); refine FR.out.s1 [.int .i64 f.e, .int .i64 f.pos.line, .int .i64 f.pos.col] (by rfl) (by rfl) ?hr (by rfl) ?_; (case hr => first | (go_simp; done) | (go_simp; rfl)); intro AW5 f_; replace FR := Aside0.mk f_; replace C := f_.c3; clear f_))
  have FRd := FR.out.below (below_drew (Below.refl _ _))
  refine start_ (n := 4) (S := fun w' => (∀ i, w'.cell? ⟨b5, i, none⟩ = (#[.int .i64 f.e, .int .i64 f.pos.line, .int .i64 f.pos.col] : Array Value)[i]?)) (ds := [3]) #[false, false, false, false] (by kernel_rfl) rfl rfl (blk_cell FRd.b1) (fun hHeld => ?_)
  refine pure_ (i := 0) (N := some 16) (v := ?_) (a' := ?_) #[true, false, false, false] rfl rfl (by kernel_rfl) (fun _ _ _ h => h) (Or.inl ⟨by rfl, ?_⟩) ?_ ?_
  rotate_left
  · intro w'
    go_simp
    with_reducible rfl
  rotate_left
  · simp only [Act.put, List.setIfInBounds_toArray, List.set_cons_zero, List.set_cons_succ, i64_w, i32_w]
    rfl
  refine take_ (i := 1) (N := some 17) (v := ?_) (a' := ?_) #[true, true, false, false] rfl rfl (by kernel_rfl) (fun _ _ _ h => h) (Or.inl ⟨by rfl, ?_⟩) hHeld ?_ ?_
  rotate_left
  · intro w' s0
    go_simp
    with_reducible rfl
  rotate_left
  · simp only [Act.put, List.setIfInBounds_toArray, List.set_cons_zero, List.set_cons_succ, i64_w, i32_w]
    rfl
  refine one_ (i := 2) (N := none) #[true, true, true, false] rfl rfl (by kernel_rfl) (by decide) (fun K hK => ?_)
  have C_ := FRd.c3
  refine skip_ (w1 := ?_) (by rfl) rfl ?_ ?_
  rotate_left
  · go_simp
    rfl
  obtain ⟨w4, hw_⟩ : ∃ W, W = (((AW5.setCell ⟨b2, 0, none⟩ (.slice none 0 0)).setCell ⟨b2, 1, none⟩ (.slice none 0 0)).drew) := ⟨_, rfl⟩
  rw [← hw_]
  have f4 := Fq.setsAt (b := b2) [_, _] [.slice none 0 0, .slice none 0 0] FRd (by rfl) (w' := w4) hw_
  clear hw_ C_
  refine hK.out _ _ (blk_cell f4.b1) (fun hHeld => ?_)
  clear hK K
  refine last_ (i := 3) (N := none) #[true, true, true, true] rfl rfl (by kernel_rfl) (by decide) (fun K hK => ?_)
  have C_ := f4.c3
  refine skip_ (w1 := ?_) (by rfl) rfl ?_ ?_
  rotate_left
  · go_simp
    rfl
  refine hK.out _ _ ?_
  clear hK K
  refine done_ (by kernel_rfl) ?_
  obtain ⟨W9, hW9⟩ : ∃ W, W = ((w4.setCell ⟨b3, 0, none⟩ (.int .i64 f.e)).setCell ⟨b3, 1, none⟩ (.int .i64 f.pos.line)).setCell ⟨b3, 2, none⟩ (.int .i64 f.pos.col) := ⟨_, rfl⟩
  rw [← hW9]
  have FR9 := Fq.setsAt (b := b3) [_] [.int .i64 f.e, .int .i64 f.pos.line, .int .i64 f.pos.col] f4 (by rfl) (w' := W9) hW9
  clear hW9 hHeld
  go_wp2
  refine bodyPost_ret (results_cc rfl _ _ b2 b3 _ _ _ _ (0, 0) (0, 0) _ _ rfl rfl FR9.b3 FR9.b2 Tryd.underlying30 rfl (by kernel_rfl) Tryd.underlying34 rfl (by kernel_rfl)) rfl ?_
  exact ⟨none, 0, none, 0, rfl, foot_all fun W => kProg_mk W ⟨[], []⟩ (Nat.le_refl _) (Kd.C_nil kGlobal W) (Nat.le_refl _) (Kd.C_nil kFun W), FR9.bl⟩

set_option maxRecDepth 100000 in
set_option maxHeartbeats 25600000 in
theorem program_ok {ga : GA} {N : Nat} (n : Nat) (hn : n ≤ 1000000) (s : ByteArray) (w : World) (hG : GP ga N w) (pr : Prog) (fl : Fault) (ts : List Token) (hl : lexL s.data.toList = .ok ts) (pr1 : Prog) (s1 : PS) (hp : progF n ⟨[], []⟩ ⟨ts, 0, zFault⟩ = some (pr1, s1)) (hr : (if s1.bad then some ((⟨[], []⟩ : Prog), s1.f) else some (pr1, zFault)) = some (pr, fl)) :
    Calls Tryd.prog 10 #[.string s] w fun e w' => ∃ A0 c0 A1 c1, e = .returned (.tuple #[.agg #[.slice A0 pr.globals.length c0, .slice A1 pr.funcs.length c1], .agg #[.int .i64 fl.e, .int .i64 fl.pos.line, .int .i64 fl.pos.col]]) ∧ Kd.FK kProg w' (fun k => w.heap.size ≤ k) pr [.slice A0 pr.globals.length c0, .slice A1 pr.funcs.length c1] ∧ Below w.heap.size w w' := by
  have FR := Aside0.mk (Fq.start (w := w) (fun k => w.heap.size ≤ k) (fun _ h => h))
  have C := FR.out.c0
  have HL := Lib.hid hl
  have HP := Aside0.mk hp
  have HR0 := Lib.hid hr
  have hf0 := fld0
  clear hl hp hr
  go_enter Tryd.func10, Tryd.ntmps10
  go_wp2_with (first | ((with_reducible refine gate_dst (N := 2) rfl ?_); refine FR.out.boxE (N := 2) #[.slice none 0 0, .slice none 0 0] 30 (by rfl) (by rfl) ?hr ?_; (case hr => first | (go_simp; done) | (go_simp; rfl)); intro b2 BW1 f_; replace FR := Aside0.mk f_; replace C := f_.c1; clear f_) | ((with_reducible refine gate_dst (N := 3) rfl ?_); refine FR.out.boxE (N := 3) #[.int .i64 0, .int .i64 0, .int .i64 0] 34 (by rfl) (by rfl) ?hr ?_; (case hr => first | (go_simp; done) | (go_simp; rfl)); intro b3 BW2 f_; replace FR := Aside0.mk f_; replace C := f_.c2; clear f_) | (go_at_call 20; (with_reducible refine (all_ok ga N s _ (hG.below FR.out.bl) ts HL.out).mono ?_); rintro e BW3 ⟨A, c, rfl, hb_, hf_⟩; obtain ⟨okt, f_⟩ := FR.out.more hb_ hf_; replace FR := Aside0.mk f_; replace C := f_.c2; clear f_ hb_ hf_) | ((with_reducible refine gate_dst (N := 5) rfl ?_); refine FR.out.boxE (N := 5) #[.int .i64 0, .int .i64 0, .int .i64 0] 34 (by rfl) (by rfl) ?hr ?_; (case hr => first | (go_simp; done) | (go_simp; rfl)); intro b5 BW4 f_; replace FR := Aside0.mk f_; replace C := f_.c3; clear f_) | ((with_reducible refine gate_store (t := 34) (p := 5) (v := .tmp 12) rfl ?_); refine FR.out.s1 [.int .i64 0, .int .i64 0, .int .i64 0] (by rfl) (by rfl) ?hr (by rfl) ?_; (case hr => first | (go_simp; done) | (go_simp; rfl)); intro BW5 f_; replace FR := Aside0.mk f_; replace C := f_.c3; clear f_) | ((with_reducible refine gate_dst (N := 20) rfl ?_); refine box_event ?hg (N := 20) ?hd (cs := #[.slice A ts.length c, .int .i64 0, .int .i64 0, .int .i64 0, .int .i64 0]) (t := 68) ?hr ?_; (case hd => rfl); (case hg => rfl); (case hr => first | (go_simp; done) | (go_simp; rfl)); intro g hgE_ BW6 hbox_ hb_; have f_ := Fr.start (pst_new (hG.below FR.out.bl) (Nat.le_trans hG.size FR.out.bl.size) FR.out hgE_ hb_ hbox_ (lexL_wt HL.out)); have GQ := Aside0.mk (show w.heap.size ≤ g from hgE_ ▸ FR.out.bl.size); have QN := Aside0.mk (FR.out.own_ne hgE_); have FQ := Aside0.mk (FR.out.below hb_); replace FR := Aside0.mk f_; replace C := f_.c0; clear f_ hgE_ hbox_ hb_) | ((with_reducible refine gate_dst (N := 7) rfl ?_); refine FR.out.boxE (N := 7) #[.slice none 0 0, .slice none 0 0] 30 (by rfl) (by rfl) ?hr ?_; (case hr => first | (go_simp; done) | (go_simp; rfl)); intro b7 BW7 f_; replace FR := Aside0.mk f_; replace C := f_.c1; clear f_))
  replace FR := Aside0.mk ((FR.out.rowNil kFun 41).rowNil kGlobal 75)
  simp only [Act.put, List.setIfInBounds_toArray, List.set_cons_zero, List.set_cons_succ]
  go_loopg [24] n (fun kq v24 w' => ∃ (m : Nat) (out : Prog) (st : Go.Proofs.YtgenlgfbjlclbaaDoor.PS) (A0 : Option Addr) (c0 : Nat) (A1 : Option Addr) (c1 : Nat) (ok1 ok2 : Nat → Prop), kq = m ∧ m ≤ n ∧ out.globals.length + out.funcs.length + m ≤ n ∧ Aside0 (progF m out st = some (pr1, s1)) ∧ Aside0 (Fr ga g BW6 st [⟨b7, #[.slice A0 out.globals.length c0, .slice A1 out.funcs.length c1], 30⟩] [⟨ok1, fun W => Kd.N kGlobal 75 W BW6.heap.size ok1 (.slice A0 out.globals.length c0) out.globals⟩, ⟨ok2, fun W => Kd.N kFun 41 W BW6.heap.size ok2 (.slice A1 out.funcs.length c1) out.funcs⟩] w') ∧ Aside0 (∀ k, ok2 k → ¬ ok1 k))
  case atStart => exact ⟨n, ⟨[], []⟩, _, none, 0, none, 0, _, _, rfl, Nat.le_refl _, by simp, HP, FR, ⟨fun _ h => h.elim⟩⟩
  case round =>
  clear FR C HP
  obtain ⟨m, out, st, A0, c0, A1, c1, ok1, ok2, hm, hmn, hol, HX, FR, HD⟩ := hrel
  have C := FR.out.c1
  cases gk with
  | zero =>
    subst hm
    cases HX.out
  | succ k1_ =>
  subst hm
  have hg1 : out.globals.length ≤ 1000000 := by omega
  have hg2 : out.funcs.length ≤ 1000000 := by omega
  have hx : (if (st.bad || st.now.kind == 0) = true then some (out, st) else if (st.take [118, 97, 114]).1 = true then progF k1_ ⟨out.globals ++ [(globalL 0 st.skip).1], out.funcs⟩ (globalL 0 st.skip).2 else if (st.take [112, 117, 98, 108, 105, 99]).1 = true then progF k1_ ⟨out.globals ++ [(globalL 1 st.skip).1], out.funcs⟩ (globalL 1 st.skip).2 else if (st.take [115, 101, 99, 114, 101, 116]).1 = true then progF k1_ ⟨out.globals ++ [(globalL 2 st.skip).1], out.funcs⟩ (globalL 2 st.skip).2 else if (st.take [102, 117, 110, 99]).1 = true then (functionF k1_ st.skip).bind fun r => progF k1_ ⟨out.globals, out.funcs ++ [r.1]⟩ r.2 else progF k1_ out (st.fail 12)) = some (pr1, s1) := HX.out
  clear HX
  obtain ⟨t, ht⟩ : ∃ t, t = st.now := ⟨_, rfl⟩
  have HN := Lib.hid ht
  rw [← ht] at hx
  cases hb : st.bad with
  | true =>
    have HB_ := Lib.hid hb
    rw [if_pos (by rw [hb]; rfl)] at hx
    obtain ⟨rfl, rfl⟩ := Prod.mk.inj (Option.some.inj hx)
    have hr := HR0.out
    rw [hb, if_pos rfl] at hr
    obtain ⟨rfl, rfl⟩ := Prod.mk.inj (Option.some.inj hr)
    clear hx hb ht hr HD
    go_wp2_with (first | (go_at_call 21; (with_reducible refine (FR.out.bc (bad_calls FR.out.ps)).mono ?_); rintro e CW1 ⟨rfl, f_⟩; rw [HB_.out]; replace FR := Aside0.mk f_; replace C := f_.c1; clear f_))
    obtain ⟨gad, gcc, hgb, _, _⟩ := FR.out.ps.blk
    have Q0 := (FQ.out.after FR.out.ch GQ.out QN.out).addOwn hgb GQ.out QN.out
    have C0 := Q0.c4
    have Qd := Q0.below (below_drew (Below.refl _ _))
    clear FR C hgb
    refine start_ (n := 7) (S := fun w' => (∀ i, w'.cell? ⟨g, i, none⟩ = (#[.slice (some gad) st.ts.length gcc, .int .i64 st.deep, .int .i64 st.f.e, .int .i64 st.f.pos.line, .int .i64 st.f.pos.col] : Array Value)[i]?)) (ds := [6]) #[false, false, false, false, false, false, false] (by kernel_rfl) rfl rfl (blk_cell Qd.b1) (fun hHeld => ?_)
    refine pure_ (i := 0) (N := some 74) (v := ?_) (a' := ?_) #[true, false, false, false, false, false, false] rfl rfl (by kernel_rfl) (fun _ _ _ h => h) (Or.inl ⟨by rfl, ?_⟩) ?_ ?_
    rotate_left
    · intro w'
      go_simp
      with_reducible rfl
    rotate_left
    · simp only [Act.put, List.setIfInBounds_toArray, List.set_cons_zero, List.set_cons_succ, i64_w, i32_w]
      rfl
    refine pure_ (i := 1) (N := some 75) (v := ?_) (a' := ?_) #[true, true, false, false, false, false, false] rfl rfl (by kernel_rfl) (fun _ _ _ h => h) (Or.inl ⟨by rfl, ?_⟩) ?_ ?_
    rotate_left
    · intro w'
      go_simp
      with_reducible rfl
    rotate_left
    · simp only [Act.put, List.setIfInBounds_toArray, List.set_cons_zero, List.set_cons_succ, i64_w, i32_w]
      rfl
    refine pure_ (i := 2) (N := some 76) (v := ?_) (a' := ?_) #[true, true, true, false, false, false, false] rfl rfl (by kernel_rfl) (fun _ _ _ h => h) (Or.inl ⟨by rfl, ?_⟩) ?_ ?_
    rotate_left
    · intro w'
      go_simp
      with_reducible rfl
    rotate_left
    · simp only [Act.put, List.setIfInBounds_toArray, List.set_cons_zero, List.set_cons_succ, i64_w, i32_w]
      rfl
    refine pure_ (i := 3) (N := some 77) (v := ?_) (a' := ?_) #[true, true, true, true, false, false, false] rfl rfl (by kernel_rfl) (fun _ _ _ h => h) (Or.inl ⟨by rfl, ?_⟩) ?_ ?_
    rotate_left
    · intro w'
      go_simp
      with_reducible rfl
    rotate_left
    · simp only [Act.put, List.setIfInBounds_toArray, List.set_cons_zero, List.set_cons_succ, i64_w, i32_w]
      rfl
    refine take_ (i := 4) (N := some 78) (v := ?_) (a' := ?_) #[true, true, true, true, true, false, false] rfl rfl (by kernel_rfl) (fun _ _ _ h => h) (Or.inl ⟨by rfl, ?_⟩) hHeld ?_ ?_
    rotate_left
    · intro w' s0
      go_simp
      with_reducible rfl
    rotate_left
    · simp only [Act.put, List.setIfInBounds_toArray, List.set_cons_zero, List.set_cons_succ, i64_w, i32_w]
      rfl
    refine one_ (i := 5) (N := none) #[true, true, true, true, true, true, false] rfl rfl (by kernel_rfl) (by decide) (fun K hK => ?_)
    have C_ := Qd.c4
    refine skip_ (w1 := ?_) (by rfl) rfl ?_ ?_
    rotate_left
    · go_simp
      rfl
    obtain ⟨w4, hw_⟩ : ∃ W, W = (((CW1.setCell ⟨b2, 0, none⟩ (.slice none 0 0)).setCell ⟨b2, 1, none⟩ (.slice none 0 0)).drew) := ⟨_, rfl⟩
    rw [← hw_]
    have f4 := Fq.setsAt (b := b2) [_, _, _] [.slice none 0 0, .slice none 0 0] Qd (by rfl) (w' := w4) hw_
    clear hw_ C_
    refine hK.out _ _ (blk_cell f4.b1) (fun hHeld => ?_)
    clear hK K
    refine last_ (i := 6) (N := none) #[true, true, true, true, true, true, true] rfl rfl (by kernel_rfl) (by decide) (fun K hK => ?_)
    have C_ := f4.c4
    refine skip_ (w1 := ?_) (by rfl) rfl ?_ ?_
    rotate_left
    · go_simp
      rfl
    refine hK.out _ _ ?_
    clear hK K
    refine done_ (by kernel_rfl) ?_
    obtain ⟨W9, hW9⟩ : ∃ W, W = ((w4.setCell ⟨b3, 0, none⟩ (.int .i64 st.f.e)).setCell ⟨b3, 1, none⟩ (.int .i64 st.f.pos.line)).setCell ⟨b3, 2, none⟩ (.int .i64 st.f.pos.col) := ⟨_, rfl⟩
    rw [← hW9]
    have FR9 := Fq.setsAt (b := b3) [_, _] [.int .i64 st.f.e, .int .i64 st.f.pos.line, .int .i64 st.f.pos.col] f4 (by rfl) (w' := W9) hW9
    clear hW9 hHeld
    go_wp2
    refine bodyPost_ret (results_cc rfl _ _ b2 b3 _ _ _ _ (0, 0) (0, 0) _ _ rfl rfl FR9.b4 FR9.b3 Tryd.underlying30 rfl (by kernel_rfl) Tryd.underlying34 rfl (by kernel_rfl)) rfl ?_
    exact ⟨none, 0, none, 0, rfl, foot_all fun W => kProg_mk W ⟨[], []⟩ (Nat.le_refl _) (Kd.C_nil kGlobal W) (Nat.le_refl _) (Kd.C_nil kFun W), FR9.bl⟩
  | false =>
  have HB_ := Lib.hid hb
  by_cases hk : t.kind = 0
  · rw [if_pos (by rw [hb, Bool.false_or]; exact beq_iff_eq.2 hk)] at hx
    obtain ⟨rfl, rfl⟩ := Prod.mk.inj (Option.some.inj hx)
    have hr := HR0.out
    rw [hb, if_neg (by decide)] at hr
    obtain ⟨rfl, rfl⟩ := Prod.mk.inj (Option.some.inj hr)
    have kk : (t.kind == 0) = true := beq_iff_eq.2 hk
    have kk2 : (t.kind != 0) = false := by simp only [bne, kk]; rfl
    clear hx hb ht hr HD hk
    go_wp2_with (first | (go_at_call 21; (with_reducible refine (FR.out.bc (bad_calls FR.out.ps)).mono ?_); rintro e DW1 ⟨rfl, f_⟩; rw [HB_.out]; replace FR := Aside0.mk f_; replace C := f_.c1; clear f_) | (go_at_call 22; (with_reducible refine (FR.out.bc (now_calls FR.out.ps)).mono ?_); rintro e DW2 ⟨rfl, f_⟩; rw [← HN.out]; replace FR := Aside0.mk f_; replace C := f_.c1; clear f_) | ((with_reducible refine gate_store (t := 30) (p := 2) (v := .tmp 79) rfl ?_); obtain ⟨okq, Q_⟩ := FQ.out.program FR.out.ch GQ.out QN.out (Fr.two_read FR.out); have C2 := Q_.c3; refine Q_.s3 [.slice A0 out.globals.length c0, .slice A1 out.funcs.length c1] (by rfl) (by rfl) ?hr (by rfl) ?_; (case hr => first | (go_simp; done) | (go_simp; rfl)); intro DW3 f_; have FQ2 := Aside0.mk f_; replace C2 := f_.c3; clear f_ Q_ FR C) | ((with_reducible refine gate_store (t := 34) (p := 3) (v := .tmp 80) rfl ?_); refine FQ2.out.s2 [.int .i64 0, .int .i64 0, .int .i64 0] (by rfl) (by rfl) ?hr (by rfl) ?_; (case hr => first | (go_simp; done) | (go_simp; rfl)); intro DW4 f_; replace FQ2 := Aside0.mk f_; replace C2 := f_.c3; clear f_))
    refine bodyPost_ret (results_cc rfl _ _ b2 b3 _ _ _ _ (0, 0) (0, 0) _ _ rfl rfl FQ2.out.b3 FQ2.out.b2 Tryd.underlying30 rfl (by kernel_rfl) Tryd.underlying34 rfl (by kernel_rfl)) rfl ?_
    exact ⟨A0, c0, A1, c1, rfl, Foot.imp FQ2.out.v1 (fun W h => kProg_mk W out h.1.1 h.1.2 h.2.1 h.2.2), FQ2.out.bl⟩
  · have kk : (t.kind == 0) = false := beq_eq_false_iff_ne.2 hk
    have kk2 : (t.kind != 0) = true := by simp only [bne, kk]; rfl
    rw [if_neg (by rw [hb, Bool.false_or, kk]; decide)] at hx
    clear hb ht hk HR0 FQ QN GQ
    cases h1 : (st.take [118, 97, 114]).1 with
    | true =>
      have HT1 := Lib.hid h1
      rw [h1, if_pos rfl] at hx
      have HR := Aside0.mk hx
      clear hx h1
      go_wp2_with (first | (go_at_call 21; (with_reducible refine (FR.out.bc (bad_calls FR.out.ps)).mono ?_); rintro e EW1 ⟨rfl, f_⟩; rw [HB_.out]; replace FR := Aside0.mk f_; replace C := f_.c1; clear f_) | (go_at_call 22; (with_reducible refine (FR.out.bc (now_calls FR.out.ps)).mono ?_); rintro e EW2 ⟨rfl, f_⟩; rw [← HN.out]; replace FR := Aside0.mk f_; replace C := f_.c1; clear f_) | (go_at_call 23; (with_reducible refine (FR.out.cc (take_yes ⟨#[118, 97, 114]⟩ [118, 97, 114] rfl FR.out.ps HT1.out)).mono ?_); rintro e EW3 ⟨rfl, f_⟩; replace FR := Aside0.mk f_; replace C := f_.c1; clear f_))
      have FRd := FR.out.below (below_drew (Below.refl EW3.heap.size EW3))
      refine start_ (n := 8) (S := fun w' => (∀ i, w'.cell? ⟨b7, i, none⟩ = (#[.slice A0 out.globals.length c0, .slice A1 out.funcs.length c1] : Array Value)[i]?)) (ds := [7]) #[false, false, false, false, false, false, false, false] (by kernel_rfl) rfl rfl (blk_cell FRd.b1) (fun hHeld => ?_)
      refine pure_ (i := 0) (N := some 35) (v := ?_) (a' := ?_) #[true, false, false, false, false, false, false, false] rfl rfl (by kernel_rfl) (fun _ _ _ h => h) (Or.inl ⟨by rfl, ?_⟩) ?_ ?_
      rotate_left
      · intro w'
        go_simp
        with_reducible rfl
      rotate_left
      · simp only [Act.put, List.setIfInBounds_toArray, List.set_cons_zero, List.set_cons_succ, i64_w, i32_w]
        rfl
      refine pure_ (i := 2) (N := some 37) (v := ?_) (a' := ?_) #[true, false, true, false, false, false, false, false] rfl rfl (by kernel_rfl) (fun _ _ _ h => h) (Or.inl ⟨by rfl, ?_⟩) ?_ ?_
      rotate_left
      · intro w'
        go_simp
        with_reducible rfl
      rotate_left
      · simp only [Act.put, List.setIfInBounds_toArray, List.set_cons_zero, List.set_cons_succ, i64_w, i32_w]
        rfl
      refine take_ (i := 1) (N := some 36) (v := ?_) (a' := ?_) #[true, true, true, false, false, false, false, false] rfl rfl (by kernel_rfl) (fun _ _ _ h => h) (Or.inl ⟨by rfl, ?_⟩) hHeld ?_ ?_
      rotate_left
      · intro w' s0
        go_simp
        with_reducible rfl
      rotate_left
      · simp only [Act.put, List.setIfInBounds_toArray, List.set_cons_zero, List.set_cons_succ, i64_w, i32_w]
        rfl
      refine one_ (i := 3) (N := some 38) #[true, true, true, true, false, false, false, false] rfl rfl (by kernel_rfl) (by decide) (fun K hK => ?_)
      refine goes_ Tryd.func24 (by kernel_rfl) rfl #[.pointer (some ⟨g, 0, none⟩), .int .i64 0] (by rfl) rfl rfl (by simp only [List.map_toArray, List.map_cons, List.map_nil]; rfl) ?_
      with_reducible refine (FRd.cc (global_calls 0 st.skip _ FRd.ps)).mono ?_
      rintro e w3 ⟨rfl, f_u⟩
      refine ⟨_, rfl, ?_⟩
      refine hK.out _ _ (blk_cell f_u.b1) (fun hHeld => ?_)
      clear hK K
      refine norm_ (a' := ?_) ?_ ?_
      rotate_left
      · show Act.put _ (some 38) _ = _
        simp only [Act.put, List.setIfInBounds_toArray, List.set_cons_zero, List.set_cons_succ, i64_w, i32_w]
        rfl
      refine one_ (i := 4) (N := some 39) #[true, true, true, true, true, false, false, false] rfl rfl (by kernel_rfl) (by decide) (fun K hK => ?_)
      refine value_ (w1 := ?_) (v := ?_) (by rfl) rfl ?_ ?_
      rotate_left 2
      · go_simp
        constructor
        · rfl
        · rfl
      refine hK.out _ _ (blk_cell (f_u.below (below_alloc (Below.refl _ _) _)).b1) (fun hHeld => ?_)
      clear hK K
      refine norm_ (a' := ?_) ?_ ?_
      rotate_left
      · show Act.put _ (some 39) _ = _
        simp only [Act.put, List.setIfInBounds_toArray, List.set_cons_zero, List.set_cons_succ, i64_w, i32_w]
        rfl
      refine one_ (i := 5) (N := some 40) #[true, true, true, true, true, true, false, false] rfl rfl (by kernel_rfl) (by decide) (fun K hK => ?_)
      refine Fr.appS kGlobal f_u (by rfl) (.tmp 36) (.tmp 39) 27 (.agg #[.string ⟨#[]⟩, .int .i64 0, .int .i64 0, .int .i64 0, .int .i64 0]) 48 (by rfl) Tryd.underlying27 infoGlob2 (by rfl) (by decide) (by decide) (okp := fun _ => False) (globalL 0 st.skip).1 [.string (globalL 0 st.skip).1.name, .int .i64 (globalL 0 st.skip).1.hold, .int .i64 (globalL 0 st.skip).1.size, .int .i64 (globalL 0 st.skip).1.pos.line, .int .i64 (globalL 0 st.skip).1.pos.col] (by rfl) (by rfl) (fun W _ => kGlobal_mk W _ (globalL_wf _ _)) (fun _ h => h.elim) (fun u hu k hk => HD.out k (by cases hu with | head => exact hk | tail _ h => cases h)) (by omega) ?_
      intro v1 w5 ok5 f5 hok5
      obtain ⟨B0, d0, hv1⟩ := Kd.N_slice f5.n1
      subst hv1
      have C5 := f5.c1
      refine hK.out _ _ (blk_cell f5.b1) (fun hHeld => ?_)
      clear hK K
      refine norm_ (a' := ?_) ?_ ?_
      rotate_left
      · show Act.put _ (some 40) _ = _
        simp only [Act.put, List.setIfInBounds_toArray, List.set_cons_zero, List.set_cons_succ, i64_w, i32_w]
        rfl
      refine pure_ (i := 6) (N := some 41) (v := ?_) (a' := ?_) #[true, true, true, true, true, true, true, false] rfl rfl (by kernel_rfl) (fun _ _ _ h => h) (Or.inl ⟨by rfl, ?_⟩) ?_ ?_
      rotate_left
      · intro w'
        go_simp
        with_reducible rfl
      rotate_left
      · simp only [Act.put, List.setIfInBounds_toArray, List.set_cons_zero, List.set_cons_succ, i64_w, i32_w]
        rfl
      refine last_ (i := 7) (N := none) #[true, true, true, true, true, true, true, true] rfl rfl (by kernel_rfl) (by decide) (fun K hK => ?_)
      refine skip_ (w1 := ?_) (by rfl) rfl ?_ ?_
      rotate_left
      · go_simp
        rfl
      refine hK.out _ _ ?_
      clear hK K
      refine done_ (by kernel_rfl) ?_
      obtain ⟨W9, hW9⟩ : ∃ W, W = w5.setCell ⟨b7, 0, none⟩ (.slice B0 (out.globals.length + 1) d0) := ⟨_, rfl⟩
      rw [← hW9]
      rw [show out.globals.length + 1 = (out.globals ++ [(globalL 0 st.skip).1]).length by simp] at hW9
      have FR9 := Aside0.mk (Fr.putAt [] (cs' := #[.slice B0 (out.globals ++ [(globalL 0 st.skip).1]).length d0, .slice A1 out.funcs.length c1]) f5 (w' := W9) (by rw [hW9]; exact (Chg.refl b7 w5).set 0 _) (by rw [hW9]; exact blk_put f5.b1 0 _ rfl))
      have HD9 : Aside0 (∀ k, ok2 k → ¬ ok5 k) := ⟨fun k h2 h5 => (hok5 k h5).elim (HD.out k h2) (fun h => h.elim (fun h => h.elim) (fun h => Nat.lt_irrefl _ (Nat.lt_of_lt_of_le ((f_u.val _ (.tail _ (.head _))).2 k h2).2.1 h)))⟩
      clear hW9 hHeld f5 f_u FRd FR C C5 HD hok5
      go_wp2
      go_roundg k1_
      case measure => omega
      case rel => exact ⟨k1_, ⟨(out.globals ++ [(globalL 0 st.skip).1]), out.funcs⟩, (globalL 0 st.skip).2, B0, d0, A1, c1, ok5, ok2, rfl, by omega, by simp; omega, HR, FR9, HD9⟩
    | false =>
    have HT1 := Lib.hid h1
    rw [h1, if_neg (by decide)] at hx
    clear h1
    cases h2 : (st.take [112, 117, 98, 108, 105, 99]).1 with
    | true =>
      have HT2 := Lib.hid h2
      rw [h2, if_pos rfl] at hx
      have HR := Aside0.mk hx
      clear hx h2
      go_wp2_with (first | (go_at_call 21; (with_reducible refine (FR.out.bc (bad_calls FR.out.ps)).mono ?_); rintro e FW1 ⟨rfl, f_⟩; rw [HB_.out]; replace FR := Aside0.mk f_; replace C := f_.c1; clear f_) | (go_at_call 22; (with_reducible refine (FR.out.bc (now_calls FR.out.ps)).mono ?_); rintro e FW2 ⟨rfl, f_⟩; rw [← HN.out]; replace FR := Aside0.mk f_; replace C := f_.c1; clear f_) | (go_at_call 23; (with_reducible refine (FR.out.cc (take_no ⟨#[118, 97, 114]⟩ [118, 97, 114] rfl FR.out.ps HT1.out)).mono ?_); rintro e FW3 ⟨rfl, f_⟩; replace FR := Aside0.mk f_; replace C := f_.c1; clear f_) | (go_at_call 23; (with_reducible refine (FR.out.cc (take_yes ⟨#[112, 117, 98, 108, 105, 99]⟩ [112, 117, 98, 108, 105, 99] rfl FR.out.ps HT2.out)).mono ?_); rintro e FW4 ⟨rfl, f_⟩; replace FR := Aside0.mk f_; replace C := f_.c1; clear f_))
      have FRd := FR.out.below (below_drew (Below.refl FW4.heap.size FW4))
      refine start_ (n := 8) (S := fun w' => (∀ i, w'.cell? ⟨b7, i, none⟩ = (#[.slice A0 out.globals.length c0, .slice A1 out.funcs.length c1] : Array Value)[i]?)) (ds := [7]) #[false, false, false, false, false, false, false, false] (by kernel_rfl) rfl rfl (blk_cell FRd.b1) (fun hHeld => ?_)
      refine pure_ (i := 0) (N := some 45) (v := ?_) (a' := ?_) #[true, false, false, false, false, false, false, false] rfl rfl (by kernel_rfl) (fun _ _ _ h => h) (Or.inl ⟨by rfl, ?_⟩) ?_ ?_
      rotate_left
      · intro w'
        go_simp
        with_reducible rfl
      rotate_left
      · simp only [Act.put, List.setIfInBounds_toArray, List.set_cons_zero, List.set_cons_succ, i64_w, i32_w]
        rfl
      refine pure_ (i := 2) (N := some 47) (v := ?_) (a' := ?_) #[true, false, true, false, false, false, false, false] rfl rfl (by kernel_rfl) (fun _ _ _ h => h) (Or.inl ⟨by rfl, ?_⟩) ?_ ?_
      rotate_left
      · intro w'
        go_simp
        with_reducible rfl
      rotate_left
      · simp only [Act.put, List.setIfInBounds_toArray, List.set_cons_zero, List.set_cons_succ, i64_w, i32_w]
        rfl
      refine take_ (i := 1) (N := some 46) (v := ?_) (a' := ?_) #[true, true, true, false, false, false, false, false] rfl rfl (by kernel_rfl) (fun _ _ _ h => h) (Or.inl ⟨by rfl, ?_⟩) hHeld ?_ ?_
      rotate_left
      · intro w' s0
        go_simp
        with_reducible rfl
      rotate_left
      · simp only [Act.put, List.setIfInBounds_toArray, List.set_cons_zero, List.set_cons_succ, i64_w, i32_w]
        rfl
      refine one_ (i := 3) (N := some 48) #[true, true, true, true, false, false, false, false] rfl rfl (by kernel_rfl) (by decide) (fun K hK => ?_)
      refine goes_ Tryd.func24 (by kernel_rfl) rfl #[.pointer (some ⟨g, 0, none⟩), .int .i64 1] (by rfl) rfl rfl (by simp only [List.map_toArray, List.map_cons, List.map_nil]; rfl) ?_
      with_reducible refine (FRd.cc (global_calls 1 st.skip _ FRd.ps)).mono ?_
      rintro e w3 ⟨rfl, f_u⟩
      refine ⟨_, rfl, ?_⟩
      refine hK.out _ _ (blk_cell f_u.b1) (fun hHeld => ?_)
      clear hK K
      refine norm_ (a' := ?_) ?_ ?_
      rotate_left
      · show Act.put _ (some 48) _ = _
        simp only [Act.put, List.setIfInBounds_toArray, List.set_cons_zero, List.set_cons_succ, i64_w, i32_w]
        rfl
      refine one_ (i := 4) (N := some 49) #[true, true, true, true, true, false, false, false] rfl rfl (by kernel_rfl) (by decide) (fun K hK => ?_)
      refine value_ (w1 := ?_) (v := ?_) (by rfl) rfl ?_ ?_
      rotate_left 2
      · go_simp
        constructor
        · rfl
        · rfl
      refine hK.out _ _ (blk_cell (f_u.below (below_alloc (Below.refl _ _) _)).b1) (fun hHeld => ?_)
      clear hK K
      refine norm_ (a' := ?_) ?_ ?_
      rotate_left
      · show Act.put _ (some 49) _ = _
        simp only [Act.put, List.setIfInBounds_toArray, List.set_cons_zero, List.set_cons_succ, i64_w, i32_w]
        rfl
      refine one_ (i := 5) (N := some 50) #[true, true, true, true, true, true, false, false] rfl rfl (by kernel_rfl) (by decide) (fun K hK => ?_)
      refine Fr.appS kGlobal f_u (by rfl) (.tmp 46) (.tmp 49) 27 (.agg #[.string ⟨#[]⟩, .int .i64 0, .int .i64 0, .int .i64 0, .int .i64 0]) 48 (by rfl) Tryd.underlying27 infoGlob2 (by rfl) (by decide) (by decide) (okp := fun _ => False) (globalL 1 st.skip).1 [.string (globalL 1 st.skip).1.name, .int .i64 (globalL 1 st.skip).1.hold, .int .i64 (globalL 1 st.skip).1.size, .int .i64 (globalL 1 st.skip).1.pos.line, .int .i64 (globalL 1 st.skip).1.pos.col] (by rfl) (by rfl) (fun W _ => kGlobal_mk W _ (globalL_wf _ _)) (fun _ h => h.elim) (fun u hu k hk => HD.out k (by cases hu with | head => exact hk | tail _ h => cases h)) (by omega) ?_
      intro v1 w5 ok5 f5 hok5
      obtain ⟨B0, d0, hv1⟩ := Kd.N_slice f5.n1
      subst hv1
      have C5 := f5.c1
      refine hK.out _ _ (blk_cell f5.b1) (fun hHeld => ?_)
      clear hK K
      refine norm_ (a' := ?_) ?_ ?_
      rotate_left
      · show Act.put _ (some 50) _ = _
        simp only [Act.put, List.setIfInBounds_toArray, List.set_cons_zero, List.set_cons_succ, i64_w, i32_w]
        rfl
      refine pure_ (i := 6) (N := some 51) (v := ?_) (a' := ?_) #[true, true, true, true, true, true, true, false] rfl rfl (by kernel_rfl) (fun _ _ _ h => h) (Or.inl ⟨by rfl, ?_⟩) ?_ ?_
      rotate_left
      · intro w'
        go_simp
        with_reducible rfl
      rotate_left
      · simp only [Act.put, List.setIfInBounds_toArray, List.set_cons_zero, List.set_cons_succ, i64_w, i32_w]
        rfl
      refine last_ (i := 7) (N := none) #[true, true, true, true, true, true, true, true] rfl rfl (by kernel_rfl) (by decide) (fun K hK => ?_)
      refine skip_ (w1 := ?_) (by rfl) rfl ?_ ?_
      rotate_left
      · go_simp
        rfl
      refine hK.out _ _ ?_
      clear hK K
      refine done_ (by kernel_rfl) ?_
      obtain ⟨W9, hW9⟩ : ∃ W, W = w5.setCell ⟨b7, 0, none⟩ (.slice B0 (out.globals.length + 1) d0) := ⟨_, rfl⟩
      rw [← hW9]
      rw [show out.globals.length + 1 = (out.globals ++ [(globalL 1 st.skip).1]).length by simp] at hW9
      have FR9 := Aside0.mk (Fr.putAt [] (cs' := #[.slice B0 (out.globals ++ [(globalL 1 st.skip).1]).length d0, .slice A1 out.funcs.length c1]) f5 (w' := W9) (by rw [hW9]; exact (Chg.refl b7 w5).set 0 _) (by rw [hW9]; exact blk_put f5.b1 0 _ rfl))
      have HD9 : Aside0 (∀ k, ok2 k → ¬ ok5 k) := ⟨fun k h2 h5 => (hok5 k h5).elim (HD.out k h2) (fun h => h.elim (fun h => h.elim) (fun h => Nat.lt_irrefl _ (Nat.lt_of_lt_of_le ((f_u.val _ (.tail _ (.head _))).2 k h2).2.1 h)))⟩
      clear hW9 hHeld f5 f_u FRd FR C C5 HD hok5
      go_wp2
      go_roundg k1_
      case measure => omega
      case rel => exact ⟨k1_, ⟨(out.globals ++ [(globalL 1 st.skip).1]), out.funcs⟩, (globalL 1 st.skip).2, B0, d0, A1, c1, ok5, ok2, rfl, by omega, by simp; omega, HR, FR9, HD9⟩
    | false =>
    have HT2 := Lib.hid h2
    rw [h2, if_neg (by decide)] at hx
    clear h2
    cases h3 : (st.take [115, 101, 99, 114, 101, 116]).1 with
    | true =>
      have HT3 := Lib.hid h3
      rw [h3, if_pos rfl] at hx
      have HR := Aside0.mk hx
      clear hx h3
      go_wp2_with (first | (go_at_call 21; (with_reducible refine (FR.out.bc (bad_calls FR.out.ps)).mono ?_); rintro e GW1 ⟨rfl, f_⟩; rw [HB_.out]; replace FR := Aside0.mk f_; replace C := f_.c1; clear f_) | (go_at_call 22; (with_reducible refine (FR.out.bc (now_calls FR.out.ps)).mono ?_); rintro e GW2 ⟨rfl, f_⟩; rw [← HN.out]; replace FR := Aside0.mk f_; replace C := f_.c1; clear f_) | (go_at_call 23; (with_reducible refine (FR.out.cc (take_no ⟨#[118, 97, 114]⟩ [118, 97, 114] rfl FR.out.ps HT1.out)).mono ?_); rintro e GW3 ⟨rfl, f_⟩; replace FR := Aside0.mk f_; replace C := f_.c1; clear f_) | (go_at_call 23; (with_reducible refine (FR.out.cc (take_no ⟨#[112, 117, 98, 108, 105, 99]⟩ [112, 117, 98, 108, 105, 99] rfl FR.out.ps HT2.out)).mono ?_); rintro e GW4 ⟨rfl, f_⟩; replace FR := Aside0.mk f_; replace C := f_.c1; clear f_) | (go_at_call 23; (with_reducible refine (FR.out.cc (take_yes ⟨#[115, 101, 99, 114, 101, 116]⟩ [115, 101, 99, 114, 101, 116] rfl FR.out.ps HT3.out)).mono ?_); rintro e GW5 ⟨rfl, f_⟩; replace FR := Aside0.mk f_; replace C := f_.c1; clear f_))
      have FRd := FR.out.below (below_drew (Below.refl GW5.heap.size GW5))
      refine start_ (n := 8) (S := fun w' => (∀ i, w'.cell? ⟨b7, i, none⟩ = (#[.slice A0 out.globals.length c0, .slice A1 out.funcs.length c1] : Array Value)[i]?)) (ds := [7]) #[false, false, false, false, false, false, false, false] (by kernel_rfl) rfl rfl (blk_cell FRd.b1) (fun hHeld => ?_)
      refine pure_ (i := 0) (N := some 55) (v := ?_) (a' := ?_) #[true, false, false, false, false, false, false, false] rfl rfl (by kernel_rfl) (fun _ _ _ h => h) (Or.inl ⟨by rfl, ?_⟩) ?_ ?_
      rotate_left
      · intro w'
        go_simp
        with_reducible rfl
      rotate_left
      · simp only [Act.put, List.setIfInBounds_toArray, List.set_cons_zero, List.set_cons_succ, i64_w, i32_w]
        rfl
      refine pure_ (i := 2) (N := some 57) (v := ?_) (a' := ?_) #[true, false, true, false, false, false, false, false] rfl rfl (by kernel_rfl) (fun _ _ _ h => h) (Or.inl ⟨by rfl, ?_⟩) ?_ ?_
      rotate_left
      · intro w'
        go_simp
        with_reducible rfl
      rotate_left
      · simp only [Act.put, List.setIfInBounds_toArray, List.set_cons_zero, List.set_cons_succ, i64_w, i32_w]
        rfl
      refine take_ (i := 1) (N := some 56) (v := ?_) (a' := ?_) #[true, true, true, false, false, false, false, false] rfl rfl (by kernel_rfl) (fun _ _ _ h => h) (Or.inl ⟨by rfl, ?_⟩) hHeld ?_ ?_
      rotate_left
      · intro w' s0
        go_simp
        with_reducible rfl
      rotate_left
      · simp only [Act.put, List.setIfInBounds_toArray, List.set_cons_zero, List.set_cons_succ, i64_w, i32_w]
        rfl
      refine one_ (i := 3) (N := some 58) #[true, true, true, true, false, false, false, false] rfl rfl (by kernel_rfl) (by decide) (fun K hK => ?_)
      refine goes_ Tryd.func24 (by kernel_rfl) rfl #[.pointer (some ⟨g, 0, none⟩), .int .i64 2] (by rfl) rfl rfl (by simp only [List.map_toArray, List.map_cons, List.map_nil]; rfl) ?_
      with_reducible refine (FRd.cc (global_calls 2 st.skip _ FRd.ps)).mono ?_
      rintro e w3 ⟨rfl, f_u⟩
      refine ⟨_, rfl, ?_⟩
      refine hK.out _ _ (blk_cell f_u.b1) (fun hHeld => ?_)
      clear hK K
      refine norm_ (a' := ?_) ?_ ?_
      rotate_left
      · show Act.put _ (some 58) _ = _
        simp only [Act.put, List.setIfInBounds_toArray, List.set_cons_zero, List.set_cons_succ, i64_w, i32_w]
        rfl
      refine one_ (i := 4) (N := some 59) #[true, true, true, true, true, false, false, false] rfl rfl (by kernel_rfl) (by decide) (fun K hK => ?_)
      refine value_ (w1 := ?_) (v := ?_) (by rfl) rfl ?_ ?_
      rotate_left 2
      · go_simp
        constructor
        · rfl
        · rfl
      refine hK.out _ _ (blk_cell (f_u.below (below_alloc (Below.refl _ _) _)).b1) (fun hHeld => ?_)
      clear hK K
      refine norm_ (a' := ?_) ?_ ?_
      rotate_left
      · show Act.put _ (some 59) _ = _
        simp only [Act.put, List.setIfInBounds_toArray, List.set_cons_zero, List.set_cons_succ, i64_w, i32_w]
        rfl
      refine one_ (i := 5) (N := some 60) #[true, true, true, true, true, true, false, false] rfl rfl (by kernel_rfl) (by decide) (fun K hK => ?_)
      refine Fr.appS kGlobal f_u (by rfl) (.tmp 56) (.tmp 59) 27 (.agg #[.string ⟨#[]⟩, .int .i64 0, .int .i64 0, .int .i64 0, .int .i64 0]) 48 (by rfl) Tryd.underlying27 infoGlob2 (by rfl) (by decide) (by decide) (okp := fun _ => False) (globalL 2 st.skip).1 [.string (globalL 2 st.skip).1.name, .int .i64 (globalL 2 st.skip).1.hold, .int .i64 (globalL 2 st.skip).1.size, .int .i64 (globalL 2 st.skip).1.pos.line, .int .i64 (globalL 2 st.skip).1.pos.col] (by rfl) (by rfl) (fun W _ => kGlobal_mk W _ (globalL_wf _ _)) (fun _ h => h.elim) (fun u hu k hk => HD.out k (by cases hu with | head => exact hk | tail _ h => cases h)) (by omega) ?_
      intro v1 w5 ok5 f5 hok5
      obtain ⟨B0, d0, hv1⟩ := Kd.N_slice f5.n1
      subst hv1
      have C5 := f5.c1
      refine hK.out _ _ (blk_cell f5.b1) (fun hHeld => ?_)
      clear hK K
      refine norm_ (a' := ?_) ?_ ?_
      rotate_left
      · show Act.put _ (some 60) _ = _
        simp only [Act.put, List.setIfInBounds_toArray, List.set_cons_zero, List.set_cons_succ, i64_w, i32_w]
        rfl
      refine pure_ (i := 6) (N := some 61) (v := ?_) (a' := ?_) #[true, true, true, true, true, true, true, false] rfl rfl (by kernel_rfl) (fun _ _ _ h => h) (Or.inl ⟨by rfl, ?_⟩) ?_ ?_
      rotate_left
      · intro w'
        go_simp
        with_reducible rfl
      rotate_left
      · simp only [Act.put, List.setIfInBounds_toArray, List.set_cons_zero, List.set_cons_succ, i64_w, i32_w]
        rfl
      refine last_ (i := 7) (N := none) #[true, true, true, true, true, true, true, true] rfl rfl (by kernel_rfl) (by decide) (fun K hK => ?_)
      refine skip_ (w1 := ?_) (by rfl) rfl ?_ ?_
      rotate_left
      · go_simp
        rfl
      refine hK.out _ _ ?_
      clear hK K
      refine done_ (by kernel_rfl) ?_
      obtain ⟨W9, hW9⟩ : ∃ W, W = w5.setCell ⟨b7, 0, none⟩ (.slice B0 (out.globals.length + 1) d0) := ⟨_, rfl⟩
      rw [← hW9]
      rw [show out.globals.length + 1 = (out.globals ++ [(globalL 2 st.skip).1]).length by simp] at hW9
      have FR9 := Aside0.mk (Fr.putAt [] (cs' := #[.slice B0 (out.globals ++ [(globalL 2 st.skip).1]).length d0, .slice A1 out.funcs.length c1]) f5 (w' := W9) (by rw [hW9]; exact (Chg.refl b7 w5).set 0 _) (by rw [hW9]; exact blk_put f5.b1 0 _ rfl))
      have HD9 : Aside0 (∀ k, ok2 k → ¬ ok5 k) := ⟨fun k h2 h5 => (hok5 k h5).elim (HD.out k h2) (fun h => h.elim (fun h => h.elim) (fun h => Nat.lt_irrefl _ (Nat.lt_of_lt_of_le ((f_u.val _ (.tail _ (.head _))).2 k h2).2.1 h)))⟩
      clear hW9 hHeld f5 f_u FRd FR C C5 HD hok5
      go_wp2
      go_roundg k1_
      case measure => omega
      case rel => exact ⟨k1_, ⟨(out.globals ++ [(globalL 2 st.skip).1]), out.funcs⟩, (globalL 2 st.skip).2, B0, d0, A1, c1, ok5, ok2, rfl, by omega, by simp; omega, HR, FR9, HD9⟩
    | false =>
    have HT3 := Lib.hid h3
    rw [h3, if_neg (by decide)] at hx
    clear h3
    cases h4 : (st.take [102, 117, 110, 99]).1 with
    | true =>
      have HT4 := Lib.hid h4
      rw [h4, if_pos rfl] at hx
      obtain ⟨⟨x1, s2⟩, h5, h6⟩ := Option.bind_eq_some_iff.1 hx
      have HX1 := Lib.hid h5
      have HR := Aside0.mk (show progF k1_ ⟨out.globals, out.funcs ++ [x1]⟩ s2 = some (pr1, s1) from h6)
      clear hx h4 h5 h6
      go_wp2_with (first | (go_at_call 21; (with_reducible refine (FR.out.bc (bad_calls FR.out.ps)).mono ?_); rintro e HW1 ⟨rfl, f_⟩; rw [HB_.out]; replace FR := Aside0.mk f_; replace C := f_.c1; clear f_) | (go_at_call 22; (with_reducible refine (FR.out.bc (now_calls FR.out.ps)).mono ?_); rintro e HW2 ⟨rfl, f_⟩; rw [← HN.out]; replace FR := Aside0.mk f_; replace C := f_.c1; clear f_) | (go_at_call 23; (with_reducible refine (FR.out.cc (take_no ⟨#[118, 97, 114]⟩ [118, 97, 114] rfl FR.out.ps HT1.out)).mono ?_); rintro e HW3 ⟨rfl, f_⟩; replace FR := Aside0.mk f_; replace C := f_.c1; clear f_) | (go_at_call 23; (with_reducible refine (FR.out.cc (take_no ⟨#[112, 117, 98, 108, 105, 99]⟩ [112, 117, 98, 108, 105, 99] rfl FR.out.ps HT2.out)).mono ?_); rintro e HW4 ⟨rfl, f_⟩; replace FR := Aside0.mk f_; replace C := f_.c1; clear f_) | (go_at_call 23; (with_reducible refine (FR.out.cc (take_no ⟨#[115, 101, 99, 114, 101, 116]⟩ [115, 101, 99, 114, 101, 116] rfl FR.out.ps HT3.out)).mono ?_); rintro e HW5 ⟨rfl, f_⟩; replace FR := Aside0.mk f_; replace C := f_.c1; clear f_) | (go_at_call 23; (with_reducible refine (FR.out.cc (take_yes ⟨#[102, 117, 110, 99]⟩ [102, 117, 110, 99] rfl FR.out.ps HT4.out)).mono ?_); rintro e HW6 ⟨rfl, f_⟩; replace FR := Aside0.mk f_; replace C := f_.c1; clear f_))
      have FRd := FR.out.below (below_drew (Below.refl HW6.heap.size HW6))
      refine start_ (n := 8) (S := fun w' => (∀ i, w'.cell? ⟨b7, i, none⟩ = (#[.slice A0 out.globals.length c0, .slice A1 out.funcs.length c1] : Array Value)[i]?)) (ds := [7]) #[false, false, false, false, false, false, false, false] (by kernel_rfl) rfl rfl (blk_cell FRd.b1) (fun hHeld => ?_)
      refine pure_ (i := 0) (N := some 65) (v := ?_) (a' := ?_) #[true, false, false, false, false, false, false, false] rfl rfl (by kernel_rfl) (fun _ _ _ h => h) (Or.inl ⟨by rfl, ?_⟩) ?_ ?_
      rotate_left
      · intro w'
        go_simp
        with_reducible rfl
      rotate_left
      · simp only [Act.put, List.setIfInBounds_toArray, List.set_cons_zero, List.set_cons_succ, i64_w, i32_w]
        rfl
      refine pure_ (i := 2) (N := some 67) (v := ?_) (a' := ?_) #[true, false, true, false, false, false, false, false] rfl rfl (by kernel_rfl) (fun _ _ _ h => h) (Or.inl ⟨by rfl, ?_⟩) ?_ ?_
      rotate_left
      · intro w'
        go_simp
        with_reducible rfl
      rotate_left
      · simp only [Act.put, List.setIfInBounds_toArray, List.set_cons_zero, List.set_cons_succ, i64_w, i32_w]
        rfl
      refine take_ (i := 1) (N := some 66) (v := ?_) (a' := ?_) #[true, true, true, false, false, false, false, false] rfl rfl (by kernel_rfl) (fun _ _ _ h => h) (Or.inl ⟨by rfl, ?_⟩) hHeld ?_ ?_
      rotate_left
      · intro w' s0
        go_simp
        with_reducible rfl
      rotate_left
      · simp only [Act.put, List.setIfInBounds_toArray, List.set_cons_zero, List.set_cons_succ, i64_w, i32_w]
        rfl
      refine one_ (i := 3) (N := some 68) #[true, true, true, true, false, false, false, false] rfl rfl (by kernel_rfl) (by decide) (fun K hK => ?_)
      refine goes_ Tryd.func25 (by kernel_rfl) rfl #[.pointer (some ⟨g, 0, none⟩)] (by rfl) rfl rfl (by simp only [List.map_toArray, List.map_cons, List.map_nil]; rfl) ?_
      with_reducible refine (FRd.fc (function_calls k1_ (by omega) st.skip _ FRd.ps x1 s2 HX1.out)).mono ?_
      rintro e w3 ⟨B1, d1, B2, d2, okf, rfl, f_u, hokf⟩
      refine ⟨_, rfl, ?_⟩
      have hnf : ∀ k, okf k → ¬ ok2 k := fun k hk h2 => Nat.lt_irrefl _ (Nat.lt_of_lt_of_le ((FRd.val _ (.tail _ (.head _))).2 k h2).2.1 (hokf k hk))
      refine hK.out _ _ (blk_cell f_u.b1) (fun hHeld => ?_)
      clear hK K
      refine norm_ (a' := ?_) ?_ ?_
      rotate_left
      · show Act.put _ (some 68) _ = _
        simp only [Act.put, List.setIfInBounds_toArray, List.set_cons_zero, List.set_cons_succ, i64_w, i32_w]
        rfl
      refine one_ (i := 4) (N := some 69) #[true, true, true, true, true, false, false, false] rfl rfl (by kernel_rfl) (by decide) (fun K hK => ?_)
      refine value_ (w1 := ?_) (v := ?_) (by rfl) rfl ?_ ?_
      rotate_left 2
      · go_simp
        constructor
        · rfl
        · rfl
      refine hK.out _ _ (blk_cell (f_u.below (below_alloc (Below.refl _ _) _)).b1) (fun hHeld => ?_)
      clear hK K
      refine norm_ (a' := ?_) ?_ ?_
      rotate_left
      · show Act.put _ (some 69) _ = _
        simp only [Act.put, List.setIfInBounds_toArray, List.set_cons_zero, List.set_cons_succ, i64_w, i32_w]
        rfl
      refine one_ (i := 5) (N := some 70) #[true, true, true, true, true, true, false, false] rfl rfl (by kernel_rfl) (by decide) (fun K hK => ?_)
      refine Fr.appS kFun f_u.turn312 (by rfl) (.tmp 66) (.tmp 69) 28 (.agg #[.string ⟨#[]⟩, .slice none 0 0, .slice none 0 0, .int .i64 0, .int .i64 0]) 80 (by rfl) Tryd.underlying28 infoFunc2 (by rfl) (by decide) (by decide) (okp := okf) x1 [.string x1.name, .slice B1 x1.params.length d1, .slice B2 x1.body.length d2, .int .i64 x1.pos.line, .int .i64 x1.pos.col] (by rfl) (by rfl) (f_u.val _ (.head _)).1 (fun k hk => ⟨(f_u.val _ (.head _)).2 k hk, hnf k hk⟩) (fun u hu k hk => by cases hu with | head => exact fun h2 => HD.out k h2 hk | tail _ h => cases h with | head => exact hnf k hk | tail _ h => cases h) (by omega) ?_
      intro v1 w5 ok5 f5 hok5
      obtain ⟨B0, d0, hv1⟩ := Kd.N_slice f5.n1
      subst hv1
      have C5 := f5.c1
      refine hK.out _ _ (blk_cell f5.b1) (fun hHeld => ?_)
      clear hK K
      refine norm_ (a' := ?_) ?_ ?_
      rotate_left
      · show Act.put _ (some 70) _ = _
        simp only [Act.put, List.setIfInBounds_toArray, List.set_cons_zero, List.set_cons_succ, i64_w, i32_w]
        rfl
      refine pure_ (i := 6) (N := some 71) (v := ?_) (a' := ?_) #[true, true, true, true, true, true, true, false] rfl rfl (by kernel_rfl) (fun _ _ _ h => h) (Or.inl ⟨by rfl, ?_⟩) ?_ ?_
      rotate_left
      · intro w'
        go_simp
        with_reducible rfl
      rotate_left
      · simp only [Act.put, List.setIfInBounds_toArray, List.set_cons_zero, List.set_cons_succ, i64_w, i32_w]
        rfl
      refine last_ (i := 7) (N := none) #[true, true, true, true, true, true, true, true] rfl rfl (by kernel_rfl) (by decide) (fun K hK => ?_)
      refine skip_ (w1 := ?_) (by rfl) rfl ?_ ?_
      rotate_left
      · go_simp
        rfl
      refine hK.out _ _ ?_
      clear hK K
      refine done_ (by kernel_rfl) ?_
      obtain ⟨W9, hW9⟩ : ∃ W, W = w5.setCell ⟨b7, 1, none⟩ (.slice B0 (out.funcs.length + 1) d0) := ⟨_, rfl⟩
      rw [← hW9]
      rw [show out.funcs.length + 1 = (out.funcs ++ [x1]).length by simp] at hW9
      have FR9 := Aside0.mk (Fr.putAt [] (cs' := #[.slice A0 out.globals.length c0, .slice B0 (out.funcs ++ [x1]).length d0]) f5.turn32 (w' := W9) (by rw [hW9]; exact (Chg.refl b7 w5).set 1 _) (by rw [hW9]; exact blk_put f5.b1 1 _ rfl))
      have HD9 : Aside0 (∀ k, ok5 k → ¬ ok1 k) := ⟨fun k h5 h1 => (hok5 k h5).elim (fun h => HD.out k h h1) (fun h => h.elim (fun h => Nat.lt_irrefl _ (Nat.lt_of_lt_of_le ((FRd.val _ (.head _)).2 k h1).2.1 (hokf k h))) (fun h => Nat.lt_irrefl _ (Nat.lt_of_lt_of_le ((f_u.val _ (.tail _ (.head _))).2 k h1).2.1 h)))⟩
      clear hW9 hHeld f5 f_u FRd FR C C5 HD hok5 hokf hnf
      go_wp2
      go_roundg k1_
      case measure => omega
      case rel => exact ⟨k1_, ⟨out.globals, (out.funcs ++ [x1])⟩, s2, A0, c0, B0, d0, ok1, ok5, rfl, by omega, by simp; omega, HR, FR9, HD9⟩
    | false =>
      have HT4 := Lib.hid h4
      rw [h4, if_neg (by decide)] at hx
      have HR := Aside0.mk hx
      clear hx h4
      go_wp2_with (first | (go_at_call 21; (with_reducible refine (FR.out.bc (bad_calls FR.out.ps)).mono ?_); rintro e IW1 ⟨rfl, f_⟩; rw [HB_.out]; replace FR := Aside0.mk f_; replace C := f_.c1; clear f_) | (go_at_call 22; (with_reducible refine (FR.out.bc (now_calls FR.out.ps)).mono ?_); rintro e IW2 ⟨rfl, f_⟩; rw [← HN.out]; replace FR := Aside0.mk f_; replace C := f_.c1; clear f_) | (go_at_call 23; (with_reducible refine (FR.out.cc (take_no ⟨#[118, 97, 114]⟩ [118, 97, 114] rfl FR.out.ps HT1.out)).mono ?_); rintro e IW3 ⟨rfl, f_⟩; replace FR := Aside0.mk f_; replace C := f_.c1; clear f_) | (go_at_call 23; (with_reducible refine (FR.out.cc (take_no ⟨#[112, 117, 98, 108, 105, 99]⟩ [112, 117, 98, 108, 105, 99] rfl FR.out.ps HT2.out)).mono ?_); rintro e IW4 ⟨rfl, f_⟩; replace FR := Aside0.mk f_; replace C := f_.c1; clear f_) | (go_at_call 23; (with_reducible refine (FR.out.cc (take_no ⟨#[115, 101, 99, 114, 101, 116]⟩ [115, 101, 99, 114, 101, 116] rfl FR.out.ps HT3.out)).mono ?_); rintro e IW5 ⟨rfl, f_⟩; replace FR := Aside0.mk f_; replace C := f_.c1; clear f_) | (go_at_call 23; (with_reducible refine (FR.out.cc (take_no ⟨#[102, 117, 110, 99]⟩ [102, 117, 110, 99] rfl FR.out.ps HT4.out)).mono ?_); rintro e IW6 ⟨rfl, f_⟩; replace FR := Aside0.mk f_; replace C := f_.c1; clear f_) | (go_at_call 26; (with_reducible refine (FR.out.cc (fail_calls 12 FR.out.ps)).mono ?_); rintro e IW7 ⟨rfl, f_⟩; replace FR := Aside0.mk f_; replace C := f_.c1; clear f_))
      go_roundg k1_
      case measure => omega
      case rel => exact ⟨k1_, out, st.fail 12, A0, c0, A1, c1, ok1, ok2, rfl, by omega, by omega, HR, FR, HD⟩

theorem program_calls {ga : GA} {N : Nat} (n : Nat) (hn : n ≤ 1000000) (s : ByteArray) (w : World) (hG : GP ga N w) (pr : Prog) (fl : Fault) (hx : parseF n s.data.toList = some (pr, fl)) :
    Calls Tryd.prog 10 #[.string s] w fun e w' => ∃ A0 c0 A1 c1, e = .returned (.tuple #[.agg #[.slice A0 pr.globals.length c0, .slice A1 pr.funcs.length c1], .agg #[.int .i64 fl.e, .int .i64 fl.pos.line, .int .i64 fl.pos.col]]) ∧ Kd.FK kProg w' (fun k => w.heap.size ≤ k) pr [.slice A0 pr.globals.length c0, .slice A1 pr.funcs.length c1] ∧ Below w.heap.size w w' := by
  unfold parseF at hx
  cases hl : lexL s.data.toList with
  | error f =>
    rw [hl] at hx
    obtain ⟨rfl, rfl⟩ := Prod.mk.inj (Option.some.inj hx)
    exact program_err s w hG f hl
  | ok ts =>
    rw [hl] at hx
    obtain ⟨⟨pr1, s1⟩, hp, hr⟩ := Option.bind_eq_some_iff.1 hx
    exact program_ok n hn s w hG pr fl ts hl pr1 s1 hp hr
end Go.Proofs.YtgenlgfbjlclbaaDoor
