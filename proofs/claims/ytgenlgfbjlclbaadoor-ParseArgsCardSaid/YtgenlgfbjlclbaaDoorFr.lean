/- A frame: all that a walk of the parser's functions knows of the world, in one; how it goes over each event. -/
import Derived.Test.YtgenlgfbjlclbaaDoorFq
import Derived.Test.YtgenlgfbjlclbaaDoorPsC
namespace Go.Proofs.YtgenlgfbjlclbaaDoor
open Go.RowKit Go.Proofs.YtgenlgfbjlclbaaDoorW.PrintWords Go.Proofs.YtgenlgfbjlclbaaDoorW.PrintLast Go.Proofs.YtgenlgfbjlclbaaDoorW.PrintMore
set_option linter.unusedVariables false
set_option linter.unusedSimpArgs false

theorem Chg.thenB {g : Nat} {w W W7 : World} (c : Chg g w W) (hb : Below w.heap.size W W7) : Chg g w W7 :=
  ⟨hb.os.trans c.os, hb.tape.trans c.tape, hb.output.trans c.output, Nat.le_trans c.size hb.size, fun k hk hg => (hb.block k hk).trans (c.block k hk hg)⟩
theorem PSt.thenB {a : GA} {g B : Nat} {s : PS} {W W7 : World} (h : PSt a g s W) (hb : Below B W W7) (hB : g < B) : PSt a g s W7 := by
  obtain ⟨h1, h2, h3, h4, ad, c, h5, h6, h7⟩ := h
  exact ⟨⟨Nat.le_trans h1.size hb.size, fun W' hW => h1.all W' fun k hk => (hW k hk).trans (hb.block k (by omega))⟩, h2, h3, h4, ad, c, (hb.block g hB).trans h5, Kd.F_step h6 (fun k hk hlt => hb.block k (by have : k < g := hk; omega)), h7⟩
structure Fr (a : GA) (g : Nat) (w0 : World) (s : PS) (os : List Ow) (vs : List Vl) (w : World) : Prop where
  g0 : g < w0.heap.size
  ch : Chg g w0 w
  ps : PSt a g s w
  own : ∀ o, o ∈ os → w.heap[o.b]? = some (.cells o.cs o.T (0, 0)) ∧ w0.heap.size ≤ o.b
  apart : os.Pairwise (fun o p => o.b ≠ p.b)
  val : ∀ v, v ∈ vs → Foot v.P w v.ok ∧ ∀ k, v.ok k → w0.heap.size ≤ k ∧ k < w.heap.size ∧ ∀ o, o ∈ os → k ≠ o.b

section
variable {a : GA} {g : Nat} {w0 w w' : World} {s s' : PS} {os : List Ow} {vs : List Vl}
theorem Fr.start (h : PSt a g s w) : Fr a g w s [] [] w :=
  ⟨h.lt, Chg.refl g w, h, fun _ h => (by cases h), List.Pairwise.nil, fun _ h => (by cases h)⟩
theorem Fr.below (F : Fr a g w0 s os vs w) (hb : Below w.heap.size w w') : Fr a g w0 s os vs w' :=
  ⟨F.g0, F.ch.trans (Chg.of_below hb), F.ps.below hb, fun o ho => ⟨blk_below (F.own o ho).1 hb, (F.own o ho).2⟩, F.apart,
    fun v hv => ⟨Foot.step (F.val v hv).1 (fun k _ hlt => hb.block k hlt), fun k hk => ⟨((F.val v hv).2 k hk).1, Nat.lt_of_lt_of_le ((F.val v hv).2 k hk).2.1 hb.size, ((F.val v hv).2 k hk).2.2⟩⟩⟩
theorem Fr.chg (F : Fr a g w0 s os vs w) (ch : Chg g w w') (ps : PSt a g s' w') : Fr a g w0 s' os vs w' :=
  ⟨F.g0, F.ch.trans ch, ps, fun o ho => ⟨ch.blk (F.own o ho).1 (Nat.ne_of_gt (Nat.lt_of_lt_of_le F.g0 (F.own o ho).2)), (F.own o ho).2⟩, F.apart,
    fun v hv => ⟨Foot.step (F.val v hv).1 (fun k hk hlt => ch.block k hlt (Nat.ne_of_gt (Nat.lt_of_lt_of_le F.g0 ((F.val v hv).2 k hk).1))), fun k hk => ⟨((F.val v hv).2 k hk).1, Nat.lt_of_lt_of_le ((F.val v hv).2 k hk).2.1 ch.size, ((F.val v hv).2 k hk).2.2⟩⟩⟩
/-- A new block. -/
theorem Fr.box (F : Fr a g w0 s os vs w) {b : Nat} {cs : Array Value} {T : TypeId} (hb : Below w.heap.size w w') (hge : w.heap.size ≤ b) (h : w'.heap[b]? = some (.cells cs T (0, 0))) : Fr a g w0 s (⟨b, cs, T⟩ :: os) vs w' := by
  have F' := F.below hb
  refine ⟨F'.g0, F'.ch, F'.ps, fun o ho => ?_, List.pairwise_cons.2 ⟨fun o ho => ?_, F.apart⟩, fun v hv => ⟨(F'.val v hv).1, fun k hk => ⟨((F'.val v hv).2 k hk).1, ((F'.val v hv).2 k hk).2.1, fun o ho => ?_⟩⟩⟩
  · rcases List.mem_cons.1 ho with rfl | ho
    · exact ⟨h, Nat.le_trans F.ch.size hge⟩
    · exact F'.own o ho
  · exact fun (he : b = o.b) => Nat.lt_irrefl _ (Nat.lt_of_lt_of_le (blk_lt (F.own o ho).1) (he ▸ hge))
  · rcases List.mem_cons.1 ho with rfl | ho
    · exact fun he => Nat.lt_irrefl _ (Nat.lt_of_lt_of_le ((F.val v hv).2 k hk).2.1 (he ▸ hge))
    · exact ((F.val v hv).2 k hk).2.2 o ho
/-- A value that lies in blocks made since. -/
theorem Fr.more (F : Fr a g w0 s os vs w) (ch : Chg g w w') (ps : PSt a g s' w') {P : World → Prop} (h : Foot P w' (fun k => w.heap.size ≤ k)) : ∃ ok, Fr a g w0 s' os (⟨ok, P⟩ :: vs) w' := by
  have F' := F.chg ch ps
  refine ⟨fun k => w.heap.size ≤ k ∧ k < w'.heap.size, F'.g0, F'.ch, F'.ps, F'.own, F'.apart, fun v hv => ?_⟩
  rcases List.mem_cons.1 hv with rfl | hv
  · exact ⟨Foot.bound h, fun k hk => ⟨Nat.le_trans F.ch.size hk.1, hk.2, fun o ho he => Nat.lt_irrefl _ (Nat.lt_of_lt_of_le (blk_lt (F.own o ho).1) (he ▸ hk.1))⟩⟩
  · exact F'.val v hv
/-- A value's place is taken by another one, made of it and of new blocks. -/
theorem Fr.turn {ok : Nat → Prop} {P P' : World → Prop} (F : Fr a g w0 s os (⟨ok, P⟩ :: vs) w) (hb : Below w.heap.size w w') (h : Foot P' w' (fun k => ok k ∨ w.heap.size ≤ k)) : ∃ ok', Fr a g w0 s os (⟨ok', P'⟩ :: vs) w' := by
  have F' := F.below hb
  refine ⟨fun k => (ok k ∨ w.heap.size ≤ k) ∧ k < w'.heap.size, F'.g0, F'.ch, F'.ps, F'.own, F'.apart, fun v hv => ?_⟩
  rcases List.mem_cons.1 hv with rfl | hv
  · refine ⟨Foot.bound h, fun k hk => ?_⟩
    rcases hk.1 with h1 | h1
    · exact (F'.val _ (List.mem_cons_self ..)).2 k h1
    · exact ⟨Nat.le_trans F.ch.size h1, hk.2, fun o ho he => Nat.lt_irrefl _ (Nat.lt_of_lt_of_le (blk_lt (F.own o ho).1) (he ▸ h1))⟩
  · exact F'.val v (List.mem_cons_of_mem _ hv)
theorem Fr.turn2 {ok1 ok2 : Nat → Prop} {P1 P2 P' : World → Prop} (F : Fr a g w0 s os (⟨ok1, P1⟩ :: ⟨ok2, P2⟩ :: vs) w) (hb : Below w.heap.size w w') (h : Foot P' w' (fun k => (ok1 k ∨ ok2 k) ∨ w.heap.size ≤ k)) : ∃ ok', Fr a g w0 s os (⟨ok', P'⟩ :: vs) w' := by
  have F' := F.below hb
  refine ⟨fun k => ((ok1 k ∨ ok2 k) ∨ w.heap.size ≤ k) ∧ k < w'.heap.size, F'.g0, F'.ch, F'.ps, F'.own, F'.apart, fun v hv => ?_⟩
  rcases List.mem_cons.1 hv with rfl | hv
  · refine ⟨Foot.bound h, fun k hk => ?_⟩
    rcases hk.1 with (h1 | h1) | h1
    · exact (F'.val _ (List.mem_cons_self ..)).2 k h1
    · exact (F'.val _ (List.mem_cons_of_mem _ (List.mem_cons_self ..))).2 k h1
    · exact ⟨Nat.le_trans F.ch.size h1, hk.2, fun o ho he => Nat.lt_irrefl _ (Nat.lt_of_lt_of_le (blk_lt (F.own o ho).1) (he ▸ h1))⟩
  · exact F'.val v (List.mem_cons_of_mem _ (List.mem_cons_of_mem _ hv))
theorem Fr.moreK (F : Fr a g w0 s os vs w) (hb : Below w.heap.size w w') {ok : Nat → Prop} {P : World → Prop} (hok : ∀ k, ok k → w0.heap.size ≤ k ∧ k < w.heap.size ∧ ∀ o, o ∈ os → k ≠ o.b) (h : Foot P w' (fun k => ok k ∨ w.heap.size ≤ k)) : ∃ ok', Fr a g w0 s os (⟨ok', P⟩ :: vs) w' := by
  have F' := F.below hb
  refine ⟨fun k => (ok k ∨ w.heap.size ≤ k) ∧ k < w'.heap.size, F'.g0, F'.ch, F'.ps, F'.own, F'.apart, fun v hv => ?_⟩
  rcases List.mem_cons.1 hv with rfl | hv
  · refine ⟨Foot.bound h, fun k hk => ?_⟩
    rcases hk.1 with h1 | h1
    · exact ⟨(hok k h1).1, hk.2, (hok k h1).2.2⟩
    · exact ⟨Nat.le_trans F.ch.size h1, hk.2, fun o ho he => Nat.lt_irrefl _ (Nat.lt_of_lt_of_le (blk_lt (F.own o ho).1) (he ▸ h1))⟩
  · exact F'.val v hv
/-- A store into a block of the call's own. -/
theorem Fr.putAt (l1 : List Ow) {b : Nat} {cs cs' : Array Value} {T : TypeId} (F : Fr a g w0 s (l1 ++ ⟨b, cs, T⟩ :: os) vs w) (ch : Chg b w w') (hh : w'.heap[b]? = some (.cells cs' T (0, 0))) : Fr a g w0 s (l1 ++ ⟨b, cs', T⟩ :: os) vs w' := by
  have hm : (⟨b, cs, T⟩ : Ow) ∈ l1 ++ ⟨b, cs, T⟩ :: os := List.mem_append_right _ (List.mem_cons_self ..)
  have hb := (F.own _ hm).2
  have hgb : g < b := Nat.lt_of_lt_of_le F.g0 hb
  have ha := F.apart
  rw [List.pairwise_append, List.pairwise_cons] at ha
  obtain ⟨a1, ⟨a2, a3⟩, a4⟩ := ha
  have hne : ∀ o, o ∈ l1 ++ os → o.b ≠ b := fun o ho => by
    rcases List.mem_append.1 ho with h | h
    · exact a4 o h _ (List.mem_cons_self ..)
    · exact Ne.symm (a2 o h)
  have hold : ∀ o, o ∈ l1 ++ os → o ∈ l1 ++ ⟨b, cs, T⟩ :: os := fun o ho => by
    rcases List.mem_append.1 ho with h | h
    · exact List.mem_append_left _ h
    · exact List.mem_append_right _ (List.mem_cons_of_mem _ h)
  have hcase : ∀ o, o ∈ l1 ++ ⟨b, cs', T⟩ :: os → o = ⟨b, cs', T⟩ ∨ o ∈ l1 ++ os := fun o ho => by
    rcases List.mem_append.1 ho with h | h
    · exact .inr (List.mem_append_left _ h)
    · rcases List.mem_cons.1 h with h | h
      · exact .inl h
      · exact .inr (List.mem_append_right _ h)
  refine ⟨F.g0, Chg.own F.ch ch hb, PSt.own F.ps ch hgb, fun o ho => ?_, ?_, fun v hv => ⟨Foot.step (F.val v hv).1 (fun k hk hlt => ch.block k hlt (((F.val v hv).2 k hk).2.2 _ hm)), fun k hk => ⟨((F.val v hv).2 k hk).1, Nat.lt_of_lt_of_le ((F.val v hv).2 k hk).2.1 ch.size, fun o ho => ?_⟩⟩⟩
  · rcases hcase o ho with rfl | h
    · exact ⟨hh, hb⟩
    · exact ⟨ch.blk (F.own o (hold o h)).1 (hne o h), (F.own o (hold o h)).2⟩
  · rw [List.pairwise_append, List.pairwise_cons]
    exact ⟨a1, ⟨a2, a3⟩, fun o ho p hp => by
      rcases List.mem_cons.1 hp with rfl | hp
      · exact a4 o ho ⟨b, cs, T⟩ (List.mem_cons_self ..)
      · exact a4 o ho p (List.mem_cons_of_mem _ hp)⟩
  · rcases hcase o ho with he | h
    · rw [he]; exact ((F.val v hv).2 k hk).2.2 ⟨b, cs, T⟩ hm
    · exact ((F.val v hv).2 k hk).2.2 o (hold o h)
theorem Fr.keep {vs' : List Vl} (F : Fr a g w0 s os vs w) (h : ∀ v, v ∈ vs' → v ∈ vs) : Fr a g w0 s os vs' w := ⟨F.g0, F.ch, F.ps, F.own, F.apart, fun v hv => F.val v (h v hv)⟩
theorem Fr.only1 {v : Vl} (F : Fr a g w0 s os (v :: vs) w) : Fr a g w0 s os [v] w := F.keep (fun u hu => by
  cases hu with
  | head => exact .head _
  | tail _ h => cases h)
theorem Fr.mapv {ok : Nat → Prop} {P P' : World → Prop} (F : Fr a g w0 s os (⟨ok, P⟩ :: vs) w) (h : Foot P' w ok) : Fr a g w0 s os (⟨ok, P'⟩ :: vs) w := ⟨F.g0, F.ch, F.ps, F.own, F.apart, fun v hv => by
  rcases List.mem_cons.1 hv with rfl | hv
  · exact ⟨h, (F.val _ (.head _)).2⟩
  · exact F.val v (List.mem_cons_of_mem _ hv)⟩
/-- Blocks and values that are no longer looked at. -/
theorem Fr.drop1 {o : Ow} (F : Fr a g w0 s (o :: os) vs w) : Fr a g w0 s os vs w :=
  ⟨F.g0, F.ch, F.ps, fun p hp => F.own p (List.mem_cons_of_mem _ hp), (List.pairwise_cons.1 F.apart).2, fun v hv => ⟨(F.val v hv).1, fun k hk => ⟨((F.val v hv).2 k hk).1, ((F.val v hv).2 k hk).2.1, fun p hp => ((F.val v hv).2 k hk).2.2 p (List.mem_cons_of_mem _ hp)⟩⟩⟩
section
variable {o1 o2 o3 o4 : Ow} {u1 u2 u3 u4 : Vl}
theorem Fr.b1 (F : Fr a g w0 s (o1 :: os) vs w) : w.heap[o1.b]? = some (.cells o1.cs o1.T (0, 0)) := (F.own _ (.head _)).1
theorem Fr.b2 (F : Fr a g w0 s (o1 :: o2 :: os) vs w) : w.heap[o2.b]? = some (.cells o2.cs o2.T (0, 0)) := (F.own _ (.tail _ (.head _))).1
theorem Fr.b3 (F : Fr a g w0 s (o1 :: o2 :: o3 :: os) vs w) : w.heap[o3.b]? = some (.cells o3.cs o3.T (0, 0)) := (F.own _ (.tail _ (.tail _ (.head _)))).1
theorem Fr.b4 (F : Fr a g w0 s (o1 :: o2 :: o3 :: o4 :: os) vs w) : w.heap[o4.b]? = some (.cells o4.cs o4.T (0, 0)) := (F.own _ (.tail _ (.tail _ (.tail _ (.head _))))).1
theorem Fr.vOf {v : Vl} (F : Fr a g w0 s os vs w) (h : v ∈ vs) : Foot v.P w (fun k => w0.heap.size ≤ k) := Foot.mono (F.val v h).1 (fun k hk => ((F.val v h).2 k hk).1)
theorem Fr.v1 (F : Fr a g w0 s os (u1 :: vs) w) : Foot u1.P w (fun k => w0.heap.size ≤ k) := F.vOf (.head _)
theorem Fr.v2 (F : Fr a g w0 s os (u1 :: u2 :: vs) w) : Foot u2.P w (fun k => w0.heap.size ≤ k) := F.vOf (.tail _ (.head _))
theorem Fr.v3 (F : Fr a g w0 s os (u1 :: u2 :: u3 :: vs) w) : Foot u3.P w (fun k => w0.heap.size ≤ k) := F.vOf (.tail _ (.tail _ (.head _)))
end
theorem Fr.n1 {u1 : Vl} (F : Fr a g w0 s os (u1 :: vs) w) : u1.P w := Foot.now (F.val _ (.head _)).1
theorem Fr.n2 {u1 u2 : Vl} (F : Fr a g w0 s os (u1 :: u2 :: vs) w) : u2.P w := Foot.now (F.val _ (.tail _ (.head _))).1
theorem Fr.n3 {u1 u2 u3 : Vl} (F : Fr a g w0 s os (u1 :: u2 :: u3 :: vs) w) : u3.P w := Foot.now (F.val _ (.tail _ (.tail _ (.head _)))).1
section
variable {b1 b2 b3 b4 b5 : Nat} {k1 k2 k3 k4 k5 : Array Value} {T1 T2 T3 T4 T5 : TypeId}
theorem Fr.c0 (F : Fr a g w0 s [] vs w) : True := trivial
theorem Fr.c1 (F : Fr a g w0 s [⟨b1, k1, T1⟩] vs w) : (∀ i, w.cell? ⟨b1, i, none⟩ = k1[i]?) ∧ ∀ i, w.frozen? ⟨b1, i, none⟩ = false := cl_of F.b1
theorem Fr.c2 (F : Fr a g w0 s [⟨b1, k1, T1⟩, ⟨b2, k2, T2⟩] vs w) : ((∀ i, w.cell? ⟨b1, i, none⟩ = k1[i]?) ∧ ∀ i, w.frozen? ⟨b1, i, none⟩ = false) ∧ (∀ i, w.cell? ⟨b2, i, none⟩ = k2[i]?) ∧ ∀ i, w.frozen? ⟨b2, i, none⟩ = false := ⟨cl_of F.b1, cl_of F.b2⟩
theorem Fr.c3 (F : Fr a g w0 s [⟨b1, k1, T1⟩, ⟨b2, k2, T2⟩, ⟨b3, k3, T3⟩] vs w) : ((∀ i, w.cell? ⟨b1, i, none⟩ = k1[i]?) ∧ ∀ i, w.frozen? ⟨b1, i, none⟩ = false) ∧ ((∀ i, w.cell? ⟨b2, i, none⟩ = k2[i]?) ∧ ∀ i, w.frozen? ⟨b2, i, none⟩ = false) ∧ (∀ i, w.cell? ⟨b3, i, none⟩ = k3[i]?) ∧ ∀ i, w.frozen? ⟨b3, i, none⟩ = false := ⟨cl_of F.b1, cl_of F.b2, cl_of F.b3⟩
theorem Fr.c4 (F : Fr a g w0 s [⟨b1, k1, T1⟩, ⟨b2, k2, T2⟩, ⟨b3, k3, T3⟩, ⟨b4, k4, T4⟩] vs w) : ((∀ i, w.cell? ⟨b1, i, none⟩ = k1[i]?) ∧ ∀ i, w.frozen? ⟨b1, i, none⟩ = false) ∧ ((∀ i, w.cell? ⟨b2, i, none⟩ = k2[i]?) ∧ ∀ i, w.frozen? ⟨b2, i, none⟩ = false) ∧ ((∀ i, w.cell? ⟨b3, i, none⟩ = k3[i]?) ∧ ∀ i, w.frozen? ⟨b3, i, none⟩ = false) ∧ (∀ i, w.cell? ⟨b4, i, none⟩ = k4[i]?) ∧ ∀ i, w.frozen? ⟨b4, i, none⟩ = false := ⟨cl_of F.b1, cl_of F.b2, cl_of F.b3, cl_of F.b4⟩
end
/-! What calls do. -/
section
variable {f : FuncId} {args : Array Value} {E : Ending}
theorem Fr.bc (F : Fr a g w0 s os vs w) (h : Calls Tryd.prog f args w (fun e w' => e = E ∧ Below w.heap.size w w')) : Calls Tryd.prog f args w (fun e w' => e = E ∧ Fr a g w0 s os vs w') :=
  h.mono (fun _ _ h => ⟨h.1, F.below h.2⟩)
theorem Fr.cc (F : Fr a g w0 s os vs w) (h : Calls Tryd.prog f args w (fun e w' => e = E ∧ Chg g w w' ∧ PSt a g s' w')) : Calls Tryd.prog f args w (fun e w' => e = E ∧ Fr a g w0 s' os vs w') :=
  h.mono (fun _ _ h => ⟨h.1, F.chg h.2.1 h.2.2⟩)
theorem Fr.ec (F : Fr a g w0 s os vs w) {x : Expr} (h : Calls Tryd.prog f args w (EPost a g w x s')) : Calls Tryd.prog f args w (fun e w' => ∃ A c ok, e = .returned (.agg #[.int .i64 x.kind, .int .i64 x.pos.line, .int .i64 x.pos.col, .int .i64 x.num, .string x.name, .int .i64 x.op, .slice A x.kids.length c]) ∧ Fr a g w0 s' os (⟨ok, fun W => kExpr.K W x [.int .i64 x.kind, .int .i64 x.pos.line, .int .i64 x.pos.col, .int .i64 x.num, .string x.name, .int .i64 x.op, .slice A x.kids.length c]⟩ :: vs) w') :=
  h.mono (fun _ _ h => by
    obtain ⟨A, c, he, hf, hc, hp⟩ := h
    obtain ⟨ok, F'⟩ := F.more hc hp hf
    exact ⟨A, c, ok, he, F'⟩)
theorem Fr.ac (F : Fr a g w0 s os vs w) {xs : List Expr} (h : Calls Tryd.prog f args w (APost a g w xs s')) : Calls Tryd.prog f args w (fun e w' => ∃ A c ok, e = .returned (.slice A xs.length c) ∧ Fr a g w0 s' os (⟨ok, fun W => xs.length ≤ c ∧ kExpr.C W A xs.length xs⟩ :: vs) w') :=
  h.mono (fun _ _ h => by
    obtain ⟨A, c, he, hl, hf, hc, hp⟩ := h
    obtain ⟨ok, F'⟩ := F.more hc hp (Foot.imp hf (fun W' h => (⟨hl, h⟩ : xs.length ≤ c ∧ kExpr.C W' A xs.length xs)))
    exact ⟨A, c, ok, he, F'⟩)
theorem Fr.sc (F : Fr a g w0 s os vs w) {x : Stmt} (h : Calls Tryd.prog f args w (SPost a g w x s')) : Calls Tryd.prog f args w (fun e w' => ∃ A4 c4 A5 c5 A6 c6 ok, e = .returned (.agg #[.int .i64 x.does, .int .i64 x.pos.line, .int .i64 x.pos.col, .string x.name, .slice A4 x.es.length c4, .slice A5 x.thens.length c5, .slice A6 x.elses.length c6]) ∧ Fr a g w0 s' os (⟨ok, fun W => kStmt.K W x [.int .i64 x.does, .int .i64 x.pos.line, .int .i64 x.pos.col, .string x.name, .slice A4 x.es.length c4, .slice A5 x.thens.length c5, .slice A6 x.elses.length c6]⟩ :: vs) w') :=
  h.mono (fun _ _ h => by
    obtain ⟨A4, c4, A5, c5, A6, c6, he, hf, hc, hp⟩ := h
    obtain ⟨ok, F'⟩ := F.more hc hp hf
    exact ⟨A4, c4, A5, c5, A6, c6, ok, he, F'⟩)
theorem Fr.blc (F : Fr a g w0 s os vs w) {xs : List Stmt} (h : Calls Tryd.prog f args w (BPost a g w xs s')) : Calls Tryd.prog f args w (fun e w' => ∃ A c ok, e = .returned (.slice A xs.length c) ∧ Fr a g w0 s' os (⟨ok, fun W => xs.length ≤ c ∧ kStmt.C W A xs.length xs⟩ :: vs) w') :=
  h.mono (fun _ _ h => by
    obtain ⟨A, c, he, hl, hf, hc, hp⟩ := h
    obtain ⟨ok, F'⟩ := F.more hc hp (Foot.imp hf (fun W' h => (⟨hl, h⟩ : xs.length ≤ c ∧ kStmt.C W' A xs.length xs)))
    exact ⟨A, c, ok, he, F'⟩)
end
/-! What is handed back. -/
theorem Fr.epost (F : Fr a g w0 s os vs w) {x : Expr} {A : Option Addr} {c : Nat} {e : Ending} (he : e = .returned (.agg #[.int .i64 x.kind, .int .i64 x.pos.line, .int .i64 x.pos.col, .int .i64 x.num, .string x.name, .int .i64 x.op, .slice A x.kids.length c])) (h : Foot (fun W => kExpr.K W x [.int .i64 x.kind, .int .i64 x.pos.line, .int .i64 x.pos.col, .int .i64 x.num, .string x.name, .int .i64 x.op, .slice A x.kids.length c]) w (fun k => w0.heap.size ≤ k)) : EPost a g w0 x s e w :=
  ⟨A, c, he, h, F.ch, F.ps⟩
theorem Fr.spost (F : Fr a g w0 s os vs w) {x : Stmt} {A4 A5 A6 : Option Addr} {c4 c5 c6 : Nat} {e : Ending} (he : e = .returned (.agg #[.int .i64 x.does, .int .i64 x.pos.line, .int .i64 x.pos.col, .string x.name, .slice A4 x.es.length c4, .slice A5 x.thens.length c5, .slice A6 x.elses.length c6])) (h : Foot (fun W => kStmt.K W x [.int .i64 x.does, .int .i64 x.pos.line, .int .i64 x.pos.col, .string x.name, .slice A4 x.es.length c4, .slice A5 x.thens.length c5, .slice A6 x.elses.length c6]) w (fun k => w0.heap.size ≤ k)) : SPost a g w0 x s e w :=
  ⟨A4, c4, A5, c5, A6, c6, he, h, F.ch, F.ps⟩
end

/-! Events of a walk. -/
section
variable {P : Program} {ops : Array Oper} {rest : List Oper} {o o2 : Oper} {act : Act} {Q : Exit → Act → World → Prop}
variable {a : GA} {g : Nat} {w0 W W1 : World} {s : PS} {os : List Ow} {vs : List Vl} {N : Tmp}
theorem Fr.boxE (F : Fr a g w0 s os vs W) (cs : Array Value) (t : TypeId) (hgd : o.guard = none) (hd : o.dst = some N)
    (hrun : (execOp act.eval o).run P W = .ok (.value (.pointer (some ⟨W.heap.size, 0, none⟩))) (W.alloc (.cells cs t (0, 0))))
    (h : ∀ b w1, Fr a g w0 s (⟨b, cs, t⟩ :: os) vs w1 → wpList P ops Q rest (act.put o.dst (.pointer (some ⟨b, 0, none⟩))) w1) : wpList P ops Q (o :: rest) act W :=
  box_event hgd hd hrun (fun b hb w1 hh hB => h b w1 (F.box hB (Nat.le_of_eq hb.symm) hh))
theorem Fr.varE (F : Fr a g w0 s os vs W) (cs : Array Value) (t : TypeId) (hgd : o.guard = none) (hd : o.dst = some N) (hgd2 : o2.guard = none) (hd2 : o2.dst = none)
    (hrun : (execOp act.eval o).run P W = .ok (.value (.pointer (some ⟨W.heap.size, 0, none⟩))) W1)
    (hrun2 : (execOp (act.put (some N) (.pointer (some ⟨W.heap.size, 0, none⟩))).eval o2).run P W1 = .ok .skip (W.alloc (.cells cs t (0, 0))))
    (h : ∀ b w1, Fr a g w0 s (⟨b, cs, t⟩ :: os) vs w1 → wpList P ops Q rest (act.put (some N) (.pointer (some ⟨b, 0, none⟩))) w1) : wpList P ops Q (o :: o2 :: rest) act W :=
  var_event hgd hd hgd2 hd2 hrun hrun2 (fun b hb w1 hh hB => h b w1 (F.box hB hb hh))
theorem Fr.putE (l1 : List Ow) {b : Nat} {cs : Array Value} {T : TypeId} (F : Fr a g w0 s (l1 ++ ⟨b, cs, T⟩ :: os) vs W) (cs' : Array Value) (hgd : o.guard = none) (hN : o.dst = none)
    (hrun : (execOp act.eval o).run P W = .ok .skip W1) (hk : Chg b W W1) (hb : W.heap[b]? = some (.cells cs T (0, 0)) → W1.heap[b]? = some (.cells cs' T (0, 0)))
    (h : ∀ w', Fr a g w0 s (l1 ++ ⟨b, cs', T⟩ :: os) vs w' → wpList P ops Q rest act w') : wpList P ops Q (o :: rest) act W := by
  refine wpList_plain hgd fun K hK => ?_
  unfold Oper.wp
  rw [hrun]
  show K (act.put o.dst undef) W1
  rw [hN]
  exact hK _ _ (h _ (F.putAt l1 hk (hb (F.own _ (List.mem_append_right _ (.head _))).1)))
theorem Fr.litE {α : Type} (d : Kd α) (e : Nat) {ok : Nat → Prop} {P1 : World → Prop} (F : Fr a g w0 s os (⟨ok, P1⟩ :: vs) W) (xs : List α) (inner : List Value) (hgd : o.guard = none) (hd : o.dst = some N)
    (hrun : (execOp act.eval o).run P W = .ok (.value (.slice (some ⟨W.heap.size, 0, none⟩) xs.length xs.length)) (W.alloc (.cells inner.toArray e)))
    (hrep : Foot P1 W ok → Reps (Kd.FK d W ok) d.sz xs inner) (hm : xs.length ≤ 9223372036854775807)
    (h : ∀ A c w1 ok', Fr a g w0 s os (⟨ok', fun W => xs.length ≤ c ∧ d.C W A xs.length xs⟩ :: vs) w1 → wpList P ops Q rest (act.put (some N) (.slice A xs.length c)) w1) : wpList P ops Q (o :: rest) act W :=
  litF_event d e hgd hd ok xs inner hrun (hrep (F.val _ (.head _)).1) hm (fun A c w1 hc hf hb => by
    obtain ⟨ok', F'⟩ := F.turn hb (Foot.imp hf (fun W' h => (⟨hc, h⟩ : xs.length ≤ c ∧ d.C W' A xs.length xs)))
    exact h A c w1 ok' F')
theorem Fr.lit2E {α : Type} (d : Kd α) (e : Nat) {ok1 ok2 : Nat → Prop} {P1 P2 : World → Prop} (F : Fr a g w0 s os (⟨ok1, P1⟩ :: ⟨ok2, P2⟩ :: vs) W) (xs : List α) (inner : List Value) (hgd : o.guard = none) (hd : o.dst = some N)
    (hrun : (execOp act.eval o).run P W = .ok (.value (.slice (some ⟨W.heap.size, 0, none⟩) xs.length xs.length)) (W.alloc (.cells inner.toArray e)))
    (hrep : Foot P1 W (fun k => ok1 k ∨ ok2 k) → Foot P2 W (fun k => ok1 k ∨ ok2 k) → Reps (Kd.FK d W (fun k => ok1 k ∨ ok2 k)) d.sz xs inner) (hm : xs.length ≤ 9223372036854775807)
    (h : ∀ A c w1 ok', Fr a g w0 s os (⟨ok', fun W => xs.length ≤ c ∧ d.C W A xs.length xs⟩ :: vs) w1 → wpList P ops Q rest (act.put (some N) (.slice A xs.length c)) w1) : wpList P ops Q (o :: rest) act W :=
  litF_event d e hgd hd (fun k => ok1 k ∨ ok2 k) xs inner hrun (hrep (Foot.mono (F.val _ (.head _)).1 (fun _ => .inl)) (Foot.mono (F.val _ (.tail _ (.head _))).1 (fun _ => .inr))) hm (fun A c w1 hc hf hb => by
    obtain ⟨ok', F'⟩ := F.turn2 hb (Foot.imp hf (fun W' h => (⟨hc, h⟩ : xs.length ≤ c ∧ d.C W' A xs.length xs)))
    exact h A c w1 ok' F')
theorem Fr.litS {α : Type} (d : Kd α) (e : Nat) {ok : Nat → Prop} {P1 : World → Prop} {Kc : Act → World → Prop} (F : Fr a g w0 s os (⟨ok, P1⟩ :: vs) W) (xs : List α) (n : Nat) (hn : xs.length = n) (inner : List Value) (hw : Region.wanted o (yielded ops act.tmps) = true) (hd : o.dst = some N)
    (hrun : (execOp act.eval o).run P W = .ok (.value (.slice (some ⟨W.heap.size, 0, none⟩) xs.length xs.length)) (W.alloc (.cells inner.toArray e)))
    (hrep : Foot P1 W ok → Reps (Kd.FK d W ok) d.sz xs inner) (hm : xs.length ≤ 9223372036854775807)
    (h : ∀ A c w1 ok', Fr a g w0 s os (⟨ok', fun W => n ≤ c ∧ d.C W A n xs⟩ :: ⟨ok, P1⟩ :: vs) w1 → Kc (act.put o.dst (.slice A n c)) w1) : if Region.wanted o (yielded ops act.tmps) = true then Oper.wp P o act W Kc Q else Kc (act.put o.dst undef) W := by
  subst hn
  refine Kd.N_lit_step d (w0 := W) W.heap.size e hw hd (ok := fun k => ok k ∨ W.heap.size ≤ k) hrun (hrep (F.val _ (.head _)).1) (fun k hk => .inl hk) (.inr (Nat.le_refl _)) (Below.refl _ _) (Nat.le_refl _) hm ?_
  intro v1 w1 hn_ hb _ _
  obtain ⟨A, c, rfl⟩ := Kd.N_slice hn_
  obtain ⟨ok', F'⟩ := F.moreK hb (F.val _ (.head _)).2 (Foot.imp (Kd.N_F hn_) (fun W' h => (⟨(Kd.N_reads' hn_).2.1, h⟩ : xs.length ≤ c ∧ d.C W' A xs.length xs)))
  exact h A c w1 ok' F'
theorem Fr.lit2S {α : Type} (d : Kd α) (e : Nat) {ok1 ok2 : Nat → Prop} {P1 P2 : World → Prop} {Kc : Act → World → Prop} (F : Fr a g w0 s os (⟨ok1, P1⟩ :: ⟨ok2, P2⟩ :: vs) W) (xs : List α) (n : Nat) (hn : xs.length = n) (inner : List Value) (hw : Region.wanted o (yielded ops act.tmps) = true) (hd : o.dst = some N)
    (hrun : (execOp act.eval o).run P W = .ok (.value (.slice (some ⟨W.heap.size, 0, none⟩) xs.length xs.length)) (W.alloc (.cells inner.toArray e)))
    (hrep : Foot P1 W (fun k => ok1 k ∨ ok2 k) → Foot P2 W (fun k => ok1 k ∨ ok2 k) → Reps (Kd.FK d W (fun k => ok1 k ∨ ok2 k)) d.sz xs inner) (hm : xs.length ≤ 9223372036854775807)
    (h : ∀ A c w1 ok', Fr a g w0 s os (⟨ok', fun W => n ≤ c ∧ d.C W A n xs⟩ :: ⟨ok1, P1⟩ :: ⟨ok2, P2⟩ :: vs) w1 → Kc (act.put o.dst (.slice A n c)) w1) : if Region.wanted o (yielded ops act.tmps) = true then Oper.wp P o act W Kc Q else Kc (act.put o.dst undef) W := by
  subst hn
  refine Kd.N_lit_step d (w0 := W) W.heap.size e hw hd (ok := fun k => (ok1 k ∨ ok2 k) ∨ W.heap.size ≤ k) hrun (hrep (Foot.mono (F.val _ (.head _)).1 (fun _ => .inl)) (Foot.mono (F.val _ (.tail _ (.head _))).1 (fun _ => .inr))) (fun k hk => .inl hk) (.inr (Nat.le_refl _)) (Below.refl _ _) (Nat.le_refl _) hm ?_
  intro v1 w1 hn_ hb _ _
  obtain ⟨A, c, rfl⟩ := Kd.N_slice hn_
  obtain ⟨ok', F'⟩ := F.moreK hb (fun k hk => hk.elim ((F.val _ (.head _)).2 k) ((F.val _ (.tail _ (.head _))).2 k)) (Foot.imp (Kd.N_F hn_) (fun W' h => (⟨(Kd.N_reads' hn_).2.1, h⟩ : xs.length ≤ c ∧ d.C W' A xs.length xs)))
  exact h A c w1 ok' F'
section
variable {b : Nat} {o1 o2_ o3_ : Ow} {cs : Array Value} {T : TypeId} (cs' : Array Value)
theorem Fr.p1 (F : Fr a g w0 s (⟨b, cs, T⟩ :: os) vs W) (hgd : o.guard = none) (hN : o.dst = none) (hrun : (execOp act.eval o).run P W = .ok .skip W1) (hk : Chg b W W1) (hb : W.heap[b]? = some (.cells cs T (0, 0)) → W1.heap[b]? = some (.cells cs' T (0, 0)))
    (h : ∀ w', Fr a g w0 s (⟨b, cs', T⟩ :: os) vs w' → wpList P ops Q rest act w') : wpList P ops Q (o :: rest) act W := F.putE [] cs' hgd hN hrun hk hb h
theorem Fr.p2 (F : Fr a g w0 s (o1 :: ⟨b, cs, T⟩ :: os) vs W) (hgd : o.guard = none) (hN : o.dst = none) (hrun : (execOp act.eval o).run P W = .ok .skip W1) (hk : Chg b W W1) (hb : W.heap[b]? = some (.cells cs T (0, 0)) → W1.heap[b]? = some (.cells cs' T (0, 0)))
    (h : ∀ w', Fr a g w0 s (o1 :: ⟨b, cs', T⟩ :: os) vs w' → wpList P ops Q rest act w') : wpList P ops Q (o :: rest) act W := Fr.putE [o1] F cs' hgd hN hrun hk hb h
theorem Fr.p3 (F : Fr a g w0 s (o1 :: o2_ :: ⟨b, cs, T⟩ :: os) vs W) (hgd : o.guard = none) (hN : o.dst = none) (hrun : (execOp act.eval o).run P W = .ok .skip W1) (hk : Chg b W W1) (hb : W.heap[b]? = some (.cells cs T (0, 0)) → W1.heap[b]? = some (.cells cs' T (0, 0)))
    (h : ∀ w', Fr a g w0 s (o1 :: o2_ :: ⟨b, cs', T⟩ :: os) vs w' → wpList P ops Q rest act w') : wpList P ops Q (o :: rest) act W := Fr.putE [o1, o2_] F cs' hgd hN hrun hk hb h
theorem Fr.p4 (F : Fr a g w0 s (o1 :: o2_ :: o3_ :: ⟨b, cs, T⟩ :: os) vs W) (hgd : o.guard = none) (hN : o.dst = none) (hrun : (execOp act.eval o).run P W = .ok .skip W1) (hk : Chg b W W1) (hb : W.heap[b]? = some (.cells cs T (0, 0)) → W1.heap[b]? = some (.cells cs' T (0, 0)))
    (h : ∀ w', Fr a g w0 s (o1 :: o2_ :: o3_ :: ⟨b, cs', T⟩ :: os) vs w' → wpList P ops Q rest act w') : wpList P ops Q (o :: rest) act W := Fr.putE [o1, o2_, o3_] F cs' hgd hN hrun hk hb h
end
theorem Fr.setsAt {a : GA} {g : Nat} {w0 w w' : World} {s : PS} {os : List Ow} {vs : List Vl} (l1 : List Ow) {b : Nat} {cs : List Value} {T : TypeId} (us : List Value) (F : Fr a g w0 s (l1 ++ ⟨b, cs.toArray, T⟩ :: os) vs w) (hl : us.length = cs.length) (hw : w' = setAll b 0 us w) : Fr a g w0 s (l1 ++ ⟨b, us.toArray, T⟩ :: os) vs w' := by
  subst hw
  exact F.putAt l1 (setAll_chg b us 0 w) (whole_set us hl (F.own _ (List.mem_append_right _ (.head _))).1)
section
variable {b : Nat} {o1 o2_ o3_ : Ow} {cs : List Value} {T : TypeId} (us : List Value)
theorem Fr.s1 (F : Fr a g w0 s (⟨b, cs.toArray, T⟩ :: os) vs W) (hgd : o.guard = none) (hN : o.dst = none) (hrun : (execOp act.eval o).run P W = .ok .skip (setAll b 0 us W)) (hl : us.length = cs.length)
    (h : ∀ w', Fr a g w0 s (⟨b, us.toArray, T⟩ :: os) vs w' → wpList P ops Q rest act w') : wpList P ops Q (o :: rest) act W := F.putE [] _ hgd hN hrun (setAll_chg b us 0 W) (whole_set us hl) h
theorem Fr.s2 (F : Fr a g w0 s (o1 :: ⟨b, cs.toArray, T⟩ :: os) vs W) (hgd : o.guard = none) (hN : o.dst = none) (hrun : (execOp act.eval o).run P W = .ok .skip (setAll b 0 us W)) (hl : us.length = cs.length)
    (h : ∀ w', Fr a g w0 s (o1 :: ⟨b, us.toArray, T⟩ :: os) vs w' → wpList P ops Q rest act w') : wpList P ops Q (o :: rest) act W := Fr.putE [o1] F _ hgd hN hrun (setAll_chg b us 0 W) (whole_set us hl) h
theorem Fr.s3 (F : Fr a g w0 s (o1 :: o2_ :: ⟨b, cs.toArray, T⟩ :: os) vs W) (hgd : o.guard = none) (hN : o.dst = none) (hrun : (execOp act.eval o).run P W = .ok .skip (setAll b 0 us W)) (hl : us.length = cs.length)
    (h : ∀ w', Fr a g w0 s (o1 :: o2_ :: ⟨b, us.toArray, T⟩ :: os) vs w' → wpList P ops Q rest act w') : wpList P ops Q (o :: rest) act W := Fr.putE [o1, o2_] F _ hgd hN hrun (setAll_chg b us 0 W) (whole_set us hl) h
theorem Fr.s4 (F : Fr a g w0 s (o1 :: o2_ :: o3_ :: ⟨b, cs.toArray, T⟩ :: os) vs W) (hgd : o.guard = none) (hN : o.dst = none) (hrun : (execOp act.eval o).run P W = .ok .skip (setAll b 0 us W)) (hl : us.length = cs.length)
    (h : ∀ w', Fr a g w0 s (o1 :: o2_ :: o3_ :: ⟨b, us.toArray, T⟩ :: os) vs w' → wpList P ops Q rest act w') : wpList P ops Q (o :: rest) act W := Fr.putE [o1, o2_, o3_] F _ hgd hN hrun (setAll_chg b us 0 W) (whole_set us hl) h
end
/-- A row of the call's own that grows: append(v, x), in a region that draws. -/
theorem Fr.appS {α : Type} (d : Kd α) {e : TypeId} {ok1 okp : Nat → Prop} {v : Value} {xs : List α} {Kc : Act → World → Prop} (F : Fr a g w0 s os (⟨ok1, fun W => Kd.N d e W w0.heap.size ok1 v xs⟩ :: vs) W) (hw : Region.wanted o (yielded ops act.tmps) = true)
    (s' x : Operand) (t : TypeId) (z : Value) (bytes : Nat) (ho : o.op = .call { callee := .builtin .append, args := #[s', x], argTypes := #[t, t] })
    (ht : P.underlying t = some (.slice e)) (hinfo : (P.info? e).map (fun i => (i.zero, i.size, i.bytes)) = some (some z, d.sz, bytes)) (hz : z.cells.size = d.sz) (hs0 : 0 < d.sz) (hb0 : 0 < bytes)
    (p : α) (cs : List Value) (hs : act.eval s' = v) (hx : act.eval x = .slice (some ⟨W.heap.size, 0, none⟩) 1 1) (hp : Kd.FK d W okp p cs) (hokp : ∀ k, okp k → (w0.heap.size ≤ k ∧ k < W.heap.size ∧ ∀ o, o ∈ os → k ≠ o.b) ∧ ¬ ok1 k)
    (hdis : ∀ u, u ∈ vs → ∀ k, u.ok k → ¬ ok1 k) (hl : (xs.length + 1) * bytes ≤ 140737488355328)
    (h : ∀ v1 w1 ok', Fr a g w0 s os (⟨ok', fun W => Kd.N d e W w0.heap.size ok' v1 (xs ++ [p])⟩ :: vs) w1 → (∀ k, ok' k → ok1 k ∨ okp k ∨ W.heap.size ≤ k) → Kc (act.put o.dst v1) w1) :
    if Region.wanted o (yielded ops act.tmps) = true then Oper.wp P o act (W.alloc (.cells cs.toArray e)) Kc Q else Kc (act.put o.dst undef) (W.alloc (.cells cs.toArray e)) := by
  have hN := F.n1
  have hv := F.val _ (.head _)
  have hnov : ∀ k, v.ownBlock = some k → ok1 k := hN.1
  refine Kd.N_append_step d (w0 := W) w0.heap.size hw s' x t e z bytes ho ht hinfo hz hs0 hb0 v xs p cs (fun k => ok1 k ∨ okp k ∨ W.heap.size ≤ k) okp hs hx hp (fun k hk => ⟨.inr (.inl hk), fun he => (hokp k hk).2 (hnov k he.symm)⟩) (fun k hk => .inr (.inr hk)) (Kd.N_mono hN (fun k hk => .inl hk)) (Below.refl _ _) F.ch.size hl ?_
  intro v1 w1 hn hb hg hat
  refine h v1 w1 (fun k => (ok1 k ∨ okp k ∨ W.heap.size ≤ k) ∧ k < w1.heap.size) ⟨F.g0, F.ch.thenB hb, F.ps.thenB hb F.g0, fun o ho => ⟨(hg.block o.b (blk_lt (F.own o ho).1) (fun he => (hv.2 o.b (hnov _ he.symm)).2.2 o ho rfl)).trans (F.own o ho).1, (F.own o ho).2⟩, F.apart, fun u hu => ?_⟩ (fun k hk => hk.1)
  rcases List.mem_cons.1 hu with rfl | hu
  · refine ⟨fun W' hW => Kd.N_step (Kd.N_bound hn) hW, fun k hk => ?_⟩
    rcases hk.1 with h1 | h1 | h1
    · exact ⟨(hv.2 k h1).1, hk.2, (hv.2 k h1).2.2⟩
    · exact ⟨(hokp k h1).1.1, hk.2, (hokp k h1).1.2.2⟩
    · exact ⟨Nat.le_trans F.ch.size h1, hk.2, fun o ho he => Nat.lt_irrefl _ (Nat.lt_of_lt_of_le (blk_lt (F.own o ho).1) (he ▸ h1))⟩
  · have hF := F.val u (List.mem_cons_of_mem _ hu)
    exact ⟨Foot.step hF.1 (fun k hk hlt => hg.block k hlt (fun he => hdis u hu k hk (hnov _ he.symm))), fun k hk => ⟨(hF.2 k hk).1, Nat.lt_of_lt_of_le (hF.2 k hk).2.1 hb.size, (hF.2 k hk).2.2⟩⟩
theorem Fr.rowNil {α : Type} (d : Kd α) (e : TypeId) (F : Fr a g w0 s os vs W) : Fr a g w0 s os (⟨fun _ => False, fun W => Kd.N d e W w0.heap.size (fun _ => False) (.slice none 0 0) []⟩ :: vs) W := ⟨F.g0, F.ch, F.ps, F.own, F.apart, fun v hv => by
  rcases List.mem_cons.1 hv with rfl | hv
  · exact ⟨fun W' _ => Kd.N_nil _ _ _ _ _, fun k hk => hk.elim⟩
  · exact F.val v hv⟩
theorem Fr.rowRead {α : Type} {d : Kd α} {e n c : Nat} {A : Option Addr} {ok : Nat → Prop} {xs : List α} (F : Fr a g w0 s os (⟨ok, fun W => Kd.N d e W w0.heap.size ok (.slice A n c) xs⟩ :: vs) W) : Fr a g w0 s os (⟨ok, fun W => xs.length ≤ c ∧ d.C W A xs.length xs⟩ :: vs) W :=
  F.mapv (Foot.imp (F.val _ (.head _)).1 (fun W' h => (⟨(Kd.N_reads' h).1 ▸ (Kd.N_reads' h).2.1, (Kd.N_reads' h).2.2⟩ : xs.length ≤ c ∧ d.C W' A xs.length xs)))
end
end Go.Proofs.YtgenlgfbjlclbaaDoor
