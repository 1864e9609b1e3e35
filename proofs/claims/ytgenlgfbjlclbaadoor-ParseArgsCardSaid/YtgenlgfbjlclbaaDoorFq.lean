/- A frame: what a walk knows of the world, in one: the blocks of the call's own with their cells, the values that are only read; how it goes over each event. -/
import Derived.Test.YtgenlgfbjlclbaaDoorMem
namespace Go.Proofs.YtgenlgfbjlclbaaDoor
open Go.RowKit Go.Proofs.YtgenlgfbjlclbaaDoorW.PrintWords Go.Proofs.YtgenlgfbjlclbaaDoorW.PrintLast Go.Proofs.YtgenlgfbjlclbaaDoorW.PrintMore
set_option linter.unusedVariables false
set_option linter.unusedSimpArgs false

/-- A block of the call's own. -/
structure Ow where
  b : Nat
  cs : Array Value
  T : TypeId
/-- What is read in the blocks ok. -/
structure Vl where
  ok : Nat → Prop
  P : World → Prop
theorem cl_of {w : World} {b : Nat} {cs : Array Value} {T : TypeId} (h : w.heap[b]? = some (.cells cs T (0, 0))) : (∀ i, w.cell? ⟨b, i, none⟩ = cs[i]?) ∧ ∀ i, w.frozen? ⟨b, i, none⟩ = false := ⟨blk_cell h, blk_frozen h⟩
section
variable {w : World}
/-- What holds in every world. -/
theorem foot_all {P : World → Prop} (h : ∀ W, P W) {ok : Nat → Prop} : Foot P w ok := fun W' _ => h W'
theorem foot_two {P Q R : World → Prop} {ok : Nat → Prop} (h1 : Foot P w ok) (h2 : Foot Q w ok) (h : ∀ W, P W → Q W → R W) : Foot R w ok := fun W' hW => h W' (h1 W' hW) (h2 W' hW)
theorem foot_three {P Q S R : World → Prop} {ok : Nat → Prop} (h1 : Foot P w ok) (h2 : Foot Q w ok) (h3 : Foot S w ok) (h : ∀ W, P W → Q W → S W → R W) : Foot R w ok := fun W' hW => h W' (h1 W' hW) (h2 W' hW) (h3 W' hW)
end
theorem reps2 {α : Type} {d : Kd α} {R : α → List Value → Prop} {x y : α} {c1 c2 : List Value} (h1 : R x c1) (h2 : R y c2) (l1 : c1.length = d.sz) (l2 : c2.length = d.sz) : Reps R d.sz [x, y] (c1 ++ c2) :=
  Reps.snoc (ps := [x]) (cs := c1) (by have := Reps.snoc (Reps.none R d.sz) h1 l1; simpa using this) h2 l2
theorem reps1 {α : Type} {d : Kd α} {R : α → List Value → Prop} {x : α} {c1 : List Value} (h1 : R x c1) (l1 : c1.length = d.sz) : Reps R d.sz [x] c1 := by have := Reps.snoc (Reps.none R d.sz) h1 l1; simpa using this
/-- A row of cells, stored one behind the other. -/
def setAll (b : Nat) : Nat → List Value → World → World
  | _, [], W => W
  | j, v :: r, W => setAll b (j + 1) r (W.setCell ⟨b, j, none⟩ v)
theorem setAll_chg (b : Nat) : ∀ (vs : List Value) (j : Nat) (W : World), Chg b W (setAll b j vs W)
  | [], _, W => Chg.refl b W
  | v :: r, j, W => ((Chg.refl b W).set j v).trans (setAll_chg b r (j + 1) _)
theorem setAll_blk (b : Nat) (T : TypeId) : ∀ (vs pre post : List Value) (W : World), W.heap[b]? = some (.cells (pre ++ post).toArray T (0, 0)) → vs.length = post.length → (setAll b pre.length vs W).heap[b]? = some (.cells (pre ++ vs).toArray T (0, 0))
  | [], pre, post, W, h, hl => by
    obtain rfl : post = [] := List.length_eq_zero_iff.1 hl.symm
    exact h
  | v :: r, pre, post, W, h, hl => by
    obtain ⟨u, q, rfl⟩ : ∃ u q, post = u :: q := by
      cases post with
      | nil => cases hl
      | cons u q => exact ⟨u, q, rfl⟩
    have h1 := blk_put h pre.length v (cs' := ((pre ++ [v]) ++ q).toArray) (by simp)
    have h2 := setAll_blk b T r (pre ++ [v]) q _ h1 (by simpa using hl)
    simpa [setAll] using h2
/-- A whole struct is stored. -/
theorem whole_set {b : Nat} {cs : List Value} {T : TypeId} (vs : List Value) {W : World} (hl : vs.length = cs.length) (h : W.heap[b]? = some (.cells cs.toArray T (0, 0))) : (setAll b 0 vs W).heap[b]? = some (.cells vs.toArray T (0, 0)) :=
  setAll_blk b T vs [] cs W h hl
section
variable {P : Program} {ops : Array Oper} {rest : List Oper} {o o2 : Oper} {act : Act} {Q : Exit → Act → World → Prop}
/-- A literal row that is only read from then on. -/
theorem litF_event {α : Type} (d : Kd α) (e : Nat) {W : World} (hgd : o.guard = none) {N : Tmp} (hd : o.dst = some N) (okp : Nat → Prop) (xs : List α) (inner : List Value)
    (hrun : (execOp act.eval o).run P W = .ok (.value (.slice (some ⟨W.heap.size, 0, none⟩) xs.length xs.length)) (W.alloc (.cells inner.toArray e)))
    (hrep : Reps (Kd.FK d W okp) d.sz xs inner) (hm : xs.length ≤ 9223372036854775807)
    (h : ∀ A c w1, xs.length ≤ c → Kd.F d w1 (fun k => okp k ∨ W.heap.size ≤ k) A xs.length xs → Below W.heap.size W w1 → wpList P ops Q rest (act.put (some N) (.slice A xs.length c)) w1) : wpList P ops Q (o :: rest) act W := by
  refine Kd.N_lit d (w0 := W) W.heap.size e hgd hd (ok := fun k => okp k ∨ W.heap.size ≤ k) hrun hrep (fun k hk => .inl hk) (.inr (Nat.le_refl _)) (Below.refl _ _) (Nat.le_refl _) hm ?_
  intro v1 w1 hn hb _ _
  obtain ⟨A, c, rfl⟩ := Kd.N_slice hn
  rw [hd]
  exact h A c w1 (Kd.N_reads' hn).2.1 (Kd.N_F hn) hb
end
structure Fq (B : Nat → Prop) (w0 : World) (os : List Ow) (vs : List Vl) (w : World) : Prop where
  bl : Below w0.heap.size w0 w
  bb : ∀ k, w0.heap.size ≤ k → B k
  own : ∀ o, o ∈ os → w.heap[o.b]? = some (.cells o.cs o.T (0, 0)) ∧ w0.heap.size ≤ o.b
  apart : os.Pairwise (fun o p => o.b ≠ p.b)
  val : ∀ v, v ∈ vs → Foot v.P w v.ok ∧ ∀ k, v.ok k → B k ∧ k < w.heap.size ∧ ∀ o, o ∈ os → k ≠ o.b

section
variable {B : Nat → Prop} {w0 w w' : World} {os : List Ow} {vs : List Vl}
theorem Fq.start (B : Nat → Prop) (bb : ∀ k, w.heap.size ≤ k → B k) : Fq B w [] [] w :=
  ⟨Below.refl _ _, bb, fun _ h => (by cases h), List.Pairwise.nil, fun _ h => (by cases h)⟩
/-- A value that came in. -/
theorem Fq.came {P : World → Prop} (F : Fq B w [] vs w) {ok : Nat → Prop} (h : Foot P w ok) (hB : ∀ k, ok k → B k) : ∃ ok, Fq B w [] (⟨ok, P⟩ :: vs) w :=
  ⟨fun k => ok k ∧ k < w.heap.size, F.bl, F.bb, F.own, F.apart, fun v hv => by
    rcases List.mem_cons.1 hv with rfl | hv
    · exact ⟨Foot.bound h, fun k hk => ⟨hB k hk.1, hk.2, fun o ho => (by cases ho)⟩⟩
    · exact F.val v hv⟩
theorem Fq.below (F : Fq B w0 os vs w) (hb : Below w.heap.size w w') : Fq B w0 os vs w' :=
  ⟨F.bl.trans ⟨hb.os, hb.tape, hb.output, hb.size, fun k hk => hb.block k (Nat.lt_of_lt_of_le hk F.bl.size)⟩, F.bb, fun o ho => ⟨blk_below (F.own o ho).1 hb, (F.own o ho).2⟩, F.apart,
    fun v hv => ⟨Foot.step (F.val v hv).1 (fun k _ hlt => hb.block k hlt), fun k hk => ⟨((F.val v hv).2 k hk).1, Nat.lt_of_lt_of_le ((F.val v hv).2 k hk).2.1 hb.size, ((F.val v hv).2 k hk).2.2⟩⟩⟩
/-- A new block. -/
theorem Fq.box (F : Fq B w0 os vs w) {b : Nat} {cs : Array Value} {T : TypeId} (hb : Below w.heap.size w w') (hge : w.heap.size ≤ b) (h : w'.heap[b]? = some (.cells cs T (0, 0))) : Fq B w0 (⟨b, cs, T⟩ :: os) vs w' := by
  have F' := F.below hb
  refine ⟨F'.bl, F'.bb, fun o ho => ?_, List.pairwise_cons.2 ⟨fun o ho => ?_, F.apart⟩, fun v hv => ⟨(F'.val v hv).1, fun k hk => ⟨((F'.val v hv).2 k hk).1, ((F'.val v hv).2 k hk).2.1, fun o ho => ?_⟩⟩⟩
  · rcases List.mem_cons.1 ho with rfl | ho
    · exact ⟨h, Nat.le_trans F.bl.size hge⟩
    · exact F'.own o ho
  · exact fun (he : b = o.b) => Nat.lt_irrefl _ (Nat.lt_of_lt_of_le (blk_lt (F.own o ho).1) (he ▸ hge))
  · rcases List.mem_cons.1 ho with rfl | ho
    · exact fun he => Nat.lt_irrefl _ (Nat.lt_of_lt_of_le ((F.val v hv).2 k hk).2.1 (he ▸ hge))
    · exact ((F.val v hv).2 k hk).2.2 o ho
/-- A value that lies in blocks made since. -/
theorem Fq.more (F : Fq B w0 os vs w) (hb : Below w.heap.size w w') {P : World → Prop} (h : Foot P w' (fun k => w.heap.size ≤ k)) : ∃ ok, Fq B w0 os (⟨ok, P⟩ :: vs) w' := by
  have F' := F.below hb
  refine ⟨fun k => w.heap.size ≤ k ∧ k < w'.heap.size, F'.bl, F'.bb, F'.own, F'.apart, fun v hv => ?_⟩
  rcases List.mem_cons.1 hv with rfl | hv
  · exact ⟨Foot.bound h, fun k hk => ⟨F.bb k (Nat.le_trans F.bl.size hk.1), hk.2, fun o ho he => Nat.lt_irrefl _ (Nat.lt_of_lt_of_le (blk_lt (F.own o ho).1) (he ▸ hk.1))⟩⟩
  · exact F'.val v hv
/-- A value's place is taken by another one, made of it and of new blocks. -/
theorem Fq.turn {ok : Nat → Prop} {P P' : World → Prop} (F : Fq B w0 os (⟨ok, P⟩ :: vs) w) (hb : Below w.heap.size w w') (h : Foot P' w' (fun k => ok k ∨ w.heap.size ≤ k)) : ∃ ok', Fq B w0 os (⟨ok', P'⟩ :: ⟨ok, P⟩ :: vs) w' := by
  have F' := F.below hb
  refine ⟨fun k => (ok k ∨ w.heap.size ≤ k) ∧ k < w'.heap.size, F'.bl, F'.bb, F'.own, F'.apart, fun v hv => ?_⟩
  rcases List.mem_cons.1 hv with rfl | hv
  · refine ⟨Foot.bound h, fun k hk => ?_⟩
    rcases hk.1 with h1 | h1
    · exact (F'.val _ (List.mem_cons_self ..)).2 k h1
    · exact ⟨F.bb k (Nat.le_trans F.bl.size h1), hk.2, fun o ho he => Nat.lt_irrefl _ (Nat.lt_of_lt_of_le (blk_lt (F.own o ho).1) (he ▸ h1))⟩
  · exact F'.val v hv
theorem Fq.turn2 {ok1 ok2 : Nat → Prop} {P1 P2 P' : World → Prop} (F : Fq B w0 os (⟨ok1, P1⟩ :: ⟨ok2, P2⟩ :: vs) w) (hb : Below w.heap.size w w') (h : Foot P' w' (fun k => (ok1 k ∨ ok2 k) ∨ w.heap.size ≤ k)) : ∃ ok', Fq B w0 os (⟨ok', P'⟩ :: ⟨ok1, P1⟩ :: ⟨ok2, P2⟩ :: vs) w' := by
  have F' := F.below hb
  refine ⟨fun k => ((ok1 k ∨ ok2 k) ∨ w.heap.size ≤ k) ∧ k < w'.heap.size, F'.bl, F'.bb, F'.own, F'.apart, fun v hv => ?_⟩
  rcases List.mem_cons.1 hv with rfl | hv
  · refine ⟨Foot.bound h, fun k hk => ?_⟩
    rcases hk.1 with (h1 | h1) | h1
    · exact (F'.val _ (List.mem_cons_self ..)).2 k h1
    · exact (F'.val _ (List.mem_cons_of_mem _ (List.mem_cons_self ..))).2 k h1
    · exact ⟨F.bb k (Nat.le_trans F.bl.size h1), hk.2, fun o ho he => Nat.lt_irrefl _ (Nat.lt_of_lt_of_le (blk_lt (F.own o ho).1) (he ▸ h1))⟩
  · exact F'.val v hv
/-- A store into a block of the call's own. -/
theorem Fq.putAt (l1 : List Ow) {b : Nat} {cs cs' : Array Value} {T : TypeId} (F : Fq B w0 (l1 ++ ⟨b, cs, T⟩ :: os) vs w) (ch : Chg b w w') (hh : w'.heap[b]? = some (.cells cs' T (0, 0))) : Fq B w0 (l1 ++ ⟨b, cs', T⟩ :: os) vs w' := by
  have hm : (⟨b, cs, T⟩ : Ow) ∈ l1 ++ ⟨b, cs, T⟩ :: os := List.mem_append_right _ (List.mem_cons_self ..)
  have hb := (F.own _ hm).2
  have ha := F.apart
  rw [List.pairwise_append, List.pairwise_cons] at ha
  obtain ⟨a1, ⟨a2, a3⟩, a4⟩ := ha
  have hne : ∀ o, o ∈ l1 ++ os → o.b ≠ b := fun o ho => by
    rcases List.mem_append.1 ho with h | h
    · exact a4 o h _ (List.mem_cons_self ..)
    · exact Ne.symm (a2 o h)
  have hold : ∀ o, o ∈ l1 ++ os → o ∈ l1 ++ ⟨b, cs, T⟩ :: os := fun o ho => by
    rcases List.mem_append.1 ho with h | h
    · exact List.mem_append_left _ h
    · exact List.mem_append_right _ (List.mem_cons_of_mem _ h)
  have hcase : ∀ o, o ∈ l1 ++ ⟨b, cs', T⟩ :: os → o = ⟨b, cs', T⟩ ∨ o ∈ l1 ++ os := fun o ho => by
    rcases List.mem_append.1 ho with h | h
    · exact .inr (List.mem_append_left _ h)
    · rcases List.mem_cons.1 h with h | h
      · exact .inl h
      · exact .inr (List.mem_append_right _ h)
  refine ⟨below_chg F.bl F.bl.size hb ch, F.bb, fun o ho => ?_, ?_, fun v hv => ⟨Foot.step (F.val v hv).1 (fun k hk hlt => ch.block k hlt (((F.val v hv).2 k hk).2.2 _ hm)), fun k hk => ⟨((F.val v hv).2 k hk).1, Nat.lt_of_lt_of_le ((F.val v hv).2 k hk).2.1 ch.size, fun o ho => ?_⟩⟩⟩
  · rcases hcase o ho with rfl | h
    · exact ⟨hh, hb⟩
    · exact ⟨ch.blk (F.own o (hold o h)).1 (hne o h), (F.own o (hold o h)).2⟩
  · rw [List.pairwise_append, List.pairwise_cons]
    exact ⟨a1, ⟨a2, a3⟩, fun o ho p hp => by
      rcases List.mem_cons.1 hp with rfl | hp
      · exact a4 o ho ⟨b, cs, T⟩ (List.mem_cons_self ..)
      · exact a4 o ho p (List.mem_cons_of_mem _ hp)⟩
  · rcases hcase o ho with he | h
    · rw [he]; exact ((F.val v hv).2 k hk).2.2 ⟨b, cs, T⟩ hm
    · exact ((F.val v hv).2 k hk).2.2 o (hold o h)
theorem Fq.keep {vs' : List Vl} (F : Fq B w0 os vs w) (h : ∀ v, v ∈ vs' → v ∈ vs) : Fq B w0 os vs' w := ⟨F.bl, F.bb, F.own, F.apart, fun v hv => F.val v (h v hv)⟩
/-- Blocks and values that are no longer looked at. -/
theorem Fq.dropv {v : Vl} (F : Fq B w0 os (v :: vs) w) : Fq B w0 os vs w := ⟨F.bl, F.bb, F.own, F.apart, fun u hu => F.val u (List.mem_cons_of_mem _ hu)⟩
theorem Fq.drop1 {o : Ow} (F : Fq B w0 (o :: os) vs w) : Fq B w0 os vs w :=
  ⟨F.bl, F.bb, fun p hp => F.own p (List.mem_cons_of_mem _ hp), (List.pairwise_cons.1 F.apart).2, fun v hv => ⟨(F.val v hv).1, fun k hk => ⟨((F.val v hv).2 k hk).1, ((F.val v hv).2 k hk).2.1, fun p hp => ((F.val v hv).2 k hk).2.2 p (List.mem_cons_of_mem _ hp)⟩⟩⟩
section
variable {o1 o2 o3 o4 : Ow} {u1 u2 u3 u4 : Vl}
theorem Fq.b1 (F : Fq B w0 (o1 :: os) vs w) : w.heap[o1.b]? = some (.cells o1.cs o1.T (0, 0)) := (F.own _ (.head _)).1
theorem Fq.b2 (F : Fq B w0 (o1 :: o2 :: os) vs w) : w.heap[o2.b]? = some (.cells o2.cs o2.T (0, 0)) := (F.own _ (.tail _ (.head _))).1
theorem Fq.b3 (F : Fq B w0 (o1 :: o2 :: o3 :: os) vs w) : w.heap[o3.b]? = some (.cells o3.cs o3.T (0, 0)) := (F.own _ (.tail _ (.tail _ (.head _)))).1
theorem Fq.b4 (F : Fq B w0 (o1 :: o2 :: o3 :: o4 :: os) vs w) : w.heap[o4.b]? = some (.cells o4.cs o4.T (0, 0)) := (F.own _ (.tail _ (.tail _ (.tail _ (.head _))))).1
theorem Fq.vOf {v : Vl} (F : Fq B w0 os vs w) (h : v ∈ vs) : Foot v.P w B := Foot.mono (F.val v h).1 (fun k hk => ((F.val v h).2 k hk).1)
theorem Fq.v1 (F : Fq B w0 os (u1 :: vs) w) : Foot u1.P w B := F.vOf (.head _)
theorem Fq.v2 (F : Fq B w0 os (u1 :: u2 :: vs) w) : Foot u2.P w B := F.vOf (.tail _ (.head _))
theorem Fq.v3 (F : Fq B w0 os (u1 :: u2 :: u3 :: vs) w) : Foot u3.P w B := F.vOf (.tail _ (.tail _ (.head _)))
end
section
variable {b1 b2 b3 b4 b5 : Nat} {k1 k2 k3 k4 k5 : Array Value} {T1 T2 T3 T4 T5 : TypeId}
theorem Fq.c0 (F : Fq B w0 [] vs w) : True := trivial
theorem Fq.c1 (F : Fq B w0 [⟨b1, k1, T1⟩] vs w) : (∀ i, w.cell? ⟨b1, i, none⟩ = k1[i]?) ∧ ∀ i, w.frozen? ⟨b1, i, none⟩ = false := cl_of F.b1
theorem Fq.c2 (F : Fq B w0 [⟨b1, k1, T1⟩, ⟨b2, k2, T2⟩] vs w) : ((∀ i, w.cell? ⟨b1, i, none⟩ = k1[i]?) ∧ ∀ i, w.frozen? ⟨b1, i, none⟩ = false) ∧ (∀ i, w.cell? ⟨b2, i, none⟩ = k2[i]?) ∧ ∀ i, w.frozen? ⟨b2, i, none⟩ = false := ⟨cl_of F.b1, cl_of F.b2⟩
theorem Fq.c3 (F : Fq B w0 [⟨b1, k1, T1⟩, ⟨b2, k2, T2⟩, ⟨b3, k3, T3⟩] vs w) : ((∀ i, w.cell? ⟨b1, i, none⟩ = k1[i]?) ∧ ∀ i, w.frozen? ⟨b1, i, none⟩ = false) ∧ ((∀ i, w.cell? ⟨b2, i, none⟩ = k2[i]?) ∧ ∀ i, w.frozen? ⟨b2, i, none⟩ = false) ∧ (∀ i, w.cell? ⟨b3, i, none⟩ = k3[i]?) ∧ ∀ i, w.frozen? ⟨b3, i, none⟩ = false := ⟨cl_of F.b1, cl_of F.b2, cl_of F.b3⟩
theorem Fq.c4 (F : Fq B w0 [⟨b1, k1, T1⟩, ⟨b2, k2, T2⟩, ⟨b3, k3, T3⟩, ⟨b4, k4, T4⟩] vs w) : ((∀ i, w.cell? ⟨b1, i, none⟩ = k1[i]?) ∧ ∀ i, w.frozen? ⟨b1, i, none⟩ = false) ∧ ((∀ i, w.cell? ⟨b2, i, none⟩ = k2[i]?) ∧ ∀ i, w.frozen? ⟨b2, i, none⟩ = false) ∧ ((∀ i, w.cell? ⟨b3, i, none⟩ = k3[i]?) ∧ ∀ i, w.frozen? ⟨b3, i, none⟩ = false) ∧ (∀ i, w.cell? ⟨b4, i, none⟩ = k4[i]?) ∧ ∀ i, w.frozen? ⟨b4, i, none⟩ = false := ⟨cl_of F.b1, cl_of F.b2, cl_of F.b3, cl_of F.b4⟩
theorem Fq.c5 (F : Fq B w0 [⟨b1, k1, T1⟩, ⟨b2, k2, T2⟩, ⟨b3, k3, T3⟩, ⟨b4, k4, T4⟩, ⟨b5, k5, T5⟩] vs w) : ((∀ i, w.cell? ⟨b1, i, none⟩ = k1[i]?) ∧ ∀ i, w.frozen? ⟨b1, i, none⟩ = false) ∧ ((∀ i, w.cell? ⟨b2, i, none⟩ = k2[i]?) ∧ ∀ i, w.frozen? ⟨b2, i, none⟩ = false) ∧ ((∀ i, w.cell? ⟨b3, i, none⟩ = k3[i]?) ∧ ∀ i, w.frozen? ⟨b3, i, none⟩ = false) ∧ ((∀ i, w.cell? ⟨b4, i, none⟩ = k4[i]?) ∧ ∀ i, w.frozen? ⟨b4, i, none⟩ = false) ∧ ((∀ i, w.cell? ⟨b5, i, none⟩ = k5[i]?) ∧ ∀ i, w.frozen? ⟨b5, i, none⟩ = false) := ⟨cl_of F.b1, cl_of F.b2, cl_of F.b3, cl_of F.b4, cl_of (F.own _ (.tail _ (.tail _ (.tail _ (.tail _ (.head _)))))).1⟩
end
/-! What calls do. -/
theorem Fq.bc {f : FuncId} {args : Array Value} {E : Ending} (F : Fq B w0 os vs w) (h : Calls Tryd.prog f args w (fun e w' => e = E ∧ Below w.heap.size w w')) : Calls Tryd.prog f args w (fun e w' => e = E ∧ Fq B w0 os vs w') :=
  h.mono (fun _ _ h => ⟨h.1, F.below h.2⟩)
end

/-! Events of a walk. -/
section
variable {P : Program} {ops : Array Oper} {rest : List Oper} {o o2 : Oper} {act : Act} {Q : Exit → Act → World → Prop}
variable {B : Nat → Prop} {w0 W W1 : World} {os : List Ow} {vs : List Vl} {N : Tmp}
theorem Fq.boxE (F : Fq B w0 os vs W) (cs : Array Value) (t : TypeId) (hgd : o.guard = none) (hd : o.dst = some N)
    (hrun : (execOp act.eval o).run P W = .ok (.value (.pointer (some ⟨W.heap.size, 0, none⟩))) (W.alloc (.cells cs t (0, 0))))
    (h : ∀ b w1, Fq B w0 (⟨b, cs, t⟩ :: os) vs w1 → wpList P ops Q rest (act.put o.dst (.pointer (some ⟨b, 0, none⟩))) w1) : wpList P ops Q (o :: rest) act W :=
  box_event hgd hd hrun (fun b hb w1 hh hB => h b w1 (F.box hB (Nat.le_of_eq hb.symm) hh))
theorem Fq.varE (F : Fq B w0 os vs W) (cs : Array Value) (t : TypeId) (hgd : o.guard = none) (hd : o.dst = some N) (hgd2 : o2.guard = none) (hd2 : o2.dst = none)
    (hrun : (execOp act.eval o).run P W = .ok (.value (.pointer (some ⟨W.heap.size, 0, none⟩))) W1)
    (hrun2 : (execOp (act.put (some N) (.pointer (some ⟨W.heap.size, 0, none⟩))).eval o2).run P W1 = .ok .skip (W.alloc (.cells cs t (0, 0))))
    (h : ∀ b w1, Fq B w0 (⟨b, cs, t⟩ :: os) vs w1 → wpList P ops Q rest (act.put (some N) (.pointer (some ⟨b, 0, none⟩))) w1) : wpList P ops Q (o :: o2 :: rest) act W :=
  var_event hgd hd hgd2 hd2 hrun hrun2 (fun b hb w1 hh hB => h b w1 (F.box hB hb hh))
theorem Fq.putE (l1 : List Ow) {b : Nat} {cs : Array Value} {T : TypeId} (F : Fq B w0 (l1 ++ ⟨b, cs, T⟩ :: os) vs W) (cs' : Array Value) (hgd : o.guard = none) (hN : o.dst = none)
    (hrun : (execOp act.eval o).run P W = .ok .skip W1) (hk : Chg b W W1) (hb : W.heap[b]? = some (.cells cs T (0, 0)) → W1.heap[b]? = some (.cells cs' T (0, 0)))
    (h : ∀ w', Fq B w0 (l1 ++ ⟨b, cs', T⟩ :: os) vs w' → wpList P ops Q rest act w') : wpList P ops Q (o :: rest) act W := by
  refine wpList_plain hgd fun K hK => ?_
  unfold Oper.wp
  rw [hrun]
  show K (act.put o.dst undef) W1
  rw [hN]
  exact hK _ _ (h _ (F.putAt l1 hk (hb (F.own _ (List.mem_append_right _ (.head _))).1)))
theorem Fq.litE {α : Type} (d : Kd α) (e : Nat) {ok : Nat → Prop} {P1 : World → Prop} (F : Fq B w0 os (⟨ok, P1⟩ :: vs) W) (xs : List α) (inner : List Value) (hgd : o.guard = none) (hd : o.dst = some N)
    (hrun : (execOp act.eval o).run P W = .ok (.value (.slice (some ⟨W.heap.size, 0, none⟩) xs.length xs.length)) (W.alloc (.cells inner.toArray e)))
    (hrep : Foot P1 W ok → Reps (Kd.FK d W ok) d.sz xs inner) (hm : xs.length ≤ 9223372036854775807)
    (h : ∀ A c w1 ok', Fq B w0 os (⟨ok', fun W => xs.length ≤ c ∧ d.C W A xs.length xs⟩ :: ⟨ok, P1⟩ :: vs) w1 → wpList P ops Q rest (act.put (some N) (.slice A xs.length c)) w1) : wpList P ops Q (o :: rest) act W :=
  litF_event d e hgd hd ok xs inner hrun (hrep (F.val _ (.head _)).1) hm (fun A c w1 hc hf hb => by
    obtain ⟨ok', F'⟩ := F.turn hb (Foot.imp hf (fun W' h => (⟨hc, h⟩ : xs.length ≤ c ∧ d.C W' A xs.length xs)))
    exact h A c w1 ok' F')
theorem Fq.lit2E {α : Type} (d : Kd α) (e : Nat) {ok1 ok2 : Nat → Prop} {P1 P2 : World → Prop} (F : Fq B w0 os (⟨ok1, P1⟩ :: ⟨ok2, P2⟩ :: vs) W) (xs : List α) (inner : List Value) (hgd : o.guard = none) (hd : o.dst = some N)
    (hrun : (execOp act.eval o).run P W = .ok (.value (.slice (some ⟨W.heap.size, 0, none⟩) xs.length xs.length)) (W.alloc (.cells inner.toArray e)))
    (hrep : Foot P1 W (fun k => ok1 k ∨ ok2 k) → Foot P2 W (fun k => ok1 k ∨ ok2 k) → Reps (Kd.FK d W (fun k => ok1 k ∨ ok2 k)) d.sz xs inner) (hm : xs.length ≤ 9223372036854775807)
    (h : ∀ A c w1 ok', Fq B w0 os (⟨ok', fun W => xs.length ≤ c ∧ d.C W A xs.length xs⟩ :: ⟨ok1, P1⟩ :: ⟨ok2, P2⟩ :: vs) w1 → wpList P ops Q rest (act.put (some N) (.slice A xs.length c)) w1) : wpList P ops Q (o :: rest) act W :=
  litF_event d e hgd hd (fun k => ok1 k ∨ ok2 k) xs inner hrun (hrep (Foot.mono (F.val _ (.head _)).1 (fun _ => .inl)) (Foot.mono (F.val _ (.tail _ (.head _))).1 (fun _ => .inr))) hm (fun A c w1 hc hf hb => by
    obtain ⟨ok', F'⟩ := F.turn2 hb (Foot.imp hf (fun W' h => (⟨hc, h⟩ : xs.length ≤ c ∧ d.C W' A xs.length xs)))
    exact h A c w1 ok' F')
section
variable {b : Nat} {o1 o2_ o3_ : Ow} {cs : Array Value} {T : TypeId} (cs' : Array Value)
theorem Fq.p1 (F : Fq B w0 (⟨b, cs, T⟩ :: os) vs W) (hgd : o.guard = none) (hN : o.dst = none) (hrun : (execOp act.eval o).run P W = .ok .skip W1) (hk : Chg b W W1) (hb : W.heap[b]? = some (.cells cs T (0, 0)) → W1.heap[b]? = some (.cells cs' T (0, 0)))
    (h : ∀ w', Fq B w0 (⟨b, cs', T⟩ :: os) vs w' → wpList P ops Q rest act w') : wpList P ops Q (o :: rest) act W := F.putE [] cs' hgd hN hrun hk hb h
theorem Fq.p2 (F : Fq B w0 (o1 :: ⟨b, cs, T⟩ :: os) vs W) (hgd : o.guard = none) (hN : o.dst = none) (hrun : (execOp act.eval o).run P W = .ok .skip W1) (hk : Chg b W W1) (hb : W.heap[b]? = some (.cells cs T (0, 0)) → W1.heap[b]? = some (.cells cs' T (0, 0)))
    (h : ∀ w', Fq B w0 (o1 :: ⟨b, cs', T⟩ :: os) vs w' → wpList P ops Q rest act w') : wpList P ops Q (o :: rest) act W := Fq.putE [o1] F cs' hgd hN hrun hk hb h
theorem Fq.p3 (F : Fq B w0 (o1 :: o2_ :: ⟨b, cs, T⟩ :: os) vs W) (hgd : o.guard = none) (hN : o.dst = none) (hrun : (execOp act.eval o).run P W = .ok .skip W1) (hk : Chg b W W1) (hb : W.heap[b]? = some (.cells cs T (0, 0)) → W1.heap[b]? = some (.cells cs' T (0, 0)))
    (h : ∀ w', Fq B w0 (o1 :: o2_ :: ⟨b, cs', T⟩ :: os) vs w' → wpList P ops Q rest act w') : wpList P ops Q (o :: rest) act W := Fq.putE [o1, o2_] F cs' hgd hN hrun hk hb h
theorem Fq.p4 (F : Fq B w0 (o1 :: o2_ :: o3_ :: ⟨b, cs, T⟩ :: os) vs W) (hgd : o.guard = none) (hN : o.dst = none) (hrun : (execOp act.eval o).run P W = .ok .skip W1) (hk : Chg b W W1) (hb : W.heap[b]? = some (.cells cs T (0, 0)) → W1.heap[b]? = some (.cells cs' T (0, 0)))
    (h : ∀ w', Fq B w0 (o1 :: o2_ :: o3_ :: ⟨b, cs', T⟩ :: os) vs w' → wpList P ops Q rest act w') : wpList P ops Q (o :: rest) act W := Fq.putE [o1, o2_, o3_] F cs' hgd hN hrun hk hb h
end
theorem Fq.setsAt {B : Nat → Prop} {w0 w w' : World} {os : List Ow} {vs : List Vl} (l1 : List Ow) {b : Nat} {cs : List Value} {T : TypeId} (us : List Value) (F : Fq B w0 (l1 ++ ⟨b, cs.toArray, T⟩ :: os) vs w) (hl : us.length = cs.length) (hw : w' = setAll b 0 us w) : Fq B w0 (l1 ++ ⟨b, us.toArray, T⟩ :: os) vs w' := by
  subst hw
  exact F.putAt l1 (setAll_chg b us 0 w) (whole_set us hl (F.own _ (List.mem_append_right _ (.head _))).1)
section
variable {b : Nat} {o1 o2_ o3_ : Ow} {cs : List Value} {T : TypeId} (us : List Value)
theorem Fq.s1 (F : Fq B w0 (⟨b, cs.toArray, T⟩ :: os) vs W) (hgd : o.guard = none) (hN : o.dst = none) (hrun : (execOp act.eval o).run P W = .ok .skip (setAll b 0 us W)) (hl : us.length = cs.length)
    (h : ∀ w', Fq B w0 (⟨b, us.toArray, T⟩ :: os) vs w' → wpList P ops Q rest act w') : wpList P ops Q (o :: rest) act W := F.putE [] _ hgd hN hrun (setAll_chg b us 0 W) (whole_set us hl) h
theorem Fq.s2 (F : Fq B w0 (o1 :: ⟨b, cs.toArray, T⟩ :: os) vs W) (hgd : o.guard = none) (hN : o.dst = none) (hrun : (execOp act.eval o).run P W = .ok .skip (setAll b 0 us W)) (hl : us.length = cs.length)
    (h : ∀ w', Fq B w0 (o1 :: ⟨b, us.toArray, T⟩ :: os) vs w' → wpList P ops Q rest act w') : wpList P ops Q (o :: rest) act W := Fq.putE [o1] F _ hgd hN hrun (setAll_chg b us 0 W) (whole_set us hl) h
theorem Fq.s3 (F : Fq B w0 (o1 :: o2_ :: ⟨b, cs.toArray, T⟩ :: os) vs W) (hgd : o.guard = none) (hN : o.dst = none) (hrun : (execOp act.eval o).run P W = .ok .skip (setAll b 0 us W)) (hl : us.length = cs.length)
    (h : ∀ w', Fq B w0 (o1 :: o2_ :: ⟨b, us.toArray, T⟩ :: os) vs w' → wpList P ops Q rest act w') : wpList P ops Q (o :: rest) act W := Fq.putE [o1, o2_] F _ hgd hN hrun (setAll_chg b us 0 W) (whole_set us hl) h
theorem Fq.s4 (F : Fq B w0 (o1 :: o2_ :: o3_ :: ⟨b, cs.toArray, T⟩ :: os) vs W) (hgd : o.guard = none) (hN : o.dst = none) (hrun : (execOp act.eval o).run P W = .ok .skip (setAll b 0 us W)) (hl : us.length = cs.length)
    (h : ∀ w', Fq B w0 (o1 :: o2_ :: o3_ :: ⟨b, us.toArray, T⟩ :: os) vs w' → wpList P ops Q rest act w') : wpList P ops Q (o :: rest) act W := Fq.putE [o1, o2_, o3_] F _ hgd hN hrun (setAll_chg b us 0 W) (whole_set us hl) h
end
end
end Go.Proofs.YtgenlgfbjlclbaaDoor
