/- Worlds that part in one block: what a store into a block of the call's own leaves, as an event with a letter for the new world. -/
import Derived.Test.YtgenlgfbjlclbaaDoorKinds
namespace Go.Proofs.YtgenlgfbjlclbaaDoor
open Go.RowKit Go.Proofs.YtgenlgfbjlclbaaDoorW.PrintWords Go.Proofs.YtgenlgfbjlclbaaDoorW.PrintLast Go.Proofs.YtgenlgfbjlclbaaDoorW.PrintMore
set_option linter.unusedVariables false
set_option linter.unusedSimpArgs false

/-- w' is w but for what block g holds, and for new blocks. -/
structure Chg (g : Nat) (w w' : World) : Prop where
  os : w'.os = w.os
  tape : w'.tape = w.tape
  output : w'.output = w.output
  size : w.heap.size ≤ w'.heap.size
  block : ∀ k, k < w.heap.size → k ≠ g → w'.heap[k]? = w.heap[k]?
theorem Chg.refl (g : Nat) (w : World) : Chg g w w := ⟨rfl, rfl, rfl, Nat.le_refl _, fun _ _ _ => rfl⟩
theorem Chg.trans {g : Nat} {a b c : World} (h : Chg g a b) (k : Chg g b c) : Chg g a c :=
  ⟨k.os.trans h.os, k.tape.trans h.tape, k.output.trans h.output, Nat.le_trans h.size k.size, fun i hi hg => (k.block i (Nat.lt_of_lt_of_le hi h.size) hg).trans (h.block i hi hg)⟩
theorem Chg.set {g : Nat} {w w1 : World} (h : Chg g w w1) (j : Nat) (u : Value) : Chg g w (w1.setCell ⟨g, j, none⟩ u) :=
  h.trans ⟨rfl, rfl, rfl, by simp [World.setCell], fun k _ hk => Below.heap_setCell _ ⟨g, j, none⟩ u k hk⟩
theorem Chg.of_below {g : Nat} {w w1 : World} (h : Below w.heap.size w w1) : Chg g w w1 := ⟨h.os, h.tape, h.output, h.size, fun k hk _ => h.block k hk⟩
/-- Blocks made since are written: nothing elder has turned. -/
theorem below_chg {B g : Nat} {w w1 w2 : World} (h : Below B w w1) (hB : B ≤ w1.heap.size) (hg : B ≤ g) (k : Chg g w1 w2) : Below B w w2 :=
  h.trans ⟨k.os, k.tape, k.output, k.size, fun i hi => k.block i (by omega) (by omega)⟩
theorem Chg.blk {g g' : Nat} {w w1 : World} {o : Obj} (h : Chg g w w1) (hb : w.heap[g']? = some o) (hne : g' ≠ g) : w1.heap[g']? = some o := (h.block g' (blk_lt hb) hne).trans hb
theorem Chg.cell {g : Nat} {w w1 : World} {a : Addr} {v : Value} (h : Chg g w w1) (hc : w.cell? a = some v) (hne : a.block ≠ g) : w1.cell? a = some v :=
  (World.cell?_of_block (w := w) (h.block a.block (World.block_lt_of_cell? w a hc) hne)).trans hc
theorem Chg.R {α : Type} {d : Kd α} {e : Nat} {w w1 : World} {base g : Nat} {ok : Nat → Prop} {v : Value} {xs : List α} (k : Chg g w w1) (h : d.R e w base ok v xs) (hok : ∀ k, ok k → k ≠ g) : d.R e w1 base ok v xs :=
  Kd.R_step h (fun i ho hi => k.block i hi (hok i ho))
theorem Chg.M {α : Type} {d : Kd α} {w w1 : World} {base g : Nat} {ok : Nat → Prop} {x : α} {cs : List Value} (k : Chg g w w1) (h : d.M w base ok x cs) (hok : ∀ k, ok k → k ≠ g) : d.M w1 base ok x cs :=
  Kd.M_step h (fun i ho hi => k.block i hi (hok i ho))

section
variable {P : Program} {ops : Array Oper} {rest : List Oper} {o : Oper} {a : Act} {Q : Exit → Act → World → Prop}
/-- A store into block g, whose cells are known. -/
theorem put_event {W w1 : World} (hgd : o.guard = none) {t : TypeId} {p : Tmp} {v : Operand} (_ho : o.op = .store t (.tmp p) v) (hN : o.dst = none) {g : Nat} {cs : Array Value} {T : TypeId}
    (hrun : (execOp a.eval o).run P W = .ok .skip w1) (hk : Chg g W w1) (hb : w1.heap[g]? = some (.cells cs T (0, 0)))
    (h : ∀ w', Chg g W w' → w'.heap[g]? = some (.cells cs T (0, 0)) → wpList P ops Q rest a w') : wpList P ops Q (o :: rest) a W := by
  refine wpList_plain hgd fun K hK => ?_
  unfold Oper.wp
  rw [hrun]
  show K (a.put o.dst undef) w1
  rw [hN]
  exact hK _ _ (h _ hk hb)
end

/-- A literal row, just made, reads as its elements. -/
theorem lit_C {α : Type} (d : Kd α) (e : Nat) (W : World) {ps : List α} {inner : List Value} (hr : Reps (d.K W) d.sz ps inner) (hm : ps.length ≤ 9223372036854775807) :
    d.C (W.alloc (.cells inner.toArray e)) (some ⟨W.heap.size, 0, none⟩) ps.length ps := by
  obtain ⟨A, c, he, hl, h⟩ := (OwnRow.lit (e := e) W W.heap.size hr (Nat.le_refl _) hm).reads
  injection he with h1 h2 h3
  subst h1
  exact h.imp_ (Below.refl _ _) (fun _ _ hp => d.K_below ((Below.refl _ _).alloc (Nat.le_refl _) _) hp)
section
variable {P : Program} {ops : Array Oper} {rest : List Oper} {o o2 : Oper} {a : Act} {Q : Exit → Act → World → Prop}
/-- A variable that is made and filled: two operations, one letter. -/
theorem var_event {W W1 : World} (hgd : o.guard = none) {N : Tmp} (hd : o.dst = some N) (hgd2 : o2.guard = none) (hd2 : o2.dst = none) {cs : Array Value} {t : TypeId}
    (hrun : (execOp a.eval o).run P W = .ok (.value (.pointer (some ⟨W.heap.size, 0, none⟩))) W1)
    (hrun2 : (execOp (a.put (some N) (.pointer (some ⟨W.heap.size, 0, none⟩))).eval o2).run P W1 = .ok .skip (W.alloc (.cells cs t (0, 0))))
    (h : ∀ g, W.heap.size ≤ g → ∀ w1, w1.heap[g]? = some (.cells cs t (0, 0)) → Below W.heap.size W w1 → wpList P ops Q rest (a.put (some N) (.pointer (some ⟨g, 0, none⟩))) w1) : wpList P ops Q (o :: o2 :: rest) a W := by
  refine Kd.event_run hgd hrun ?_
  rw [hd]
  refine wpList_plain hgd2 fun K hK => ?_
  unfold Oper.wp
  rw [hrun2]
  show K ((a.put (some N) _).put o2.dst undef) _
  rw [hd2]
  exact hK _ _ (h _ (Nat.le_refl _) _ (blk_new W _) (below_alloc (Below.refl _ _) _))
/-- A literal of one element that is only read from then on. -/
theorem lit1_event {α : Type} {W : World} (hgd : o.guard = none) {N : Tmp} (hd : o.dst = some N) (d : Kd α) (e : Nat) (x : α) (cs : List Value) (hx : d.K W x cs)
    (hrun : (execOp a.eval o).run P W = .ok (.value (.slice (some ⟨W.heap.size, 0, none⟩) 1 1)) (W.alloc (.cells cs.toArray e)))
    (h : ∀ g, ∀ w1, d.C w1 (some ⟨g, 0, none⟩) 1 [x] → Below W.heap.size W w1 → wpList P ops Q rest (a.put (some N) (.slice (some ⟨g, 0, none⟩) 1 1)) w1) : wpList P ops Q (o :: rest) a W := by
  refine Kd.event_run hgd hrun ?_
  rw [hd]
  have hr : Reps (d.K W) d.sz [x] cs := by
    have := Reps.snoc (Reps.none (d.K W) d.sz) hx (d.K_len hx)
    simpa using this
  exact h _ _ (lit_C d e W hr (by simp)) (below_alloc (Below.refl _ _) _)
end
end Go.Proofs.YtgenlgfbjlclbaaDoor
