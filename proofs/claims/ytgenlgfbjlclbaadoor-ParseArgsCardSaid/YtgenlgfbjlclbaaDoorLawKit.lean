/- What the walks of the laws share: literal rows of plain data. -/
import Derived.Test.YtgenlgfbjlclbaaDoorHead
namespace Go.Proofs.YtgenlgfbjlclbaaDoor
open Go.RowKit Go.Proofs.YtgenlgfbjlclbaaDoorW.PrintWords Go.Proofs.YtgenlgfbjlclbaaDoorW.PrintLast Go.Proofs.YtgenlgfbjlclbaaDoorW.PrintMore
set_option linter.unusedVariables false
set_option linter.unusedSimpArgs false

theorem and_pick (x m : Int) (h0 : 0 ≤ m) (hm : m ≤ 1000) : ∃ p : Nat, bits BinOp.and IntKind.i64 x m = (p : Int) ∧ (p : Int) ≤ m := by
  refine ⟨(BitVec.ofInt 64 x &&& BitVec.ofInt 64 m).toNat, ?_, ?_⟩
  · have h : (BitVec.ofInt 64 x &&& BitVec.ofInt 64 m).toNat ≤ (BitVec.ofInt 64 m).toNat := by rw [BitVec.toNat_and]; exact Nat.and_le_right
    have h2 : (BitVec.ofInt 64 m).toNat = m.toNat := by
      rw [BitVec.toNat_ofInt]
      omega
    show IntKind.i64.wrap (((BitVec.ofInt 64 x &&& BitVec.ofInt 64 m).toNat : Nat) : Int) = _
    rw [i64_w]
    unfold wrap64
    omega
  · have h : (BitVec.ofInt 64 x &&& BitVec.ofInt 64 m).toNat ≤ (BitVec.ofInt 64 m).toNat := by rw [BitVec.toNat_and]; exact Nat.and_le_right
    have h2 : (BitVec.ofInt 64 m).toNat = m.toNat := by
      rw [BitVec.toNat_ofInt]
      omega
    omega
theorem u64_pick (n m : Int) (h0 : 0 < m) (h1 : m ≤ 1000) : ∃ k : Nat, wrap64 ((IntKind.u64.wrap n).tmod m) = (k : Int) ∧ (k : Int) < m := by
  have hu : 0 ≤ IntKind.u64.wrap n := by rw [IntKind.wrap_u64]; exact Int.emod_nonneg _ (by decide)
  have h2 := Int.emod_nonneg (IntKind.u64.wrap n) (show m ≠ 0 by omega)
  have h3 := Int.emod_lt_of_pos (IntKind.u64.wrap n) h0
  rw [Int.tmod_eq_emod_of_nonneg hu]
  exact ⟨((IntKind.u64.wrap n) % m).toNat, by unfold wrap64; omega, by omega⟩
theorem reps_flat {α : Type} {R : α → List Value → Prop} {sz : Nat} (f : α → List Value) (h : ∀ x, R x (f x)) (hl : ∀ x, (f x).length = sz) (xs : List α) : Reps R sz xs (xs.flatMap f) := by
  have key : ∀ (xs pre : List α) (inner : List Value), Reps R sz pre inner → Reps R sz (pre ++ xs) (inner ++ xs.flatMap f) := by
    intro xs
    induction xs with
    | nil => intro pre inner hp; simpa using hp
    | cons x r ih =>
      intro pre inner hp
      have := ih (pre ++ [x]) (inner ++ f x) (Reps.snoc hp (h x) (hl x))
      simpa using this
  simpa using key xs [] [] (Reps.none R sz)
section
variable {P : Program} {ops : Array Oper} {rest : List Oper} {o o2 : Oper} {act : Act} {Q : Exit → Act → World → Prop} {B : Nat → Prop} {w0 W W1 : World} {os : List Ow} {vs : List Vl} {N : Tmp}
/-- A literal row whose elements lead nowhere. -/
theorem Fq.lit0E {α : Type} (d : Kd α) (e : Nat) (F : Fq B w0 os vs W) (xs : List α) (n : Nat) (hn : xs.length = n) (inner : List Value) (hgd : o.guard = none) (hd : o.dst = some N)
    (hrun : (execOp act.eval o).run P W = .ok (.value (.slice (some ⟨W.heap.size, 0, none⟩) n n)) (W.alloc (.cells inner.toArray e)))
    (hrep : Reps (Kd.FK d W (fun _ => False)) d.sz xs inner) (hm : n ≤ 9223372036854775807)
    (h : ∀ A c w1 ok', Fq B w0 os (⟨ok', fun W => n ≤ c ∧ d.C W A n xs⟩ :: vs) w1 → wpList P ops Q rest (act.put (some N) (.slice A n c)) w1) : wpList P ops Q (o :: rest) act W := by
  subst hn
  exact litF_event d e hgd hd (fun _ => False) xs inner hrun hrep hm (fun A c w1 hc hf hb => by
    obtain ⟨ok', F'⟩ := F.more hb (Foot.imp (Foot.mono hf (ok' := fun k => W.heap.size ≤ k) (fun k hk => hk.elim (fun h => h.elim) id)) (fun W' h => (⟨hc, h⟩ : xs.length ≤ c ∧ d.C W' A xs.length xs)))
    exact h A c w1 ok' F')
end
end Go.Proofs.YtgenlgfbjlclbaaDoor
