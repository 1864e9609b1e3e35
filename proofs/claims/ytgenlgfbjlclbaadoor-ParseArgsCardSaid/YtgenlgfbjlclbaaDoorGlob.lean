/- What the listed package-level variables hold, as the walks read it: the operators' signs and the powers of ten. -/
import Derived.Test.YtgenlgfbjlclbaaDoorRows
import Derived.WalkKit
import Derived.ProofKit
import Derived.OpenShut
import Derived.Lib.LaidTab
import Derived.Lib.ItoaNum
namespace Go.Proofs.YtgenlgfbjlclbaaDoor
open Go.RowKit

/-- The signs' texts, as the table holds them. -/
def sgnL : List (List UInt8) := [[], [43], [45], [42], [47], [37], [38], [124], [94], [60, 60], [62, 62], [61, 61], [33, 61], [60], [60, 61]]
def sgn (i : Nat) : ByteArray := ⟨(sgnL.getD i []).toArray⟩

theorem cells_of_strs {H : Type} {enc : TypeId × Value → H} {P : Program} {w : World} {base : Nat} {sp : Nat → Bool} {held : Bool} {fuel : Nat} {t e : TypeId} {n : Nat} {cs : List Value} {zs : List (List UInt8)} {p : List MemPlace}
    (ht : P.underlying t = some (.array n e)) (he : P.underlying e = some .string) (hce : P.cellsOf e = 1) (hct : P.cellsOf t = n)
    (h : DataW.trod enc P w base sp held fuel t cs = some (.agg (zs.map fun z => .lit (.string z)), p)) : cs = zs.map fun z => Value.string ⟨z.toArray⟩ := by
  obtain ⟨xs, m, rfl, hx, hlen, hn, hel⟩ := DataW.trod_array ht h
  simp only [Prod.mk.injEq, DataW.agg.injEq] at hx
  have hzl : zs.length = n := by
    have := congrArg List.length hx.1
    simp at this
    omega
  rw [hct] at hlen
  apply List.ext_getElem?
  intro i
  by_cases hi : i < n
  · have hq := hel i hi
    rw [List.getElem?_eq_getElem (by omega)] at hq
    obtain ⟨s, hc, hs, _⟩ := DataW.trod_string he hq
    have h1 : cs[i]? = some (.string s) := by
      have := congrArg (·[0]?) hc
      rw [hce] at this
      simpa [List.getElem?_take, List.getElem?_drop] using this
    have h2 := congrArg (·[i]?) hx.1
    simp only [List.getElem?_map] at h2
    rw [List.getElem?_eq_getElem (show i < zs.length by omega), List.getElem?_eq_getElem (show i < xs.length by omega), hs] at h2
    simp only [Option.map_some, Option.some.injEq, DataW.lit.injEq, Lit.string.injEq] at h2
    rw [h1, List.getElem?_map, List.getElem?_eq_getElem (show i < zs.length by omega), h2]
    rfl
  · rw [List.getElem?_eq_none (by omega), List.getElem?_eq_none (by simp; omega)]

/-- The i-th variable of a list that reads as it is laid. -/
theorem laid_get {P : Program} {W : World} {laid : List (String × DataW Unit)} (h : laidMet P laid W) (i : Nat) (n : String) (d : DataW Unit) (hi : laid[i]? = some (n, d)) :
    ∃ g t cs fuel p, P.globalNamed n = some g ∧ (P.globals[g]?).map (·.type) = some t ∧ W.var? P n = some cs ∧ DataW.trod (fun _ => ()) P W 0 (fun _ => true) false fuel t cs.toList = some (d, p) := by
  obtain ⟨ps, h, hz⟩ := h
  clear hz
  induction laid generalizing i ps with
  | nil => simp at hi
  | cons x r ih =>
    obtain ⟨m, e⟩ := x
    obtain ⟨g, t, cs, fuel, p, q, h1, h2, h3, h4, h5, _⟩ := h
    cases i with
    | zero =>
      simp only [List.getElem?_cons_zero, Option.some.injEq, Prod.mk.injEq] at hi
      obtain ⟨rfl, rfl⟩ := hi
      exact ⟨g, t, cs, fuel, p, h1, h2, h3, h4⟩
    | succ i => exact ih i (by simpa using hi) _ h5

/-- What the walks read of the package-level variables. -/
structure Glob (w : World) : Prop where
  signs : ∀ i : Nat, i < 15 → w.cell? ⟨0, i, none⟩ = some (.string (sgn i))
  pow : Lib.TabIs Tryd.prog w "internal/strconv.uint64pow10" .u64 Lib.pow10Tab

theorem gSigns : Tryd.prog.globalNamed "palings/ast.signs" = some 0 := by kernel_rfl
theorem gPow : Tryd.prog.globalNamed "internal/strconv.uint64pow10" = some 3 := by kernel_rfl
theorem tSigns : (Tryd.prog.globals[0]?).map (·.type) = some 110 := by kernel_rfl
theorem tPow : (Tryd.prog.globals[3]?).map (·.type) = some 131 := by kernel_rfl
theorem cSigns : Tryd.prog.cellsOf 110 = 15 := by kernel_rfl
theorem cPow : Tryd.prog.cellsOf 131 = 20 := by kernel_rfl
theorem cStr : Tryd.prog.cellsOf 9 = 1 := by kernel_rfl
theorem cU64 : Tryd.prog.cellsOf 119 = 1 := by kernel_rfl

theorem glob_of_laid {W : World} {laid : List (String × DataW Unit)} (h : laidMet Tryd.prog laid W) (i j : Nat) (hi : laid[i]? = some ("palings/ast.signs", Rows.laid_palings_ast_signs))
    (hj : laid[j]? = some ("internal/strconv.uint64pow10", Rows.laid_internal_strconv_uint64pow10)) : Glob W := by
  constructor
  · obtain ⟨g, t, cs, fuel, p, h1, h2, h3, h4⟩ := laid_get h i _ _ hi
    obtain rfl := Option.some.inj (gSigns.symm.trans h1)
    obtain rfl := Option.some.inj (tSigns.symm.trans h2)
    have e := cells_of_strs (zs := sgnL) Tryd.underlying110 Tryd.underlying9 cStr cSigns h4
    intro i hi
    have hc := World.var?_cell gSigns h3 i
    rw [hc]
    have : cs[i]? = cs.toList[i]? := by simp
    rw [this, e, List.getElem?_map]
    have hl : i < sgnL.length := hi
    rw [List.getElem?_eq_getElem hl]
    simp [sgn, List.getD_eq_getElem?_getD, List.getElem?_eq_getElem hl]
  · obtain ⟨g, t, cs, fuel, p, h1, h2, h3, h4⟩ := laid_get h j _ _ hj
    obtain rfl := Option.some.inj (gPow.symm.trans h1)
    obtain rfl := Option.some.inj (tPow.symm.trans h2)
    have e := Lib.cells_of_tab (zs := Lib.pow10Tab) Tryd.underlying131 Tryd.underlying119 cU64 cPow h4
    unfold Lib.TabIs
    rw [h3, ← e]

theorem var?_of_block {P : Program} {w w' : World} {n : String} {g : Nat} (hg : P.globalNamed n = some g) (h : w'.heap[g]? = w.heap[g]?) : w'.var? P n = w.var? P n := by
  unfold World.var?
  rw [hg]
  simp only [Option.bind_some]
  rw [h]

theorem Glob.keep {w w' : World} (h : Glob w) (hb : ∀ k, k < 4 → w'.heap[k]? = w.heap[k]?) : Glob w' where
  signs i hi := by
    rw [World.cell?_of_block (w := w) (hb _ (show 0 < 4 by decide))]
    exact h.signs i hi
  pow := by
    unfold Lib.TabIs
    rw [var?_of_block gPow (hb _ (by decide))]
    exact h.pow

theorem Glob.size {w : World} (h : Glob w) : 4 ≤ w.heap.size := by
  have h1 := World.block_lt_of_cell? w _ (h.signs 0 (by decide))
  have h2 := World.block_lt_of_cell? w _ (h.pow.cell gPow 0 (by decide))
  simp at h1 h2
  omega

theorem Glob.below {w w' : World} {B : Nat} (h : Glob w) (hB : 4 ≤ B) (hb : Below B w w') : Glob w' := h.keep fun k hk => hb.block k (by omega)

/-- How an operator is written. -/
def signOf (o : Int) : ByteArray := if o < 0 ∨ 15 ≤ o then ByteArray.empty else sgn o.toNat

theorem sign_calls (o : Int) (w : World) (hg : Glob w) :
    Calls Tryd.prog 29 #[.int .i64 o] w fun e w' => e = .returned (.string (signOf o)) ∧ w' = w := by
  by_cases hlo : o < 0
  · have c0 : decide (o < 0) = true := by simpa using hlo
    go_enter Tryd.func29, Tryd.ntmps29
    go_wp2
    go_ret
    exact ⟨by rw [signOf, if_pos (Or.inl (by omega))]; rfl, rfl⟩
  · have c0 : decide (o < 0) = false := by simpa using hlo
    by_cases hhi : 15 ≤ o
    · have c1 : decide (o < 15) = false := by simp; omega
      go_enter Tryd.func29, Tryd.ntmps29
      go_wp2
      go_ret
      exact ⟨by rw [signOf, if_pos (Or.inr (by omega))]; rfl, rfl⟩
    · have c1 : decide (o < 15) = true := by simp; omega
      have hc := hg.signs o.toNat (by omega)
      go_enter Tryd.func29, Tryd.ntmps29
      go_wp2
      go_ret
      exact ⟨by rw [signOf, if_neg (by omega)]; rfl, rfl⟩
end Go.Proofs.YtgenlgfbjlclbaaDoor
