/- What the parser's walks read of the package-level variables: the words, the marks, the levels; and how it stays. -/
import Derived.Test.YtgenlgfbjlclbaaDoorPure
import Derived.Test.YtgenlgfbjlclbaaDoorText
import Derived.Test.YtgenlgfbjlclbaaDoorMem
namespace Go.Proofs.YtgenlgfbjlclbaaDoor
open Go.RowKit Go.Proofs.YtgenlgfbjlclbaaDoorW.PrintWords Go.Proofs.YtgenlgfbjlclbaaDoorW.PrintLast Go.Proofs.YtgenlgfbjlclbaaDoorW.PrintMore
set_option linter.unusedVariables false

/-- Where the three lists lie. -/
structure GA where
  wA : Option Addr
  wc : Nat
  mA : Option Addr
  mc : Nat
  lA : Option Addr
  lc : Nat
def strs (l : List Bytes) : List ByteArray := l.map bsOf
structure GFacts (a : GA) (w : World) : Prop where
  glob : Glob w
  words : w.cell? ⟨1, 0, none⟩ = some (.slice a.wA 11 a.wc)
  wordsC : Kd.string.C w a.wA 11 (strs wordsL)
  marks : w.cell? ⟨2, 0, none⟩ = some (.slice a.mA 28 a.mc)
  marksC : Kd.string.C w a.mA 28 (strs marksL)
  levels : w.cell? ⟨5, 0, none⟩ = some (.slice a.lA 5 a.lc)
  levelsC : (Kd.slice 9 Kd.string).C w a.lA 5 (levelsL.map strs)
/-- .. and in every world that has the elder blocks, those below N. -/
structure GP (a : GA) (N : Nat) (w : World) : Prop where
  size : N ≤ w.heap.size
  all : ∀ W', (∀ k, k < N → W'.heap[k]? = w.heap[k]?) → GFacts a W'
theorem GP.now {a : GA} {N : Nat} {w : World} (h : GP a N w) : GFacts a w := h.all w (fun _ _ => rfl)
theorem GP.step {a : GA} {N g : Nat} {w w' : World} (h : GP a N w) (ch : Chg g w w') (hN : N ≤ g) : GP a N w' :=
  ⟨Nat.le_trans h.size ch.size, fun W' hW => h.all W' fun k hk => (hW k hk).trans (ch.block k (Nat.lt_of_lt_of_le hk h.size) (by omega))⟩
theorem GP.below {a : GA} {N : Nat} {w w' : World} (h : GP a N w) (hb : Below w.heap.size w w') : GP a N w' :=
  ⟨Nat.le_trans h.size hb.size, fun W' hW => h.all W' fun k hk => (hW k hk).trans (hb.block k (Nat.lt_of_lt_of_le hk h.size))⟩
def rdS (xs : List ByteArray) (i : Int) : ByteArray := xs.getD i.toNat ByteArray.empty
theorem strAt {w : World} {A : Option Addr} {n : Nat} {xs : List ByteArray} (h : Kd.string.C w A n xs) (i : Int) (h0 : 0 ≤ i) (h1 : i < n) : ∃ ad, A = some ad ∧ w.cell? (ad.add i.toNat) = some (.string (rdS xs i)) := by
  obtain ⟨ad', c, e', hl', hK', hc⟩ := Kd.C_get h ByteArray.empty i h0 h1
  obtain rfl : c = [.string (xs.getD i.toNat ByteArray.empty)] := hK'
  have h2 : w.cell? (ad'.add (i.toNat * 1 + 0)) = some (.string (xs.getD i.toNat ByteArray.empty)) := hc 0 _ rfl
  exact ⟨ad', e', by simpa [rdS] using h2⟩
theorem rdS_strs (l : List Bytes) (k : Nat) (h : k < l.length) : rdS (strs l) (k : Int) = bsOf (l.getD k []) := by
  simp [rdS, strs, List.getD_eq_getElem?_getD, h]
/-- A store into a block of the call's own leaves the caller's blocks. -/
theorem Chg.own {g h : Nat} {w w1 w2 : World} (c : Chg g w w1) (k : Chg h w1 w2) (hn : w.heap.size ≤ h) : Chg g w w2 :=
  ⟨k.os.trans c.os, k.tape.trans c.tape, k.output.trans c.output, Nat.le_trans c.size k.size, fun i hi hg => (k.block i (Nat.lt_of_lt_of_le hi c.size) (by omega)).trans (c.block i hi hg)⟩
theorem run_cell_row {P : Program} {ty : TypeId} (w : World) (g : Nat) (t : TypeId) (cs : Array Value) (fr : Nat × Nat) (d : TypeDesc) (hg : w.heap[g]? = some (.cells cs t fr))
    (hu : P.underlying ty = some d) (hd : (match d with | .struct _ | .array _ _ => true | _ => false) = true) (hi : (P.info? ty).map (·.size) = some cs.size) :
    (loadVar ty ⟨g, 0, none⟩).run P w = .ok (.agg cs) w := run_loadVar_row w g t ty cs fr d hg hu hd hi
theorem results_ct {P : Program} {fn : Func} {p u : Tmp} {ty : TypeId} (h : fn.results = #[.cell p ty, .tmp u]) (tmps : Array Value) (w : World) (g : Nat) (t : TypeId) (cs : Array Value) (fr : Nat × Nat) (d : TypeDesc)
    (hp : tmps.getD p undef = .pointer (some ⟨g, 0, none⟩)) (hg : w.heap[g]? = some (.cells cs t fr))
    (hu : P.underlying ty = some d) (hd : (match d with | .struct _ | .array _ _ => true | _ => false) = true) (hi : (P.info? ty).map (·.size) = some cs.size) :
    (results fn tmps).run P w = .ok (.tuple #[.agg cs, tmps.getD u undef]) w := by
  have hp' : tmps[p]?.getD undef = .pointer (some ⟨g, 0, none⟩) := by simpa using hp
  simp [results, h, hp', asAddr, run_loadVar_row w g t ty cs fr d hg hu hd hi]
theorem results_tc {P : Program} {fn : Func} {p u : Tmp} {ty : TypeId} (h : fn.results = #[.tmp u, .cell p ty]) (tmps : Array Value) (w : World) (g : Nat) (t : TypeId) (cs : Array Value) (fr : Nat × Nat) (d : TypeDesc)
    (hp : tmps.getD p undef = .pointer (some ⟨g, 0, none⟩)) (hg : w.heap[g]? = some (.cells cs t fr))
    (hu : P.underlying ty = some d) (hd : (match d with | .struct _ | .array _ _ => true | _ => false) = true) (hi : (P.info? ty).map (·.size) = some cs.size) :
    (results fn tmps).run P w = .ok (.tuple #[tmps.getD u undef, .agg cs]) w := by
  have hp' : tmps[p]?.getD undef = .pointer (some ⟨g, 0, none⟩) := by simpa using hp
  simp [results, h, hp', asAddr, run_loadVar_row w g t ty cs fr d hg hu hd hi]
end Go.Proofs.YtgenlgfbjlclbaaDoor
