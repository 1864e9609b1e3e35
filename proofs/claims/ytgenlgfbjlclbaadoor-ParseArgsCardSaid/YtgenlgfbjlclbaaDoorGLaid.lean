/- What the parser's walks read of the package-level variables, out of what the row says they hold. -/
import Derived.Test.YtgenlgfbjlclbaaDoorGP
namespace Go.Proofs.YtgenlgfbjlclbaaDoor
open Go.RowKit Go.Proofs.YtgenlgfbjlclbaaDoorW.PrintWords Go.Proofs.YtgenlgfbjlclbaaDoorW.PrintLast Go.Proofs.YtgenlgfbjlclbaaDoorW.PrintMore
set_option linter.unusedVariables false

/-- A slice whose elements are known. -/
theorem readKnown {H : Type} {enc : TypeId × Value → H} {P : Program} {w : World} {sp : Nat → Bool} {held : Bool} {α : Type} (d : Kd α) (dat : α → DataW H) {t e : TypeId} {fuel : Nat} {v : Value} {xs : List α} {p : List MemPlace} (ht : P.underlying t = some (.slice e)) (hc : P.cellsOf e = d.sz)
    (hd : ∀ m cs y x, DataW.trod enc P w 0 sp held m e cs = some y → y.1 = dat x → d.K w x cs) (h : DataW.trod enc P w 0 sp held fuel t [v] = some (.slice (xs.map dat) [], p)) :
    ∃ A c, v = .slice A xs.length c ∧ xs.length ≤ c ∧ d.C w A xs.length xs := by
  rcases DataW.trod_slice ht h with ⟨_, hx⟩ | ⟨a, len, cap, elems, rest, n, hn, hcs, hx, _, hl, hm, hlen, hel, _, _⟩
  · cases hx
  · injection hcs with hv
    simp only [Prod.mk.injEq, DataW.slice.injEq] at hx
    have hxl : xs.length = len := by
      have := congrArg List.length hx.1.1
      simp at this
      omega
    have hcap : cap ≤ 9223372036854775807 := hm
    refine ⟨some a, cap, by rw [hv, hxl], by omega, rfl, by omega, fun _ => ⟨a, rfl, fun j q hj => ?_⟩⟩
    have hjl : j < len := by
      have := (List.getElem?_eq_some_iff.1 hj).1
      omega
    have h1 := hel j hjl
    rw [hc, List.getElem?_eq_getElem (by omega), Option.bind_eq_some_iff] at h1
    obtain ⟨cs, h2, h3⟩ := h1
    obtain ⟨_, h5, h6⟩ := World.cells?_some h2
    have h7 : (elems[j]'(by omega)).1 = dat q := by
      have h8 := congrArg (·[j]?) hx.1.1
      simp only [List.getElem?_map, hj, Option.map_some] at h8
      rw [List.getElem?_eq_getElem (by omega)] at h8
      simpa using h8.symm
    refine ⟨cs, h5, hd n cs _ q h3 h7, fun i u hu => ?_⟩
    have hi : i < cs.length := (List.getElem?_eq_some_iff.1 hu).1
    rw [← Addr.add_add, h6 i (by omega), hu]
def datS {H : Type} (x : ByteArray) : DataW H := .lit (.string x.data.toList)
theorem known_str {H : Type} {enc : TypeId × Value → H} {w : World} {sp : Nat → Bool} {held : Bool} {m : Nat} {cs : List Value} {y : DataW H × List MemPlace} {x : ByteArray} (h : DataW.trod enc Tryd.prog w 0 sp held m 9 cs = some y) (hx : y.1 = datS x) : Kd.string.K w x cs := by
  obtain ⟨s, rfl, rfl, _⟩ := DataW.trod_string Tryd.underlying9 h
  have h1 : s.data.toList = x.data.toList := by
    have : (DataW.lit (Lit.string s.data.toList) : DataW H) = .lit (.string x.data.toList) := hx
    injection this with this
    injection this
  have : s = x := by
    cases s with | mk s => cases x with | mk x => exact congrArg ByteArray.mk (Array.toList_inj.1 h1)
  rw [this]
  exact rfl
def datSS {H : Type} (xs : List ByteArray) : DataW H := .slice (xs.map datS) []
theorem known_row {H : Type} {enc : TypeId × Value → H} {w : World} {sp : Nat → Bool} {held : Bool} {m : Nat} {cs : List Value} {y : DataW H × List MemPlace} {xs : List ByteArray} (h : DataW.trod enc Tryd.prog w 0 sp held m 38 cs = some y) (hx : y.1 = datSS xs) : (Kd.slice 9 Kd.string).K w xs cs := by
  obtain ⟨v, rfl⟩ : ∃ v, cs = [v] := by
    rcases DataW.trod_slice Tryd.underlying38 h with ⟨h, _⟩ | ⟨a, len, cap, _, _, _, _, h, _⟩
    · exact ⟨_, h⟩
    · exact ⟨_, h⟩
  obtain ⟨d, p⟩ := y
  obtain rfl : d = datSS xs := hx
  obtain ⟨A, c, rfl, h1, h2⟩ := readKnown Kd.string datS Tryd.underlying38 (by kernel_rfl) (fun m cs y x h hx => known_str h hx) h
  exact ⟨A, c, rfl, h1, h2⟩
theorem GFacts.keep {a : GA} {w w' : World} (h : GFacts a w) (hb : ∀ k, k < w.heap.size → w'.heap[k]? = w.heap[k]?) : GFacts a w' := by
  have h4 := h.glob.size
  exact ⟨h.glob.keep (fun k hk => hb k (by omega)), Kd.cell_heap hb h.words, (Kd.heap_string).C hb h.wordsC, Kd.cell_heap hb h.marks, (Kd.heap_string).C hb h.marksC, Kd.cell_heap hb h.levels, (Kd.heap_slice _ Kd.heap_string).C hb h.levelsC⟩
theorem gWords : Tryd.prog.globalNamed "palings/lex.words" = some 1 := by kernel_rfl
theorem gMarks : Tryd.prog.globalNamed "palings/lex.marks" = some 2 := by kernel_rfl
theorem gLevels : Tryd.prog.globalNamed "palings/parse.levels" = some 5 := by kernel_rfl
theorem one_cell {W : World} {n : String} {g : Nat} {cs : Array Value} {v : Value} (hg : Tryd.prog.globalNamed n = some g) (h : W.var? Tryd.prog n = some cs) (hc : cs.toList = [v]) : W.cell? ⟨g, 0, none⟩ = some v := by
  rw [World.var?_cell hg h 0]
  have : cs[0]? = cs.toList[0]? := by simp
  rw [this, hc]
  rfl
theorem slice_one {P : Program} {H : Type} {enc : TypeId × Value → H} {w : World} {sp : Nat → Bool} {held : Bool} {fuel : Nat} {t e : TypeId} {cs : List Value} {x : DataW H × List MemPlace} (ht : P.underlying t = some (.slice e)) (h : DataW.trod enc P w 0 sp held fuel t cs = some x) : ∃ v, cs = [v] := by
  rcases DataW.trod_slice ht h with ⟨h, _⟩ | ⟨a, len, cap, _, _, _, _, h, _⟩
  · exact ⟨_, h⟩
  · exact ⟨_, h⟩
theorem gfacts_of_laid {W : World} {laid : List (String × DataW Unit)} (h : laidMet Tryd.prog laid W) (hG : Glob W) (i j k : Nat) (hi : laid[i]? = some ("palings/lex.words", Rows.laid_palings_lex_words))
    (hj : laid[j]? = some ("palings/lex.marks", Rows.laid_palings_lex_marks)) (hk : laid[k]? = some ("palings/parse.levels", Rows.laid_palings_parse_levels)) : ∃ a, GFacts a W := by
  obtain ⟨g, t, cs, fuel, p, h1, h2, h3, h4⟩ := laid_get h i _ _ hi
  obtain rfl := Option.some.inj (gWords.symm.trans h1)
  obtain rfl := Option.some.inj ((show (Tryd.prog.globals[1]?).map (·.type) = some 38 by kernel_rfl).symm.trans h2)
  obtain ⟨v, hv⟩ := slice_one Tryd.underlying38 h4
  rw [hv] at h4
  obtain ⟨wA, wc, rfl, _, hwC⟩ := readKnown (xs := strs wordsL) Kd.string datS Tryd.underlying38 (by kernel_rfl) (fun m cs y x h hx => known_str h hx) h4
  have hw := one_cell gWords h3 hv
  clear h1 h2 h3 h4 hv
  obtain ⟨g, t, cs, fuel, p, h1, h2, h3, h4⟩ := laid_get h j _ _ hj
  obtain rfl := Option.some.inj (gMarks.symm.trans h1)
  obtain rfl := Option.some.inj ((show (Tryd.prog.globals[2]?).map (·.type) = some 38 by kernel_rfl).symm.trans h2)
  obtain ⟨v, hv⟩ := slice_one Tryd.underlying38 h4
  rw [hv] at h4
  obtain ⟨mA, mc, rfl, _, hmC⟩ := readKnown (xs := strs marksL) Kd.string datS Tryd.underlying38 (by kernel_rfl) (fun m cs y x h hx => known_str h hx) h4
  have hm := one_cell gMarks h3 hv
  clear h1 h2 h3 h4 hv
  obtain ⟨g, t, cs, fuel, p, h1, h2, h3, h4⟩ := laid_get h k _ _ hk
  obtain rfl := Option.some.inj (gLevels.symm.trans h1)
  obtain rfl := Option.some.inj ((show (Tryd.prog.globals[5]?).map (·.type) = some 146 by kernel_rfl).symm.trans h2)
  obtain ⟨v, hv⟩ := slice_one Tryd.underlying146 h4
  rw [hv] at h4
  obtain ⟨lA, lc, rfl, _, hlC⟩ := readKnown (xs := levelsL.map strs) (Kd.slice 9 Kd.string) datSS Tryd.underlying146 (by kernel_rfl) (fun m cs y x h hx => known_row h hx) h4
  have hl := one_cell gLevels h3 hv
  exact ⟨⟨wA, wc, mA, mc, lA, lc⟩, hG, hw, hwC, hm, hmC, hl, hlC⟩
theorem gp_of_laid {W : World} {laid : List (String × DataW Unit)} (h : laidMet Tryd.prog laid W) (hG : Glob W) (i j k : Nat) (hi : laid[i]? = some ("palings/lex.words", Rows.laid_palings_lex_words))
    (hj : laid[j]? = some ("palings/lex.marks", Rows.laid_palings_lex_marks)) (hk : laid[k]? = some ("palings/parse.levels", Rows.laid_palings_parse_levels)) : ∃ a, GP a W.heap.size W := by
  obtain ⟨a, ha⟩ := gfacts_of_laid h hG i j k hi hj hk
  exact ⟨a, Nat.le_refl _, fun W' hW => ha.keep hW⟩
end Go.Proofs.YtgenlgfbjlclbaaDoor
