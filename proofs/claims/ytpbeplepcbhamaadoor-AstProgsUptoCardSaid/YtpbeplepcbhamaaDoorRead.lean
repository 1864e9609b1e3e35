/- Data of the program's types, read as the kinds say. -/
import Derived.Test.YtpbeplepcbhamaaDoorKinds
import Derived.ChangeArms
import Derived.DataElems
namespace Go.Proofs.YtpbeplepcbhamaaDoor
open Go.RowKit Go.ChangeShapes Go.WideShapes Go.Proofs.YtpbeplepcbhamaaDoorW.PrintWords Go.Proofs.YtpbeplepcbhamaaDoorW.PrintLast Go.Proofs.YtpbeplepcbhamaaDoorW.PrintMore
set_option linter.unusedVariables false
set_option linter.unusedSimpArgs false

theorem len1 {α : Type} {l : List α} (h : l.length = 1) : ∃ a, l = [a] := by
  match l, h with
  | [a], _ => exact ⟨a, rfl⟩
theorem len2 {α : Type} {l : List α} (h : l.length = 2) : ∃ a0 a1, l = [a0, a1] := by
  match l, h with
  | [a0, a1], _ => exact ⟨a0, a1, rfl⟩
theorem len4 {α : Type} {l : List α} (h : l.length = 4) : ∃ a0 a1 a2 a3, l = [a0, a1, a2, a3] := by
  match l, h with
  | [a0, a1, a2, a3], _ => exact ⟨a0, a1, a2, a3, rfl⟩
theorem len5 {α : Type} {l : List α} (h : l.length = 5) : ∃ a0 a1 a2 a3 a4, l = [a0, a1, a2, a3, a4] := by
  match l, h with
  | [a0, a1, a2, a3, a4], _ => exact ⟨a0, a1, a2, a3, a4, rfl⟩
theorem len6 {α : Type} {l : List α} (h : l.length = 6) : ∃ a0 a1 a2 a3 a4 a5, l = [a0, a1, a2, a3, a4, a5] := by
  match l, h with
  | [a0, a1, a2, a3, a4, a5], _ => exact ⟨a0, a1, a2, a3, a4, a5, rfl⟩
theorem len7 {α : Type} {l : List α} (h : l.length = 7) : ∃ a0 a1 a2 a3 a4 a5 a6, l = [a0, a1, a2, a3, a4, a5, a6] := by
  match l, h with
  | [a0, a1, a2, a3, a4, a5, a6], _ => exact ⟨a0, a1, a2, a3, a4, a5, a6, rfl⟩
section
variable {H : Type} {enc : TypeId × Value → H} {w : World} {sp : Nat → Bool} {held : Bool}
theorem wf_i64 {n : Int} (h : (Lit.int .i64 n).wf = true) : Wf64 n := by
  simp only [Lit.wf, Bool.and_eq_true, decide_eq_true_eq] at h
  exact h
theorem readSlice {α : Type} (d : Kd α) {t e : TypeId} {fuel : Nat} {v : Value} {x : DataW H × List MemPlace} (ht : Tryd.prog.underlying t = some (.slice e)) (hc : Tryd.prog.cellsOf e = d.sz)
    (hd : ∀ m, m < fuel → ∀ cs y, DataW.trod enc Tryd.prog w 0 sp held m e cs = some y → ∃ a, d.K w a cs) (h : DataW.trod enc Tryd.prog w 0 sp held fuel t [v] = some x) :
    ∃ A c xs, v = .slice A xs.length c ∧ xs.length ≤ c ∧ d.C w A xs.length xs := by
  rcases DataW.trod_slice ht h with ⟨hcs, _⟩ | ⟨a, len, cap, elems, rest, n, hn, hcs, _, _, hl, hm, hlen, hel, _, _⟩
  · injection hcs with hv
    exact ⟨none, 0, [], hv, Nat.le_refl _, rfl, Nat.zero_le _, fun h => absurd h (Nat.lt_irrefl 0)⟩
  · injection hcs with hv
    have hall : ∀ i : Fin len, ∃ z : α, ∃ c, c.length = d.sz ∧ d.K w z c ∧ ∀ j u, c[j]? = some u → w.cell? (a.add (i.val * d.sz + j)) = some u := by
      intro i
      have h1 := hel i.val i.isLt
      rw [hc, List.getElem?_eq_getElem (by omega), Option.bind_eq_some_iff] at h1
      obtain ⟨cs, h2, h3⟩ := h1
      obtain ⟨_, h5, h6⟩ := World.cells?_some h2
      obtain ⟨z, hz⟩ := hd n (by omega) cs _ h3
      refine ⟨z, cs, h5, hz, fun j u hu => ?_⟩
      have hj : j < cs.length := (List.getElem?_eq_some_iff.1 hu).1
      rw [← Addr.add_add, h6 j (by omega), hu]
    obtain ⟨f, hf⟩ := Classical.axiomOfChoice hall
    have hcap : cap ≤ 9223372036854775807 := hm
    refine ⟨some a, cap, List.ofFn f, by rw [hv, List.length_ofFn], by rw [List.length_ofFn]; exact hl, rfl, by rw [List.length_ofFn]; omega, fun _ => ⟨a, rfl, fun j p hj => ?_⟩⟩
    rw [List.getElem?_ofFn] at hj
    split at hj
    · rename_i hjl
      injection hj with hj
      subst hj
      exact hf ⟨j, hjl⟩
    · cases hj
theorem cl___ast_Expr : Tryd.prog.cellsOf 29 = 1 := by kernel_rfl
theorem cl___ast_Func : Tryd.prog.cellsOf 42 = 1 := by kernel_rfl
theorem cl___ast_Global : Tryd.prog.cellsOf 43 = 1 := by kernel_rfl
theorem cl___ast_Stmt : Tryd.prog.cellsOf 36 = 1 := by kernel_rfl
theorem cl___string : Tryd.prog.cellsOf 39 = 1 := by kernel_rfl
theorem cl_api_Pos : Tryd.prog.cellsOf 28 = 2 := by kernel_rfl
theorem cl_ast_Does : Tryd.prog.cellsOf 35 = 1 := by kernel_rfl
theorem cl_ast_Expr : Tryd.prog.cellsOf 31 = 7 := by kernel_rfl
theorem cl_ast_Func : Tryd.prog.cellsOf 41 = 5 := by kernel_rfl
theorem cl_ast_Global : Tryd.prog.cellsOf 54 = 5 := by kernel_rfl
theorem cl_ast_Hold : Tryd.prog.cellsOf 52 = 1 := by kernel_rfl
theorem cl_ast_Kind : Tryd.prog.cellsOf 26 = 1 := by kernel_rfl
theorem cl_ast_Prog : Tryd.prog.cellsOf 45 = 2 := by kernel_rfl
theorem cl_ast_Stmt : Tryd.prog.cellsOf 38 = 7 := by kernel_rfl
theorem cl_int : Tryd.prog.cellsOf 3 = 1 := by kernel_rfl
theorem cl_int64 : Tryd.prog.cellsOf 2 = 1 := by kernel_rfl
theorem cl_string : Tryd.prog.cellsOf 9 = 1 := by kernel_rfl
theorem cl_word_Op : Tryd.prog.cellsOf 24 = 1 := by kernel_rfl
theorem readString {fuel : Nat} {cs : List Value} {x : DataW H × List MemPlace} (h : DataW.trod enc Tryd.prog w 0 sp held fuel 9 cs = some x) : ∃ s, Kd.string.K w s cs := by
  obtain ⟨s, rfl, _⟩ := DataW.trod_string Tryd.underlying9 h
  exact ⟨s, rfl⟩
theorem readPos : ∀ (fuel : Nat) (cs : List Value) (x : DataW H × List MemPlace), DataW.trod enc Tryd.prog w 0 sp held fuel 28 cs = some x → ∃ e, kPos.K w e cs := by
  intro fuel
  induction fuel using Nat.strongRecOn with
  | _ fuel ih =>
  intro cs x h
  obtain ⟨xs, m, hm, _, hl, hlen, hf⟩ := DataW.trod_struct Tryd.underlying28 h
  rw [cl_api_Pos] at hl
  obtain ⟨c0, c1, rfl⟩ := len2 hl
  obtain ⟨y0, y1, rfl⟩ := len2 hlen
  have h0 : DataW.trod enc Tryd.prog w 0 sp held m 3 (([c0, c1].drop 0).take (Tryd.prog.cellsOf 3)) = [y0, y1][0]? := hf 0 _ rfl
  simp only [cl_int, List.drop_succ_cons, List.drop_zero, List.take_succ_cons, List.take_zero, List.getElem?_cons_zero, List.getElem?_cons_succ] at h0
  have h1 : DataW.trod enc Tryd.prog w 0 sp held m 3 (([c0, c1].drop 1).take (Tryd.prog.cellsOf 3)) = [y0, y1][1]? := hf 1 _ rfl
  simp only [cl_int, List.drop_succ_cons, List.drop_zero, List.take_succ_cons, List.take_zero, List.getElem?_cons_zero, List.getElem?_cons_succ] at h1
  obtain ⟨v0, hc0, _, hw0⟩ := DataW.trod_int Tryd.underlying3 h0
  injection hc0 with hc0
  subst hc0
  obtain ⟨v1, hc1, _, hw1⟩ := DataW.trod_int Tryd.underlying3 h1
  injection hc1 with hc1
  subst hc1
  exact ⟨⟨v0, v1⟩, kPos_mk w ⟨v0, v1⟩ ⟩
theorem readExpr : ∀ (fuel : Nat) (cs : List Value) (x : DataW H × List MemPlace), DataW.trod enc Tryd.prog w 0 sp held fuel 31 cs = some x → ∃ e, kExpr.K w e cs := by
  intro fuel
  induction fuel using Nat.strongRecOn with
  | _ fuel ih =>
  intro cs x h
  obtain ⟨xs, m, hm, _, hl, hlen, hf⟩ := DataW.trod_struct Tryd.underlying31 h
  rw [cl_ast_Expr] at hl
  obtain ⟨c0, c1, c2, c3, c4, c5, c6, rfl⟩ := len7 hl
  obtain ⟨y0, y1, y2, y3, y4, y5, rfl⟩ := len6 hlen
  have h0 : DataW.trod enc Tryd.prog w 0 sp held m 26 (([c0, c1, c2, c3, c4, c5, c6].drop 0).take (Tryd.prog.cellsOf 26)) = [y0, y1, y2, y3, y4, y5][0]? := hf 0 _ rfl
  simp only [cl_ast_Kind, List.drop_succ_cons, List.drop_zero, List.take_succ_cons, List.take_zero, List.getElem?_cons_zero, List.getElem?_cons_succ] at h0
  have h1 : DataW.trod enc Tryd.prog w 0 sp held m 28 (([c0, c1, c2, c3, c4, c5, c6].drop 1).take (Tryd.prog.cellsOf 28)) = [y0, y1, y2, y3, y4, y5][1]? := hf 1 _ rfl
  simp only [cl_api_Pos, List.drop_succ_cons, List.drop_zero, List.take_succ_cons, List.take_zero, List.getElem?_cons_zero, List.getElem?_cons_succ] at h1
  have h2 : DataW.trod enc Tryd.prog w 0 sp held m 2 (([c0, c1, c2, c3, c4, c5, c6].drop 3).take (Tryd.prog.cellsOf 2)) = [y0, y1, y2, y3, y4, y5][2]? := hf 2 _ rfl
  simp only [cl_int64, List.drop_succ_cons, List.drop_zero, List.take_succ_cons, List.take_zero, List.getElem?_cons_zero, List.getElem?_cons_succ] at h2
  have h3 : DataW.trod enc Tryd.prog w 0 sp held m 9 (([c0, c1, c2, c3, c4, c5, c6].drop 4).take (Tryd.prog.cellsOf 9)) = [y0, y1, y2, y3, y4, y5][3]? := hf 3 _ rfl
  simp only [cl_string, List.drop_succ_cons, List.drop_zero, List.take_succ_cons, List.take_zero, List.getElem?_cons_zero, List.getElem?_cons_succ] at h3
  have h4 : DataW.trod enc Tryd.prog w 0 sp held m 24 (([c0, c1, c2, c3, c4, c5, c6].drop 5).take (Tryd.prog.cellsOf 24)) = [y0, y1, y2, y3, y4, y5][4]? := hf 4 _ rfl
  simp only [cl_word_Op, List.drop_succ_cons, List.drop_zero, List.take_succ_cons, List.take_zero, List.getElem?_cons_zero, List.getElem?_cons_succ] at h4
  have h5 : DataW.trod enc Tryd.prog w 0 sp held m 29 (([c0, c1, c2, c3, c4, c5, c6].drop 6).take (Tryd.prog.cellsOf 29)) = [y0, y1, y2, y3, y4, y5][5]? := hf 5 _ rfl
  simp only [cl___ast_Expr, List.drop_succ_cons, List.drop_zero, List.take_succ_cons, List.take_zero, List.getElem?_cons_zero, List.getElem?_cons_succ] at h5
  obtain ⟨v0, hc0, _, hw0⟩ := DataW.trod_int Tryd.underlying26 h0
  injection hc0 with hc0
  subst hc0
  obtain ⟨v1, hv1⟩ := readPos _ _ _ h1
  have hq1 := kPos_open hv1
  injection hq1 with hq1a hq1b
  injection hq1b with hq1b hq1c
  subst hq1a hq1b
  obtain ⟨v2, hc2, _, hw2⟩ := DataW.trod_int Tryd.underlying2 h2
  injection hc2 with hc2
  subst hc2
  obtain ⟨v3, hc3, _, hw3⟩ := DataW.trod_string Tryd.underlying9 h3
  injection hc3 with hc3
  subst hc3
  obtain ⟨v4, hc4, _, hw4⟩ := DataW.trod_int Tryd.underlying24 h4
  injection hc4 with hc4
  subst hc4
  obtain ⟨A5, k5, v5, hc5, hl5, hC5⟩ := readSlice kExpr Tryd.underlying29 cl_ast_Expr (fun m_ hm_ => ih m_ (by omega)) h5
  subst hc5
  exact ⟨⟨v0, v1, v2, v3, v4, v5⟩, kExpr_mk w ⟨v0, v1, v2, v3, v4, v5⟩ (wf_i64 hw2) hl5 hC5⟩
theorem readStmt : ∀ (fuel : Nat) (cs : List Value) (x : DataW H × List MemPlace), DataW.trod enc Tryd.prog w 0 sp held fuel 38 cs = some x → ∃ e, kStmt.K w e cs := by
  intro fuel
  induction fuel using Nat.strongRecOn with
  | _ fuel ih =>
  intro cs x h
  obtain ⟨xs, m, hm, _, hl, hlen, hf⟩ := DataW.trod_struct Tryd.underlying38 h
  rw [cl_ast_Stmt] at hl
  obtain ⟨c0, c1, c2, c3, c4, c5, c6, rfl⟩ := len7 hl
  obtain ⟨y0, y1, y2, y3, y4, y5, rfl⟩ := len6 hlen
  have h0 : DataW.trod enc Tryd.prog w 0 sp held m 35 (([c0, c1, c2, c3, c4, c5, c6].drop 0).take (Tryd.prog.cellsOf 35)) = [y0, y1, y2, y3, y4, y5][0]? := hf 0 _ rfl
  simp only [cl_ast_Does, List.drop_succ_cons, List.drop_zero, List.take_succ_cons, List.take_zero, List.getElem?_cons_zero, List.getElem?_cons_succ] at h0
  have h1 : DataW.trod enc Tryd.prog w 0 sp held m 28 (([c0, c1, c2, c3, c4, c5, c6].drop 1).take (Tryd.prog.cellsOf 28)) = [y0, y1, y2, y3, y4, y5][1]? := hf 1 _ rfl
  simp only [cl_api_Pos, List.drop_succ_cons, List.drop_zero, List.take_succ_cons, List.take_zero, List.getElem?_cons_zero, List.getElem?_cons_succ] at h1
  have h2 : DataW.trod enc Tryd.prog w 0 sp held m 9 (([c0, c1, c2, c3, c4, c5, c6].drop 3).take (Tryd.prog.cellsOf 9)) = [y0, y1, y2, y3, y4, y5][2]? := hf 2 _ rfl
  simp only [cl_string, List.drop_succ_cons, List.drop_zero, List.take_succ_cons, List.take_zero, List.getElem?_cons_zero, List.getElem?_cons_succ] at h2
  have h3 : DataW.trod enc Tryd.prog w 0 sp held m 29 (([c0, c1, c2, c3, c4, c5, c6].drop 4).take (Tryd.prog.cellsOf 29)) = [y0, y1, y2, y3, y4, y5][3]? := hf 3 _ rfl
  simp only [cl___ast_Expr, List.drop_succ_cons, List.drop_zero, List.take_succ_cons, List.take_zero, List.getElem?_cons_zero, List.getElem?_cons_succ] at h3
  have h4 : DataW.trod enc Tryd.prog w 0 sp held m 36 (([c0, c1, c2, c3, c4, c5, c6].drop 5).take (Tryd.prog.cellsOf 36)) = [y0, y1, y2, y3, y4, y5][4]? := hf 4 _ rfl
  simp only [cl___ast_Stmt, List.drop_succ_cons, List.drop_zero, List.take_succ_cons, List.take_zero, List.getElem?_cons_zero, List.getElem?_cons_succ] at h4
  have h5 : DataW.trod enc Tryd.prog w 0 sp held m 36 (([c0, c1, c2, c3, c4, c5, c6].drop 6).take (Tryd.prog.cellsOf 36)) = [y0, y1, y2, y3, y4, y5][5]? := hf 5 _ rfl
  simp only [cl___ast_Stmt, List.drop_succ_cons, List.drop_zero, List.take_succ_cons, List.take_zero, List.getElem?_cons_zero, List.getElem?_cons_succ] at h5
  obtain ⟨v0, hc0, _, hw0⟩ := DataW.trod_int Tryd.underlying35 h0
  injection hc0 with hc0
  subst hc0
  obtain ⟨v1, hv1⟩ := readPos _ _ _ h1
  have hq1 := kPos_open hv1
  injection hq1 with hq1a hq1b
  injection hq1b with hq1b hq1c
  subst hq1a hq1b
  obtain ⟨v2, hc2, _, hw2⟩ := DataW.trod_string Tryd.underlying9 h2
  injection hc2 with hc2
  subst hc2
  obtain ⟨A3, k3, v3, hc3, hl3, hC3⟩ := readSlice kExpr Tryd.underlying29 cl_ast_Expr (fun m_ _ cs_ y_ hy_ => readExpr m_ cs_ y_ hy_) h3
  subst hc3
  obtain ⟨A4, k4, v4, hc4, hl4, hC4⟩ := readSlice kStmt Tryd.underlying36 cl_ast_Stmt (fun m_ hm_ => ih m_ (by omega)) h4
  subst hc4
  obtain ⟨A5, k5, v5, hc5, hl5, hC5⟩ := readSlice kStmt Tryd.underlying36 cl_ast_Stmt (fun m_ hm_ => ih m_ (by omega)) h5
  subst hc5
  exact ⟨⟨v0, v1, v2, v3, v4, v5⟩, kStmt_mk w ⟨v0, v1, v2, v3, v4, v5⟩ hl3 hC3 hl4 hC4 hl5 hC5⟩
theorem readGlobal : ∀ (fuel : Nat) (cs : List Value) (x : DataW H × List MemPlace), DataW.trod enc Tryd.prog w 0 sp held fuel 54 cs = some x → ∃ e, kGlobal.K w e cs := by
  intro fuel
  induction fuel using Nat.strongRecOn with
  | _ fuel ih =>
  intro cs x h
  obtain ⟨xs, m, hm, _, hl, hlen, hf⟩ := DataW.trod_struct Tryd.underlying54 h
  rw [cl_ast_Global] at hl
  obtain ⟨c0, c1, c2, c3, c4, rfl⟩ := len5 hl
  obtain ⟨y0, y1, y2, y3, rfl⟩ := len4 hlen
  have h0 : DataW.trod enc Tryd.prog w 0 sp held m 9 (([c0, c1, c2, c3, c4].drop 0).take (Tryd.prog.cellsOf 9)) = [y0, y1, y2, y3][0]? := hf 0 _ rfl
  simp only [cl_string, List.drop_succ_cons, List.drop_zero, List.take_succ_cons, List.take_zero, List.getElem?_cons_zero, List.getElem?_cons_succ] at h0
  have h1 : DataW.trod enc Tryd.prog w 0 sp held m 52 (([c0, c1, c2, c3, c4].drop 1).take (Tryd.prog.cellsOf 52)) = [y0, y1, y2, y3][1]? := hf 1 _ rfl
  simp only [cl_ast_Hold, List.drop_succ_cons, List.drop_zero, List.take_succ_cons, List.take_zero, List.getElem?_cons_zero, List.getElem?_cons_succ] at h1
  have h2 : DataW.trod enc Tryd.prog w 0 sp held m 3 (([c0, c1, c2, c3, c4].drop 2).take (Tryd.prog.cellsOf 3)) = [y0, y1, y2, y3][2]? := hf 2 _ rfl
  simp only [cl_int, List.drop_succ_cons, List.drop_zero, List.take_succ_cons, List.take_zero, List.getElem?_cons_zero, List.getElem?_cons_succ] at h2
  have h3 : DataW.trod enc Tryd.prog w 0 sp held m 28 (([c0, c1, c2, c3, c4].drop 3).take (Tryd.prog.cellsOf 28)) = [y0, y1, y2, y3][3]? := hf 3 _ rfl
  simp only [cl_api_Pos, List.drop_succ_cons, List.drop_zero, List.take_succ_cons, List.take_zero, List.getElem?_cons_zero, List.getElem?_cons_succ] at h3
  obtain ⟨v0, hc0, _, hw0⟩ := DataW.trod_string Tryd.underlying9 h0
  injection hc0 with hc0
  subst hc0
  obtain ⟨v1, hc1, _, hw1⟩ := DataW.trod_int Tryd.underlying52 h1
  injection hc1 with hc1
  subst hc1
  obtain ⟨v2, hc2, _, hw2⟩ := DataW.trod_int Tryd.underlying3 h2
  injection hc2 with hc2
  subst hc2
  obtain ⟨v3, hv3⟩ := readPos _ _ _ h3
  have hq3 := kPos_open hv3
  injection hq3 with hq3a hq3b
  injection hq3b with hq3b hq3c
  subst hq3a hq3b
  exact ⟨⟨v0, v1, v2, v3⟩, kGlobal_mk w ⟨v0, v1, v2, v3⟩ (wf_i64 hw2)⟩
theorem readFun : ∀ (fuel : Nat) (cs : List Value) (x : DataW H × List MemPlace), DataW.trod enc Tryd.prog w 0 sp held fuel 41 cs = some x → ∃ e, kFun.K w e cs := by
  intro fuel
  induction fuel using Nat.strongRecOn with
  | _ fuel ih =>
  intro cs x h
  obtain ⟨xs, m, hm, _, hl, hlen, hf⟩ := DataW.trod_struct Tryd.underlying41 h
  rw [cl_ast_Func] at hl
  obtain ⟨c0, c1, c2, c3, c4, rfl⟩ := len5 hl
  obtain ⟨y0, y1, y2, y3, rfl⟩ := len4 hlen
  have h0 : DataW.trod enc Tryd.prog w 0 sp held m 9 (([c0, c1, c2, c3, c4].drop 0).take (Tryd.prog.cellsOf 9)) = [y0, y1, y2, y3][0]? := hf 0 _ rfl
  simp only [cl_string, List.drop_succ_cons, List.drop_zero, List.take_succ_cons, List.take_zero, List.getElem?_cons_zero, List.getElem?_cons_succ] at h0
  have h1 : DataW.trod enc Tryd.prog w 0 sp held m 39 (([c0, c1, c2, c3, c4].drop 1).take (Tryd.prog.cellsOf 39)) = [y0, y1, y2, y3][1]? := hf 1 _ rfl
  simp only [cl___string, List.drop_succ_cons, List.drop_zero, List.take_succ_cons, List.take_zero, List.getElem?_cons_zero, List.getElem?_cons_succ] at h1
  have h2 : DataW.trod enc Tryd.prog w 0 sp held m 36 (([c0, c1, c2, c3, c4].drop 2).take (Tryd.prog.cellsOf 36)) = [y0, y1, y2, y3][2]? := hf 2 _ rfl
  simp only [cl___ast_Stmt, List.drop_succ_cons, List.drop_zero, List.take_succ_cons, List.take_zero, List.getElem?_cons_zero, List.getElem?_cons_succ] at h2
  have h3 : DataW.trod enc Tryd.prog w 0 sp held m 28 (([c0, c1, c2, c3, c4].drop 3).take (Tryd.prog.cellsOf 28)) = [y0, y1, y2, y3][3]? := hf 3 _ rfl
  simp only [cl_api_Pos, List.drop_succ_cons, List.drop_zero, List.take_succ_cons, List.take_zero, List.getElem?_cons_zero, List.getElem?_cons_succ] at h3
  obtain ⟨v0, hc0, _, hw0⟩ := DataW.trod_string Tryd.underlying9 h0
  injection hc0 with hc0
  subst hc0
  obtain ⟨A1, k1, v1, hc1, hl1, hC1⟩ := readSlice Kd.string Tryd.underlying39 cl_string (fun m_ _ cs_ y_ hy_ => readString hy_) h1
  subst hc1
  obtain ⟨A2, k2, v2, hc2, hl2, hC2⟩ := readSlice kStmt Tryd.underlying36 cl_ast_Stmt (fun m_ _ cs_ y_ hy_ => readStmt m_ cs_ y_ hy_) h2
  subst hc2
  obtain ⟨v3, hv3⟩ := readPos _ _ _ h3
  have hq3 := kPos_open hv3
  injection hq3 with hq3a hq3b
  injection hq3b with hq3b hq3c
  subst hq3a hq3b
  exact ⟨⟨v0, v1, v2, v3⟩, kFun_mk w ⟨v0, v1, v2, v3⟩ hl1 hC1 hl2 hC2⟩
theorem readProg : ∀ (fuel : Nat) (cs : List Value) (x : DataW H × List MemPlace), DataW.trod enc Tryd.prog w 0 sp held fuel 45 cs = some x → ∃ e, kProg.K w e cs := by
  intro fuel
  induction fuel using Nat.strongRecOn with
  | _ fuel ih =>
  intro cs x h
  obtain ⟨xs, m, hm, _, hl, hlen, hf⟩ := DataW.trod_struct Tryd.underlying45 h
  rw [cl_ast_Prog] at hl
  obtain ⟨c0, c1, rfl⟩ := len2 hl
  obtain ⟨y0, y1, rfl⟩ := len2 hlen
  have h0 : DataW.trod enc Tryd.prog w 0 sp held m 43 (([c0, c1].drop 0).take (Tryd.prog.cellsOf 43)) = [y0, y1][0]? := hf 0 _ rfl
  simp only [cl___ast_Global, List.drop_succ_cons, List.drop_zero, List.take_succ_cons, List.take_zero, List.getElem?_cons_zero, List.getElem?_cons_succ] at h0
  have h1 : DataW.trod enc Tryd.prog w 0 sp held m 42 (([c0, c1].drop 1).take (Tryd.prog.cellsOf 42)) = [y0, y1][1]? := hf 1 _ rfl
  simp only [cl___ast_Func, List.drop_succ_cons, List.drop_zero, List.take_succ_cons, List.take_zero, List.getElem?_cons_zero, List.getElem?_cons_succ] at h1
  obtain ⟨A0, k0, v0, hc0, hl0, hC0⟩ := readSlice kGlobal Tryd.underlying43 cl_ast_Global (fun m_ _ cs_ y_ hy_ => readGlobal m_ cs_ y_ hy_) h0
  subst hc0
  obtain ⟨A1, k1, v1, hc1, hl1, hC1⟩ := readSlice kFun Tryd.underlying42 cl_ast_Func (fun m_ _ cs_ y_ hy_ => readFun m_ cs_ y_ hy_) h1
  subst hc1
  exact ⟨⟨v0, v1⟩, kProg_mk w ⟨v0, v1⟩ hl0 hC0 hl1 hC1⟩
end
end Go.Proofs.YtpbeplepcbhamaaDoor
