/- Data of the program's types, read as the kinds say: with their bulk. -/
import Derived.Test.YtpbeplepcbhamaaDoorRead
import Derived.Test.YtpbeplepcbhamaaDoorRows
namespace Go.Proofs.YtpbeplepcbhamaaDoor
open Go.RowKit Go.ChangeShapes Go.WideShapes Go.Proofs.YtpbeplepcbhamaaDoorW.PrintWords Go.Proofs.YtpbeplepcbhamaaDoorW.PrintLast Go.Proofs.YtpbeplepcbhamaaDoorW.PrintMore
set_option linter.unusedVariables false
set_option linter.unusedSimpArgs false

def bsum {α : Type} (f : α → Nat) : List α → Nat
  | [] => 0
  | x :: r => f x + bsum f r
theorem bsum_mem {α : Type} (f : α → Nat) : ∀ (xs : List α) (x : α), x ∈ xs → f x ≤ bsum f xs
  | a :: r, x, h => by
    rw [bsum]
    rcases List.mem_cons.1 h with rfl | h
    · omega
    · have := bsum_mem f r x h
      omega
mutual
/-- The bulk of an expression: its parts and letters. -/
def bE : Expr → Nat
  | ⟨_, _, _, name, _, kids⟩ => 1 + name.size + bEs kids
def bEs : List Expr → Nat
  | [] => 0
  | x :: r => bE x + bEs r
end
mutual
def bS : Stmt → Nat
  | ⟨_, _, name, es, thens, elses⟩ => 1 + name.size + bEs es + bSs thens + bSs elses
def bSs : List Stmt → Nat
  | [] => 0
  | x :: r => bS x + bSs r
end
def bG (x : Global) : Nat := 1 + x.name.size
def bN (x : ByteArray) : Nat := 1 + x.size
def bF (x : Fun) : Nat := 1 + x.name.size + bsum bN x.params + bSs x.body
def bP (x : Prog) : Nat := 1 + bsum bG x.globals + bsum bF x.funcs
theorem bEs_sum : ∀ xs, bEs xs = bsum bE xs
  | [] => by simp [bEs, bsum]
  | x :: r => by rw [bEs, bsum, bEs_sum r]
theorem bSs_sum : ∀ xs, bSs xs = bsum bS xs
  | [] => by simp [bSs, bsum]
  | x :: r => by rw [bSs, bsum, bSs_sum r]
theorem bE_eq (x : Expr) : bE x = 1 + x.name.size + bsum bE x.kids := by
  cases x
  rw [bE, bEs_sum]
theorem bS_eq (x : Stmt) : bS x = 1 + x.name.size + bsum bE x.es + bsum bS x.thens + bsum bS x.elses := by
  cases x
  rw [bS, bEs_sum, bSs_sum, bSs_sum]
mutual
/-- All its numbers fit. -/
def wE : Expr → Prop
  | ⟨_, _, num, _, _, kids⟩ => Wf64 num ∧ wEs kids
def wEs : List Expr → Prop
  | [] => True
  | x :: r => wE x ∧ wEs r
end
mutual
def wS : Stmt → Prop
  | ⟨_, _, _, es, thens, elses⟩ => wEs es ∧ wSs thens ∧ wSs elses
def wSs : List Stmt → Prop
  | [] => True
  | x :: r => wS x ∧ wSs r
end
theorem wEs_all : ∀ xs, wEs xs ↔ ∀ x, x ∈ xs → wE x
  | [] => by simp [wEs]
  | x :: r => by rw [wEs, wEs_all r]; simp
theorem wSs_all : ∀ xs, wSs xs ↔ ∀ x, x ∈ xs → wS x
  | [] => by simp [wSs]
  | x :: r => by rw [wSs, wSs_all r]; simp
theorem wE_eq (x : Expr) : wE x ↔ Wf64 x.num ∧ ∀ y, y ∈ x.kids → wE y := by
  cases x
  rw [wE, wEs_all]
theorem wS_eq (x : Stmt) : wS x ↔ (∀ y, y ∈ x.es → wE y) ∧ (∀ y, y ∈ x.thens → wS y) ∧ (∀ y, y ∈ x.elses → wS y) := by
  cases x
  rw [wS, wEs_all, wSs_all, wSs_all]
def wG (x : Global) : Prop := Wf64 x.size
def wN (x : ByteArray) : Prop := True
def wF (x : Fun) : Prop := ∀ y, y ∈ x.body → wS y
def wP (x : Prog) : Prop := (∀ y, y ∈ x.globals → wG y) ∧ ∀ y, y ∈ x.funcs → wF y

section
variable {H : Type} {enc : TypeId × Value → H} {w : World} {sp : Nat → Bool} {held : Bool}
theorem bulk_mem : ∀ (ds : List (DataW H)) (f : Nat → Nat), (∀ i d, ds[i]? = some d → f i ≤ Rows.uptoBulk d) → ((List.range ds.length).map f).sum ≤ Rows.uptoBulkAll ds
  | [], f, _ => by simp
  | d :: r, f, h => by
    rw [List.length_cons, List.range_succ_eq_map, List.map_cons, List.sum_cons, List.map_map, Rows.uptoBulkAll]
    have h1 := h 0 d rfl
    have h2 := bulk_mem r (f ∘ Nat.succ) (fun i d hd => h (i + 1) d (by simpa using hd))
    omega
theorem bsum_ofFn {α : Type} (f : α → Nat) (n : Nat) : ∀ (g : Fin n → α) (q : Nat → Nat), (∀ i : Fin n, f (g i) = q i.val) → bsum f (List.ofFn g) = ((List.range n).map q).sum := by
  induction n with
  | zero => intro g q _; simp [bsum]
  | succ n ih =>
    intro g q h
    rw [List.ofFn_succ, bsum, List.range_succ_eq_map, List.map_cons, List.sum_cons, List.map_map, ih (fun i => g i.succ) (q ∘ Nat.succ) (fun i => h i.succ), h 0]
    rfl
theorem readSliceB {α : Type} (d : Kd α) (b : α → Nat) (wf : α → Prop) {t e : TypeId} {fuel : Nat} {v : Value} {x : DataW H × List MemPlace} (ht : Tryd.prog.underlying t = some (.slice e)) (hc : Tryd.prog.cellsOf e = d.sz)
    (hd : ∀ m, m < fuel → ∀ cs y, DataW.trod enc Tryd.prog w 0 sp held m e cs = some y → ∃ a, d.K w a cs ∧ b a ≤ Rows.uptoBulk y.1 ∧ wf a) (h : DataW.trod enc Tryd.prog w 0 sp held fuel t [v] = some x) :
    ∃ A c xs, v = .slice A xs.length c ∧ xs.length ≤ c ∧ d.C w A xs.length xs ∧ bsum b xs + 1 ≤ Rows.uptoBulk x.1 ∧ ∀ y, y ∈ xs → wf y := by
  rcases DataW.trod_slice ht h with ⟨hcs, hx⟩ | ⟨a, len, cap, elems, rest, n, hn, hcs, hx, _, hl, hm, hlen, hel, _, _⟩
  · injection hcs with hv
    subst hx
    exact ⟨none, 0, [], hv, Nat.le_refl _, ⟨rfl, Nat.zero_le _, fun h => absurd h (Nat.lt_irrefl 0)⟩, Nat.le_refl _, fun y hy => by simp at hy⟩
  · injection hcs with hv
    have hall : ∀ i : Fin len, ∃ z : α, (∃ c, c.length = d.sz ∧ d.K w z c ∧ ∀ j u, c[j]? = some u → w.cell? (a.add (i.val * d.sz + j)) = some u) ∧ (∀ y, elems[i.val]? = some y → b z ≤ Rows.uptoBulk y.1) ∧ wf z := by
      intro i
      have h1 := hel i.val i.isLt
      rw [hc, List.getElem?_eq_getElem (by omega), Option.bind_eq_some_iff] at h1
      obtain ⟨cs, h2, h3⟩ := h1
      obtain ⟨_, h5, h6⟩ := World.cells?_some h2
      obtain ⟨z, hz, hbz, hwz⟩ := hd n (by omega) cs _ h3
      refine ⟨z, ⟨cs, h5, hz, fun j u hu => ?_⟩, fun y hy => ?_, hwz⟩
      · have hj : j < cs.length := (List.getElem?_eq_some_iff.1 hu).1
        rw [← Addr.add_add, h6 j (by omega), hu]
      · rw [List.getElem?_eq_getElem (by omega)] at hy
        injection hy with hy
        rw [← hy]
        exact hbz
    obtain ⟨f, hf⟩ := Classical.axiomOfChoice hall
    have hcap : cap ≤ 9223372036854775807 := hm
    have hbulk : bsum b (List.ofFn f) ≤ Rows.uptoBulkAll (elems.map (·.1)) := by
      rw [bsum_ofFn b len f (fun i => if h : i < len then b (f ⟨i, h⟩) else 0) (fun i => by simp)]
      have := bulk_mem (elems.map (·.1)) (fun i => if h : i < len then b (f ⟨i, h⟩) else 0) (fun i dd hdd => by
        rw [List.getElem?_map, Option.map_eq_some_iff] at hdd
        obtain ⟨y, hy, rfl⟩ := hdd
        have hi : i < len := by
          have := (List.getElem?_eq_some_iff.1 hy).1
          omega
        rw [dif_pos hi]
        exact (hf ⟨i, hi⟩).2.1 y hy)
      rw [List.length_map, hlen] at this
      exact this
    refine ⟨some a, cap, List.ofFn f, by rw [hv, List.length_ofFn], by rw [List.length_ofFn]; exact hl, ⟨rfl, by rw [List.length_ofFn]; omega, fun _ => ⟨a, rfl, fun j p hj => ?_⟩⟩, ?_, fun y hy => ?_⟩
    · rw [List.getElem?_ofFn] at hj
      split at hj
      · rename_i hjl
        injection hj with hj
        subst hj
        exact (hf ⟨j, hjl⟩).1
      · cases hj
    · rw [hx, Rows.uptoBulk]
      omega
    · obtain ⟨i, rfl⟩ := List.mem_ofFn.1 hy
      exact (hf i).2.2
theorem readStringB {fuel : Nat} {cs : List Value} {x : DataW H × List MemPlace} (h : DataW.trod enc Tryd.prog w 0 sp held fuel 9 cs = some x) : ∃ s, Kd.string.K w s cs ∧ bN s ≤ Rows.uptoBulk x.1 ∧ wN s := by
  obtain ⟨s, rfl, rfl, _⟩ := DataW.trod_string Tryd.underlying9 h
  exact ⟨s, rfl, by rw [Rows.uptoBulk, bN, Array.length_toList, show s.data.size = s.size from rfl]; omega, trivial⟩
theorem readExprB : ∀ (fuel : Nat) (cs : List Value) (x : DataW H × List MemPlace), DataW.trod enc Tryd.prog w 0 sp held fuel 31 cs = some x → ∃ e, kExpr.K w e cs ∧ bE e ≤ Rows.uptoBulk x.1 ∧ wE e := by
  intro fuel
  induction fuel using Nat.strongRecOn with
  | _ fuel ih =>
  intro cs x h
  obtain ⟨xs, m, hm, hxx, hl, hlen, hf⟩ := DataW.trod_struct Tryd.underlying31 h
  subst hxx
  rw [cl_ast_Expr] at hl
  obtain ⟨c0, c1, c2, c3, c4, c5, c6, rfl⟩ := len7 hl
  obtain ⟨y0, y1, y2, y3, y4, y5, rfl⟩ := len6 hlen
  have h0 : DataW.trod enc Tryd.prog w 0 sp held m 26 (([c0, c1, c2, c3, c4, c5, c6].drop 0).take (Tryd.prog.cellsOf 26)) = [y0, y1, y2, y3, y4, y5][0]? := hf 0 _ rfl
  simp only [cl_ast_Kind, List.drop_succ_cons, List.drop_zero, List.take_succ_cons, List.take_zero, List.getElem?_cons_zero, List.getElem?_cons_succ] at h0
  have h1 : DataW.trod enc Tryd.prog w 0 sp held m 28 (([c0, c1, c2, c3, c4, c5, c6].drop 1).take (Tryd.prog.cellsOf 28)) = [y0, y1, y2, y3, y4, y5][1]? := hf 1 _ rfl
  simp only [cl_api_Pos, List.drop_succ_cons, List.drop_zero, List.take_succ_cons, List.take_zero, List.getElem?_cons_zero, List.getElem?_cons_succ] at h1
  have h2 : DataW.trod enc Tryd.prog w 0 sp held m 2 (([c0, c1, c2, c3, c4, c5, c6].drop 3).take (Tryd.prog.cellsOf 2)) = [y0, y1, y2, y3, y4, y5][2]? := hf 2 _ rfl
  simp only [cl_int64, List.drop_succ_cons, List.drop_zero, List.take_succ_cons, List.take_zero, List.getElem?_cons_zero, List.getElem?_cons_succ] at h2
  have h3 : DataW.trod enc Tryd.prog w 0 sp held m 9 (([c0, c1, c2, c3, c4, c5, c6].drop 4).take (Tryd.prog.cellsOf 9)) = [y0, y1, y2, y3, y4, y5][3]? := hf 3 _ rfl
  simp only [cl_string, List.drop_succ_cons, List.drop_zero, List.take_succ_cons, List.take_zero, List.getElem?_cons_zero, List.getElem?_cons_succ] at h3
  have h4 : DataW.trod enc Tryd.prog w 0 sp held m 24 (([c0, c1, c2, c3, c4, c5, c6].drop 5).take (Tryd.prog.cellsOf 24)) = [y0, y1, y2, y3, y4, y5][4]? := hf 4 _ rfl
  simp only [cl_word_Op, List.drop_succ_cons, List.drop_zero, List.take_succ_cons, List.take_zero, List.getElem?_cons_zero, List.getElem?_cons_succ] at h4
  have h5 : DataW.trod enc Tryd.prog w 0 sp held m 29 (([c0, c1, c2, c3, c4, c5, c6].drop 6).take (Tryd.prog.cellsOf 29)) = [y0, y1, y2, y3, y4, y5][5]? := hf 5 _ rfl
  simp only [cl___ast_Expr, List.drop_succ_cons, List.drop_zero, List.take_succ_cons, List.take_zero, List.getElem?_cons_zero, List.getElem?_cons_succ] at h5
  obtain ⟨v0, hc0, _, hw0⟩ := DataW.trod_int Tryd.underlying26 h0
  injection hc0 with hc0
  subst hc0
  obtain ⟨v1, hv1⟩ := readPos _ _ _ h1
  have hq1 := kPos_open hv1
  injection hq1 with hq1a hq1b
  injection hq1b with hq1b hq1c
  subst hq1a hq1b
  obtain ⟨v2, hc2, _, hw2⟩ := DataW.trod_int Tryd.underlying2 h2
  injection hc2 with hc2
  subst hc2
  obtain ⟨v3, hc3, hy3, hw3⟩ := DataW.trod_string Tryd.underlying9 h3
  injection hc3 with hc3
  subst hc3
  have hb3 : v3.size + 1 ≤ Rows.uptoBulk y3.1 := by rw [hy3, Rows.uptoBulk, Array.length_toList]; exact Nat.le_refl _
  obtain ⟨v4, hc4, _, hw4⟩ := DataW.trod_int Tryd.underlying24 h4
  injection hc4 with hc4
  subst hc4
  obtain ⟨A5, k5, v5, hc5, hl5, hC5, hb5, hww5⟩ := readSliceB kExpr bE wE Tryd.underlying29 cl_ast_Expr (fun m_ hm_ => ih m_ (by omega)) h5
  subst hc5
  refine ⟨⟨v0, v1, v2, v3, v4, v5⟩, kExpr_mk w ⟨v0, v1, v2, v3, v4, v5⟩ (wf_i64 hw2) hl5 hC5, ?_, (wE_eq _).2 ⟨wf_i64 hw2, hww5⟩⟩
  rw [bE_eq]
  simp only [List.map_cons, List.map_nil, Rows.uptoBulk, Rows.uptoBulkAll]
  omega
theorem readStmtB : ∀ (fuel : Nat) (cs : List Value) (x : DataW H × List MemPlace), DataW.trod enc Tryd.prog w 0 sp held fuel 38 cs = some x → ∃ e, kStmt.K w e cs ∧ bS e ≤ Rows.uptoBulk x.1 ∧ wS e := by
  intro fuel
  induction fuel using Nat.strongRecOn with
  | _ fuel ih =>
  intro cs x h
  obtain ⟨xs, m, hm, hxx, hl, hlen, hf⟩ := DataW.trod_struct Tryd.underlying38 h
  subst hxx
  rw [cl_ast_Stmt] at hl
  obtain ⟨c0, c1, c2, c3, c4, c5, c6, rfl⟩ := len7 hl
  obtain ⟨y0, y1, y2, y3, y4, y5, rfl⟩ := len6 hlen
  have h0 : DataW.trod enc Tryd.prog w 0 sp held m 35 (([c0, c1, c2, c3, c4, c5, c6].drop 0).take (Tryd.prog.cellsOf 35)) = [y0, y1, y2, y3, y4, y5][0]? := hf 0 _ rfl
  simp only [cl_ast_Does, List.drop_succ_cons, List.drop_zero, List.take_succ_cons, List.take_zero, List.getElem?_cons_zero, List.getElem?_cons_succ] at h0
  have h1 : DataW.trod enc Tryd.prog w 0 sp held m 28 (([c0, c1, c2, c3, c4, c5, c6].drop 1).take (Tryd.prog.cellsOf 28)) = [y0, y1, y2, y3, y4, y5][1]? := hf 1 _ rfl
  simp only [cl_api_Pos, List.drop_succ_cons, List.drop_zero, List.take_succ_cons, List.take_zero, List.getElem?_cons_zero, List.getElem?_cons_succ] at h1
  have h2 : DataW.trod enc Tryd.prog w 0 sp held m 9 (([c0, c1, c2, c3, c4, c5, c6].drop 3).take (Tryd.prog.cellsOf 9)) = [y0, y1, y2, y3, y4, y5][2]? := hf 2 _ rfl
  simp only [cl_string, List.drop_succ_cons, List.drop_zero, List.take_succ_cons, List.take_zero, List.getElem?_cons_zero, List.getElem?_cons_succ] at h2
  have h3 : DataW.trod enc Tryd.prog w 0 sp held m 29 (([c0, c1, c2, c3, c4, c5, c6].drop 4).take (Tryd.prog.cellsOf 29)) = [y0, y1, y2, y3, y4, y5][3]? := hf 3 _ rfl
  simp only [cl___ast_Expr, List.drop_succ_cons, List.drop_zero, List.take_succ_cons, List.take_zero, List.getElem?_cons_zero, List.getElem?_cons_succ] at h3
  have h4 : DataW.trod enc Tryd.prog w 0 sp held m 36 (([c0, c1, c2, c3, c4, c5, c6].drop 5).take (Tryd.prog.cellsOf 36)) = [y0, y1, y2, y3, y4, y5][4]? := hf 4 _ rfl
  simp only [cl___ast_Stmt, List.drop_succ_cons, List.drop_zero, List.take_succ_cons, List.take_zero, List.getElem?_cons_zero, List.getElem?_cons_succ] at h4
  have h5 : DataW.trod enc Tryd.prog w 0 sp held m 36 (([c0, c1, c2, c3, c4, c5, c6].drop 6).take (Tryd.prog.cellsOf 36)) = [y0, y1, y2, y3, y4, y5][5]? := hf 5 _ rfl
  simp only [cl___ast_Stmt, List.drop_succ_cons, List.drop_zero, List.take_succ_cons, List.take_zero, List.getElem?_cons_zero, List.getElem?_cons_succ] at h5
  obtain ⟨v0, hc0, _, hw0⟩ := DataW.trod_int Tryd.underlying35 h0
  injection hc0 with hc0
  subst hc0
  obtain ⟨v1, hv1⟩ := readPos _ _ _ h1
  have hq1 := kPos_open hv1
  injection hq1 with hq1a hq1b
  injection hq1b with hq1b hq1c
  subst hq1a hq1b
  obtain ⟨v2, hc2, hy2, hw2⟩ := DataW.trod_string Tryd.underlying9 h2
  injection hc2 with hc2
  subst hc2
  have hb2 : v2.size + 1 ≤ Rows.uptoBulk y2.1 := by rw [hy2, Rows.uptoBulk, Array.length_toList]; exact Nat.le_refl _
  obtain ⟨A3, k3, v3, hc3, hl3, hC3, hb3, hww3⟩ := readSliceB kExpr bE wE Tryd.underlying29 cl_ast_Expr (fun m_ _ cs_ y_ hy_ => readExprB m_ cs_ y_ hy_) h3
  subst hc3
  obtain ⟨A4, k4, v4, hc4, hl4, hC4, hb4, hww4⟩ := readSliceB kStmt bS wS Tryd.underlying36 cl_ast_Stmt (fun m_ hm_ => ih m_ (by omega)) h4
  subst hc4
  obtain ⟨A5, k5, v5, hc5, hl5, hC5, hb5, hww5⟩ := readSliceB kStmt bS wS Tryd.underlying36 cl_ast_Stmt (fun m_ hm_ => ih m_ (by omega)) h5
  subst hc5
  refine ⟨⟨v0, v1, v2, v3, v4, v5⟩, kStmt_mk w ⟨v0, v1, v2, v3, v4, v5⟩ hl3 hC3 hl4 hC4 hl5 hC5, ?_, (wS_eq _).2 ⟨hww3, hww4, hww5⟩⟩
  rw [bS_eq]
  simp only [List.map_cons, List.map_nil, Rows.uptoBulk, Rows.uptoBulkAll]
  omega
theorem readGlobalB : ∀ (fuel : Nat) (cs : List Value) (x : DataW H × List MemPlace), DataW.trod enc Tryd.prog w 0 sp held fuel 54 cs = some x → ∃ e, kGlobal.K w e cs ∧ bG e ≤ Rows.uptoBulk x.1 ∧ wG e := by
  intro fuel
  induction fuel using Nat.strongRecOn with
  | _ fuel ih =>
  intro cs x h
  obtain ⟨xs, m, hm, hxx, hl, hlen, hf⟩ := DataW.trod_struct Tryd.underlying54 h
  subst hxx
  rw [cl_ast_Global] at hl
  obtain ⟨c0, c1, c2, c3, c4, rfl⟩ := len5 hl
  obtain ⟨y0, y1, y2, y3, rfl⟩ := len4 hlen
  have h0 : DataW.trod enc Tryd.prog w 0 sp held m 9 (([c0, c1, c2, c3, c4].drop 0).take (Tryd.prog.cellsOf 9)) = [y0, y1, y2, y3][0]? := hf 0 _ rfl
  simp only [cl_string, List.drop_succ_cons, List.drop_zero, List.take_succ_cons, List.take_zero, List.getElem?_cons_zero, List.getElem?_cons_succ] at h0
  have h1 : DataW.trod enc Tryd.prog w 0 sp held m 52 (([c0, c1, c2, c3, c4].drop 1).take (Tryd.prog.cellsOf 52)) = [y0, y1, y2, y3][1]? := hf 1 _ rfl
  simp only [cl_ast_Hold, List.drop_succ_cons, List.drop_zero, List.take_succ_cons, List.take_zero, List.getElem?_cons_zero, List.getElem?_cons_succ] at h1
  have h2 : DataW.trod enc Tryd.prog w 0 sp held m 3 (([c0, c1, c2, c3, c4].drop 2).take (Tryd.prog.cellsOf 3)) = [y0, y1, y2, y3][2]? := hf 2 _ rfl
  simp only [cl_int, List.drop_succ_cons, List.drop_zero, List.take_succ_cons, List.take_zero, List.getElem?_cons_zero, List.getElem?_cons_succ] at h2
  have h3 : DataW.trod enc Tryd.prog w 0 sp held m 28 (([c0, c1, c2, c3, c4].drop 3).take (Tryd.prog.cellsOf 28)) = [y0, y1, y2, y3][3]? := hf 3 _ rfl
  simp only [cl_api_Pos, List.drop_succ_cons, List.drop_zero, List.take_succ_cons, List.take_zero, List.getElem?_cons_zero, List.getElem?_cons_succ] at h3
  obtain ⟨v0, hc0, hy0, hw0⟩ := DataW.trod_string Tryd.underlying9 h0
  injection hc0 with hc0
  subst hc0
  have hb0 : v0.size + 1 ≤ Rows.uptoBulk y0.1 := by rw [hy0, Rows.uptoBulk, Array.length_toList]; exact Nat.le_refl _
  obtain ⟨v1, hc1, _, hw1⟩ := DataW.trod_int Tryd.underlying52 h1
  injection hc1 with hc1
  subst hc1
  obtain ⟨v2, hc2, _, hw2⟩ := DataW.trod_int Tryd.underlying3 h2
  injection hc2 with hc2
  subst hc2
  obtain ⟨v3, hv3⟩ := readPos _ _ _ h3
  have hq3 := kPos_open hv3
  injection hq3 with hq3a hq3b
  injection hq3b with hq3b hq3c
  subst hq3a hq3b
  refine ⟨⟨v0, v1, v2, v3⟩, kGlobal_mk w ⟨v0, v1, v2, v3⟩ (wf_i64 hw2), ?_, wf_i64 hw2⟩
  rw [bG]
  simp only [List.map_cons, List.map_nil, Rows.uptoBulk, Rows.uptoBulkAll]
  omega
theorem readFunB : ∀ (fuel : Nat) (cs : List Value) (x : DataW H × List MemPlace), DataW.trod enc Tryd.prog w 0 sp held fuel 41 cs = some x → ∃ e, kFun.K w e cs ∧ bF e ≤ Rows.uptoBulk x.1 ∧ wF e := by
  intro fuel
  induction fuel using Nat.strongRecOn with
  | _ fuel ih =>
  intro cs x h
  obtain ⟨xs, m, hm, hxx, hl, hlen, hf⟩ := DataW.trod_struct Tryd.underlying41 h
  subst hxx
  rw [cl_ast_Func] at hl
  obtain ⟨c0, c1, c2, c3, c4, rfl⟩ := len5 hl
  obtain ⟨y0, y1, y2, y3, rfl⟩ := len4 hlen
  have h0 : DataW.trod enc Tryd.prog w 0 sp held m 9 (([c0, c1, c2, c3, c4].drop 0).take (Tryd.prog.cellsOf 9)) = [y0, y1, y2, y3][0]? := hf 0 _ rfl
  simp only [cl_string, List.drop_succ_cons, List.drop_zero, List.take_succ_cons, List.take_zero, List.getElem?_cons_zero, List.getElem?_cons_succ] at h0
  have h1 : DataW.trod enc Tryd.prog w 0 sp held m 39 (([c0, c1, c2, c3, c4].drop 1).take (Tryd.prog.cellsOf 39)) = [y0, y1, y2, y3][1]? := hf 1 _ rfl
  simp only [cl___string, List.drop_succ_cons, List.drop_zero, List.take_succ_cons, List.take_zero, List.getElem?_cons_zero, List.getElem?_cons_succ] at h1
  have h2 : DataW.trod enc Tryd.prog w 0 sp held m 36 (([c0, c1, c2, c3, c4].drop 2).take (Tryd.prog.cellsOf 36)) = [y0, y1, y2, y3][2]? := hf 2 _ rfl
  simp only [cl___ast_Stmt, List.drop_succ_cons, List.drop_zero, List.take_succ_cons, List.take_zero, List.getElem?_cons_zero, List.getElem?_cons_succ] at h2
  have h3 : DataW.trod enc Tryd.prog w 0 sp held m 28 (([c0, c1, c2, c3, c4].drop 3).take (Tryd.prog.cellsOf 28)) = [y0, y1, y2, y3][3]? := hf 3 _ rfl
  simp only [cl_api_Pos, List.drop_succ_cons, List.drop_zero, List.take_succ_cons, List.take_zero, List.getElem?_cons_zero, List.getElem?_cons_succ] at h3
  obtain ⟨v0, hc0, hy0, hw0⟩ := DataW.trod_string Tryd.underlying9 h0
  injection hc0 with hc0
  subst hc0
  have hb0 : v0.size + 1 ≤ Rows.uptoBulk y0.1 := by rw [hy0, Rows.uptoBulk, Array.length_toList]; exact Nat.le_refl _
  obtain ⟨A1, k1, v1, hc1, hl1, hC1, hb1, hww1⟩ := readSliceB Kd.string bN wN Tryd.underlying39 cl_string (fun m_ _ cs_ y_ hy_ => readStringB hy_) h1
  subst hc1
  obtain ⟨A2, k2, v2, hc2, hl2, hC2, hb2, hww2⟩ := readSliceB kStmt bS wS Tryd.underlying36 cl_ast_Stmt (fun m_ _ cs_ y_ hy_ => readStmtB m_ cs_ y_ hy_) h2
  subst hc2
  obtain ⟨v3, hv3⟩ := readPos _ _ _ h3
  have hq3 := kPos_open hv3
  injection hq3 with hq3a hq3b
  injection hq3b with hq3b hq3c
  subst hq3a hq3b
  refine ⟨⟨v0, v1, v2, v3⟩, kFun_mk w ⟨v0, v1, v2, v3⟩ hl1 hC1 hl2 hC2, ?_, hww2⟩
  rw [bF, bSs_sum]
  simp only [List.map_cons, List.map_nil, Rows.uptoBulk, Rows.uptoBulkAll]
  omega
theorem readProgB : ∀ (fuel : Nat) (cs : List Value) (x : DataW H × List MemPlace), DataW.trod enc Tryd.prog w 0 sp held fuel 45 cs = some x → ∃ e, kProg.K w e cs ∧ bP e ≤ Rows.uptoBulk x.1 ∧ wP e := by
  intro fuel
  induction fuel using Nat.strongRecOn with
  | _ fuel ih =>
  intro cs x h
  obtain ⟨xs, m, hm, hxx, hl, hlen, hf⟩ := DataW.trod_struct Tryd.underlying45 h
  subst hxx
  rw [cl_ast_Prog] at hl
  obtain ⟨c0, c1, rfl⟩ := len2 hl
  obtain ⟨y0, y1, rfl⟩ := len2 hlen
  have h0 : DataW.trod enc Tryd.prog w 0 sp held m 43 (([c0, c1].drop 0).take (Tryd.prog.cellsOf 43)) = [y0, y1][0]? := hf 0 _ rfl
  simp only [cl___ast_Global, List.drop_succ_cons, List.drop_zero, List.take_succ_cons, List.take_zero, List.getElem?_cons_zero, List.getElem?_cons_succ] at h0
  have h1 : DataW.trod enc Tryd.prog w 0 sp held m 42 (([c0, c1].drop 1).take (Tryd.prog.cellsOf 42)) = [y0, y1][1]? := hf 1 _ rfl
  simp only [cl___ast_Func, List.drop_succ_cons, List.drop_zero, List.take_succ_cons, List.take_zero, List.getElem?_cons_zero, List.getElem?_cons_succ] at h1
  obtain ⟨A0, k0, v0, hc0, hl0, hC0, hb0, hww0⟩ := readSliceB kGlobal bG wG Tryd.underlying43 cl_ast_Global (fun m_ _ cs_ y_ hy_ => readGlobalB m_ cs_ y_ hy_) h0
  subst hc0
  obtain ⟨A1, k1, v1, hc1, hl1, hC1, hb1, hww1⟩ := readSliceB kFun bF wF Tryd.underlying42 cl_ast_Func (fun m_ _ cs_ y_ hy_ => readFunB m_ cs_ y_ hy_) h1
  subst hc1
  refine ⟨⟨v0, v1⟩, kProg_mk w ⟨v0, v1⟩ hl0 hC0 hl1 hC1, ?_, ⟨hww0, hww1⟩⟩
  rw [bP]
  simp only [List.map_cons, List.map_nil, Rows.uptoBulk, Rows.uptoBulkAll]
  omega
end
end Go.Proofs.YtpbeplepcbhamaaDoor
