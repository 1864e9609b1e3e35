/- Statements as text: what Stmt.at, Stmt.Text and lines compute. -/
import Derived.Test.YtpbeplepcbhamaaDoorMem
import Derived.Test.YtpbeplepcbhamaaDoorSame
import Derived.Test.YtpbeplepcbhamaaDoorText
namespace Go.Proofs.YtpbeplepcbhamaaDoor
open Go.RowKit Go.Proofs.YtpbeplepcbhamaaDoorW.PrintWords Go.Proofs.YtpbeplepcbhamaaDoorW.PrintLast Go.Proofs.YtpbeplepcbhamaaDoorW.PrintMore
set_option linter.unusedVariables false
set_option linter.unusedSimpArgs false

/-- The i-th expression of a statement, as text. -/
def atL (es : List Expr) (i : Int) : List UInt8 := if i < (es.length : Int) then etext (rdExpr es i) else [63]
def tabs (d : Nat) : List UInt8 := Lib.repeatL [9] d
mutual
/-- A statement as lines. -/
def stext : Stmt → Nat → List UInt8
  | ⟨does, _, name, es, thens, elses⟩, d =>
    if does = 1 then tabs d ++ [108, 101, 116, 32] ++ name.data.toList ++ [32, 61, 32] ++ atL es 0 ++ [59, 10]
    else if does = 2 then tabs d ++ name.data.toList ++ [32, 61, 32] ++ atL es 0 ++ [59, 10]
    else if does = 3 then tabs d ++ name.data.toList ++ [91] ++ atL es 0 ++ [93, 32, 61, 32] ++ atL es 1 ++ [59, 10]
    else if does = 4 then
      (if elses = [] then tabs d ++ [105, 102, 32] ++ atL es 0 ++ [32, 123, 10] ++ slines thens (d + 1) ++ tabs d ++ [125]
       else tabs d ++ [105, 102, 32] ++ atL es 0 ++ [32, 123, 10] ++ slines thens (d + 1) ++ tabs d ++ [125] ++ ([32, 101, 108, 115, 101, 32, 123, 10] ++ slines elses (d + 1) ++ tabs d ++ [125])) ++ [10]
    else if does = 5 then tabs d ++ [119, 104, 105, 108, 101, 32] ++ atL es 0 ++ [32, 123, 10] ++ slines thens (d + 1) ++ tabs d ++ [125, 10]
    else if does = 6 then tabs d ++ [114, 101, 116, 117, 114, 110, 32] ++ atL es 0 ++ [59, 10]
    else tabs d ++ atL es 0 ++ [59, 10]
def slines : List Stmt → Nat → List UInt8
  | [], _ => []
  | s :: r, d => stext s d ++ slines r d
end
theorem stext_eq (s : Stmt) (d : Nat) : stext s d = if s.does = 1 then tabs d ++ [108, 101, 116, 32] ++ s.name.data.toList ++ [32, 61, 32] ++ atL s.es 0 ++ [59, 10]
    else if s.does = 2 then tabs d ++ s.name.data.toList ++ [32, 61, 32] ++ atL s.es 0 ++ [59, 10]
    else if s.does = 3 then tabs d ++ s.name.data.toList ++ [91] ++ atL s.es 0 ++ [93, 32, 61, 32] ++ atL s.es 1 ++ [59, 10]
    else if s.does = 4 then
      (if s.elses = [] then tabs d ++ [105, 102, 32] ++ atL s.es 0 ++ [32, 123, 10] ++ slines s.thens (d + 1) ++ tabs d ++ [125]
       else tabs d ++ [105, 102, 32] ++ atL s.es 0 ++ [32, 123, 10] ++ slines s.thens (d + 1) ++ tabs d ++ [125] ++ ([32, 101, 108, 115, 101, 32, 123, 10] ++ slines s.elses (d + 1) ++ tabs d ++ [125])) ++ [10]
    else if s.does = 5 then tabs d ++ [119, 104, 105, 108, 101, 32] ++ atL s.es 0 ++ [32, 123, 10] ++ slines s.thens (d + 1) ++ tabs d ++ [125, 10]
    else if s.does = 6 then tabs d ++ [114, 101, 116, 117, 114, 110, 32] ++ atL s.es 0 ++ [59, 10]
    else tabs d ++ atL s.es 0 ++ [59, 10] := by
  cases s
  rw [stext]
theorem slines_map : ∀ (xs : List Stmt) (d : Nat), slines xs d = (xs.map (stext · d)).flatten
  | [], _ => by simp [slines]
  | s :: r, d => by rw [slines, slines_map r d, List.map_cons, List.flatten_cons]
theorem slines_take (xs : List Stmt) (d : Nat) (i : Int) (h0 : 0 ≤ i) (h1 : i < xs.length) : slines (xs.take (i + 1).toNat) d = slines (xs.take i.toNat) d ++ stext (rdStmt xs i) d := by
  have hlt : i.toNat < xs.length := by omega
  rw [show (i + 1).toNat = i.toNat + 1 by omega, List.take_succ_eq_append_getElem hlt, slines_map, slines_map, List.map_append, List.flatten_append]
  congr 1
  simp [rdStmt, List.getD_eq_getElem?_getD, hlt]
theorem slines_le (xs : List Stmt) (d k : Nat) : (slines (xs.take k) d).length ≤ (slines xs d).length := by
  have h : xs = xs.take k ++ xs.drop k := (List.take_append_drop k xs).symm
  rw [h, slines_map, slines_map, List.map_append, List.flatten_append, List.take_append_drop, List.length_append]
  omega
theorem stext_le (xs : List Stmt) (d : Nat) (s : Stmt) (h : s ∈ xs) : (stext s d).length ≤ (slines xs d).length := by
  rw [slines_map]
  induction xs with
  | nil => simp at h
  | cons a r ih =>
    rw [List.map_cons, List.flatten_cons, List.length_append]
    rcases List.mem_cons.1 h with rfl | h
    · omega
    · have := ih h
      omega

mutual
/-- No text of a part is longer than what a string may be. -/
def SFit : Stmt → Nat → Prop
  | ⟨does, pos, name, es, thens, elses⟩, d => (stext ⟨does, pos, name, es, thens, elses⟩ d).length ≤ 140737488355328 ∧ d ≤ 1000000 ∧ (∀ e, e ∈ es → Fit 140737488355328 e ∧ Slim 8000000000000 e) ∧ SFits thens (d + 1) ∧ SFits elses (d + 1)
def SFits : List Stmt → Nat → Prop
  | [], _ => True
  | s :: r, d => SFit s d ∧ SFits r d
end
theorem SFits.mem {d : Nat} : ∀ {l : List Stmt}, SFits l d → ∀ y, y ∈ l → SFit y d
  | x :: r, h, y, hy => by
    rw [SFits] at h
    rcases List.mem_cons.1 hy with rfl | hy
    · exact h.1
    · exact SFits.mem h.2 y hy
theorem SFit.open {s : Stmt} {d : Nat} (h : SFit s d) : (stext s d).length ≤ 140737488355328 ∧ d ≤ 1000000 ∧ (∀ e, e ∈ s.es → Fit 140737488355328 e ∧ Slim 8000000000000 e) ∧ SFits s.thens (d + 1) ∧ SFits s.elses (d + 1) := by
  cases s
  rw [SFit] at h
  exact h

/-- A builder stays what it is where only new blocks are made. -/
theorem builder_step {T e : TypeId} {B b : Nat} {l : List Value} {w w1 : World} (h : Lib.IsBuilderF T e B b l w) (hb : Below w.heap.size w w1) : Lib.IsBuilderF T e B b l w1 := by
  have each : ∀ p, Lib.BuilderAtF T e B b p l w → Lib.BuilderAtF T e B b p l w1 := by
    intro p hp
    have hlt := hp.lt
    obtain ⟨h1, v, h2, h3, h4⟩ := hp
    refine ⟨h1, v, ?_, ?_, h4⟩
    · rw [hb.block b hlt]
      exact h2
    · exact h3.kept (row := none) ⟨hb.os, hb.tape, hb.output, hb.size, fun k hk _ => hb.block k hk⟩ (Classical.em _)
  rcases h with h | h
  · exact .inl (each _ h)
  · exact .inr (each _ h)
theorem write_calls (B b : Nat) (bs : List Value) (s : ByteArray) (w : World) (h : Lib.IsBuilderF 73 5 B b bs w) (hlen : bs.length + s.size ≤ 140737488355328) (hBw : B ≤ w.heap.size) :
    Calls Tryd.prog 37 #[.pointer (some ⟨b, 0, none⟩), .string s] w fun e w' => e = .returned (.tuple #[.int .i64 s.size, .nilIface]) ∧ (Lib.BuilderAtF 73 5 B b (.pointer (some ⟨b, 0, none⟩)) (bs ++ Lib.strCells s) w' ∧ Below B w w' ∧ Lib.OthersKept 5 (some b) w w') :=
  Any.Builder_WriteString_k { Tryd.lays156 with } Tryd.Builder_Extra_156 B b bs s w h hlen hBw

set_option maxRecDepth 100000 in
set_option maxHeartbeats 1600000 in
theorem at_calls (s : Stmt) (i : Int) (cs : List Value) (w : World) (hs : kStmt.K w s cs) (hg : Glob w) (h0 : 0 ≤ i) (hf : (∀ e, e ∈ s.es → Fit 140737488355328 e ∧ Slim 8000000000000 e)) :
    Calls Tryd.prog 32 #[.agg cs.toArray, .int .i64 i] w fun e w' => e = .returned (.string (bs (atL s.es i))) ∧ Below w.heap.size w w' := by
  obtain ⟨A4, a4, A5, a5, A6, a6, rfl, el4, eg4, el5, eg5, el6, eg6⟩ := kStmt_open hs
  have HC := Aside0.mk eg4
  have hm := eg4.2.1
  clear el4 eg4 el5 eg5 el6 eg6 hs
  by_cases hi : i < (s.es.length : Int)
  · have hge : decide ((s.es.length : Int) ≤ i) = false := by simp; omega
    have HF := Aside0.mk (hf _ (rdExpr_mem s.es i h0 hi))
    have HI := Aside0.mk hi
    clear hf
    go_enter Tryd.func32, Tryd.ntmps32
    go_wp2_with (first | ((with_reducible refine gate_dst (N := 2) rfl ?_); refine box_event ?hg (N := 2) ?hd (cs := #[.int .i64 s.does, .int .i64 s.pos.line, .int .i64 s.pos.col, .string s.name, .slice A4 s.es.length a4, .slice A5 s.thens.length a5, .slice A6 s.elses.length a6]) (t := 38) ?hr ?_; (case hd => rfl); (case hg => rfl); (case hr => first | (go_simp; done) | (go_simp; rfl)); intro g2 hgE_ W1 hbox_ hb_; have GEg2 := Aside0.mk (show w.heap.size ≤ g2 from Nat.le_of_eq hgE_.symm); have HB := Aside0.mk hb_; have BKg2 := Aside0.mk hbox_; have cg2_4 : W1.cell? ⟨g2, 4, none⟩ = some (.slice A4 s.es.length a4) := (blk_cell BKg2.out 4).trans rfl; clear hb_ hbox_ hgE_; obtain ⟨ad, D6, d6, ea, e0, e1, e2, e3, e4, e5, e6, em0, el6, eg6⟩ := atExpr (Kd.C_below HC.out HB.out) i h0 hi; obtain rfl := ea; have K0 := Aside0.mk (show kExpr.K W1 (rdExpr s.es i) [.int .i64 (rdExpr s.es i).kind, .int .i64 (rdExpr s.es i).pos.line, .int .i64 (rdExpr s.es i).pos.col, .int .i64 (rdExpr s.es i).num, .string (rdExpr s.es i).name, .int .i64 (rdExpr s.es i).op, .slice D6 (rdExpr s.es i).kids.length d6] from kExpr_mk W1 _ em0 el6 eg6); clear em0 el6 eg6) | (go_at_call 22; (with_reducible refine (text_calls _ (rdExpr s.es i) (Nat.le_refl _) HF.out.1 HF.out.2 _ _ K0.out (hg.below hg.size HB.out)).mono ?_); rintro e W2 ⟨rfl, hb_⟩; replace HB := Aside0.mk (below_step HB.out hb_); clear hb_ ))
    go_ret
    refine ⟨ret_str ?_, HB.out⟩
    rw [atL, if_pos HI.out]
  · have hge : decide ((s.es.length : Int) ≤ i) = true := by simp; omega
    have HI := Aside0.mk hi
    clear hf hi
    go_enter Tryd.func32, Tryd.ntmps32
    go_wp2_with (first | ((with_reducible refine gate_dst (N := 2) rfl ?_); refine box_event ?hg (N := 2) ?hd (cs := #[.int .i64 s.does, .int .i64 s.pos.line, .int .i64 s.pos.col, .string s.name, .slice A4 s.es.length a4, .slice A5 s.thens.length a5, .slice A6 s.elses.length a6]) (t := 38) ?hr ?_; (case hd => rfl); (case hg => rfl); (case hr => first | (go_simp; done) | (go_simp; rfl)); intro g2 hgE_ W1 hbox_ hb_; have GEg2 := Aside0.mk (show w.heap.size ≤ g2 from Nat.le_of_eq hgE_.symm); have HB := Aside0.mk hb_; have BKg2 := Aside0.mk hbox_; have cg2_4 : W1.cell? ⟨g2, 4, none⟩ = some (.slice A4 s.es.length a4) := (blk_cell BKg2.out 4).trans rfl; clear hb_ hbox_ hgE_))
    go_ret
    refine ⟨ret_str ?_, HB.out⟩
    rw [atL, if_neg (by have := HI.out; omega)]
    rfl

theorem bytes_add (a b : List UInt8) : Lib.byteCells a ++ Lib.strCells (bs b) = Lib.byteCells (a ++ b) := by
  rw [Lib.byteCells, Lib.byteCells, Lib.strCells, List.map_append]
  rfl
set_option maxRecDepth 100000 in
set_option maxHeartbeats 1600000 in
theorem lines_step (xs : List Stmt) (d : Int) (A : Option Addr) (n c : Nat) (w : World) (hx : kStmt.C w A n xs) (hg : Glob w) (hd0 : 0 ≤ d) (hf : (slines xs d.toNat).length ≤ 140737488355328)
    (ih : ∀ s, s ∈ xs → ∀ cs w, kStmt.K w s cs → Glob w → Calls Tryd.prog 16 #[.agg cs.toArray, .int .i64 d] w fun e w' => e = .returned (.string (bs (stext s d.toNat))) ∧ Below w.heap.size w w') :
    Calls Tryd.prog 33 #[.slice A n c, .int .i64 d] w fun e w' => e = .returned (.string (bs (slines xs d.toNat))) ∧ Below w.heap.size w w' := by
  have hn : xs.length = n := hx.1
  have hm := hx.2.1
  have HX := Aside0.mk hx
  have HF := Aside0.mk hf
  clear hx hf
  go_enter Tryd.func33, Tryd.ntmps33
  go_wp2_with (first | ((with_reducible refine gate_dst (N := 5) rfl ?_); refine box_event ?hg (N := 5) ?hd (cs := #[.pointer none, .slice none 0 0]) (t := 73) ?hr ?_; (case hd => rfl); (case hg => rfl); (case hr => first | (go_simp; done) | (go_simp; rfl)); intro g5 hgE_ W1 hbox_ hb_; have GEg5 := Aside0.mk (show w.heap.size ≤ g5 from Nat.le_of_eq hgE_.symm); have HB := Aside0.mk hb_; have BKg5 := Aside0.mk hbox_; clear hb_ hbox_ hgE_))
  have HBL : Lib.IsBuilderF 73 5 w.heap.size g5 (Lib.byteCells []) W1 := Lib.IsBuilderF.of (.inl ⟨GEg5.out, .slice none 0 0, BKg5.out, World.ownsRow_nil _ _ _ _, by simp [Value.ownBlock]⟩)
  have HBLA := Aside0.mk HBL
  clear HBL
  go_loopg [10] n (fun kq v10 w' => ∃ i : Int, v10 = .int .i64 i ∧ 0 ≤ i ∧ kq + i.toNat = n ∧ Aside0 (Lib.IsBuilderF 73 5 w.heap.size g5 (Lib.byteCells (slines (xs.take i.toNat) d.toNat)) w') ∧ Aside0 (Below w.heap.size w w'))
  case atStart => exact ⟨0, rfl, by omega, by simp, by simpa [slines] using HBLA, HB⟩
  case round =>
    clear HB BKg5
    obtain ⟨i, rfl, hi0, hk, BL, HB⟩ := hrel
    cases gk with
    | zero =>
      have hge : decide (i < (n : Int)) = false := by simp; omega
      have hall : xs.take i.toNat = xs := List.take_of_length_le (by omega)
      rw [hall] at BL
      clear hall
      go_wp2_with (first | (go_at_call 39; (with_reducible refine (Tryd.Builder_String_any_k w.heap.size g5 _ _ BL.out HB.out.size).mono ?_); rintro e w2 ⟨rfl, hbl_, hb_, hok_⟩; replace HB := Aside0.mk (HB.out.trans hb_); clear hbl_ hb_ hok_))
      go_ret
      exact ⟨rfl, HB.out⟩
    | succ k1_ =>
      have hi1 : i < (n : Int) := by omega
      have hx1 := Kd.C_below HX.out HB.out
      obtain ⟨ad, B4, b4, B5, b5, B6, b6, ea, e0, e1, e2, e3, e4, e5, e6, el4, eg4, el5, eg5, el6, eg6⟩ := atStmt hx1 i hi0 hi1
      obtain rfl := ea
      have hms : rdStmt xs i ∈ xs := rdStmt_mem _ _ hi0 (by omega)
      have KS := Aside0.mk (show kStmt.K wr (rdStmt xs i) [.int .i64 (rdStmt xs i).does, .int .i64 (rdStmt xs i).pos.line, .int .i64 (rdStmt xs i).pos.col, .string (rdStmt xs i).name, .slice B4 (rdStmt xs i).es.length b4, .slice B5 (rdStmt xs i).thens.length b5, .slice B6 (rdStmt xs i).elses.length b6] from kStmt_mk wr _ el4 eg4 el5 eg5 el6 eg6)
      have htk := slines_take xs d.toNat i hi0 (by omega)
      have hle := slines_le xs d.toNat (i + 1).toNat
      have HLEN := Aside0.mk (show (Lib.byteCells (slines (xs.take i.toNat) d.toNat)).length + (bs (stext (rdStmt xs i) d.toNat)).size ≤ 140737488355328 from by
        rw [Lib.byteCells_length, bs_size]
        rw [htk, List.length_append] at hle
        have := HF.out
        omega)
      have HTK := Aside0.mk htk
      clear htk hle el4 eg4 el5 eg5 el6 eg6 hx1
      go_wp2_with (first | ((with_reducible refine gate_dst (N := 7) rfl ?_); refine var_event (W1 := ?w1_7) (N := 7) (cs := #[.int .i64 (rdStmt xs i).does, .int .i64 (rdStmt xs i).pos.line, .int .i64 (rdStmt xs i).pos.col, .string (rdStmt xs i).name, .slice B4 (rdStmt xs i).es.length b4, .slice B5 (rdStmt xs i).thens.length b5, .slice B6 (rdStmt xs i).elses.length b6]) (t := 38) ?hg ?hd ?hg2 ?hd2 ?hr ?hr2 ?_; (case hd => rfl); (case hg => rfl); (case hd2 => rfl); (case hg2 => rfl); (case hr => first | (go_simp; done) | (go_simp; rfl)); (case hr2 => first | (go_simp; done) | (go_simp; rfl)); intro g7 hgE_ W1 hbox_ hb_; have GEg7 := Aside0.mk (show w.heap.size ≤ g7 from Nat.le_trans HB.out.size (hgE_)); replace HB := Aside0.mk (below_step HB.out hb_); replace BL := Aside0.mk (builder_step BL.out hb_); replace KS := Aside0.mk (kStmt.K_below hb_ KS.out); have BKg7 := Aside0.mk hbox_; have cg7_0 : W1.cell? ⟨g7, 0, none⟩ = some (.int .i64 (rdStmt xs i).does) := (blk_cell BKg7.out 0).trans rfl; have cg7_1 : W1.cell? ⟨g7, 1, none⟩ = some (.int .i64 (rdStmt xs i).pos.line) := (blk_cell BKg7.out 1).trans rfl; have cg7_2 : W1.cell? ⟨g7, 2, none⟩ = some (.int .i64 (rdStmt xs i).pos.col) := (blk_cell BKg7.out 2).trans rfl; have cg7_3 : W1.cell? ⟨g7, 3, none⟩ = some (.string (rdStmt xs i).name) := (blk_cell BKg7.out 3).trans rfl; have cg7_4 : W1.cell? ⟨g7, 4, none⟩ = some (.slice B4 (rdStmt xs i).es.length b4) := (blk_cell BKg7.out 4).trans rfl; have cg7_5 : W1.cell? ⟨g7, 5, none⟩ = some (.slice B5 (rdStmt xs i).thens.length b5) := (blk_cell BKg7.out 5).trans rfl; have cg7_6 : W1.cell? ⟨g7, 6, none⟩ = some (.slice B6 (rdStmt xs i).elses.length b6) := (blk_cell BKg7.out 6).trans rfl; clear hb_ hbox_ hgE_) | (go_at_call 16; (with_reducible refine (ih _ hms _ _ KS.out (hg.below hg.size HB.out)).mono ?_); rintro e W2 ⟨rfl, hb_⟩; replace HB := Aside0.mk (below_step HB.out hb_); replace BKg7 := Aside0.mk (blk_below BKg7.out hb_); replace cg7_0 : W2.cell? ⟨g7, 0, none⟩ = some (.int .i64 (rdStmt xs i).does) := (blk_cell BKg7.out 0).trans rfl; replace cg7_1 : W2.cell? ⟨g7, 1, none⟩ = some (.int .i64 (rdStmt xs i).pos.line) := (blk_cell BKg7.out 1).trans rfl; replace cg7_2 : W2.cell? ⟨g7, 2, none⟩ = some (.int .i64 (rdStmt xs i).pos.col) := (blk_cell BKg7.out 2).trans rfl; replace cg7_3 : W2.cell? ⟨g7, 3, none⟩ = some (.string (rdStmt xs i).name) := (blk_cell BKg7.out 3).trans rfl; replace cg7_4 : W2.cell? ⟨g7, 4, none⟩ = some (.slice B4 (rdStmt xs i).es.length b4) := (blk_cell BKg7.out 4).trans rfl; replace cg7_5 : W2.cell? ⟨g7, 5, none⟩ = some (.slice B5 (rdStmt xs i).thens.length b5) := (blk_cell BKg7.out 5).trans rfl; replace cg7_6 : W2.cell? ⟨g7, 6, none⟩ = some (.slice B6 (rdStmt xs i).elses.length b6) := (blk_cell BKg7.out 6).trans rfl; replace BL := Aside0.mk (builder_step BL.out hb_); replace KS := Aside0.mk (kStmt.K_below hb_ KS.out); clear hb_ ) | (go_at_call 37; (with_reducible refine (write_calls w.heap.size g5 _ (bs (stext (rdStmt xs i) d.toNat)) _ BL.out HLEN.out HB.out.size).mono ?_); rintro e W3 ⟨rfl, hbl_, hb_, hok_⟩; replace HB := Aside0.mk (HB.out.trans hb_); have BL2 := Aside0.mk hbl_; clear hbl_ hb_ hok_))
      go_roundg k1_
      case measure => omega
      case rel =>
        refine ⟨i + 1, rfl, by omega, by omega, ⟨?_⟩, HB⟩
        rw [HTK.out, ← bytes_add]
        exact .inr BL2.out
end Go.Proofs.YtpbeplepcbhamaaDoor
