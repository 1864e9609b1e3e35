/- Expressions as text: what (palings/ast.Expr).Text computes. -/
import Derived.Test.YtgenlgfbjlclbaaDoorKinds
import Derived.Test.YtgenlgfbjlclbaaDoorShelf
import Derived.IntWalk
namespace Go.Proofs.YtgenlgfbjlclbaaDoor
open Go.RowKit Go.Proofs.YtgenlgfbjlclbaaDoorW.PrintWords Go.Proofs.YtgenlgfbjlclbaaDoorW.PrintLast Go.Proofs.YtgenlgfbjlclbaaDoorW.PrintMore
set_option linter.unusedVariables false
set_option linter.unusedSimpArgs false

mutual
/-- An expression as text. -/
def etext : Expr → List UInt8
  | ⟨kind, _, num, name, op, kids⟩ =>
    if kind = 1 then Lib.itoa num
    else if kind = 2 then (if num = 0 then [102, 97, 108, 115, 101] else [116, 114, 117, 101])
    else if kind = 3 then name.data.toList
    else if kind = 5 then name.data.toList ++ [40] ++ Lib.join (etexts kids) [44, 32] ++ [41]
    else if kids = [] then [63]
    else
      let a := (etexts kids).headD []
      let b := (etexts kids).getLastD []
      if kind = 4 then name.data.toList ++ [91] ++ a ++ [93]
      else if kind = 9 then [33] ++ a
      else if kind = 7 then [40] ++ a ++ [32, 38, 38, 32] ++ b ++ [41]
      else if kind = 8 then [40] ++ a ++ [32, 124, 124, 32] ++ b ++ [41]
      else [40] ++ a ++ [32] ++ (signOf op).data.toList ++ [32] ++ b ++ [41]
def etexts : List Expr → List (List UInt8)
  | [] => []
  | x :: r => etext x :: etexts r
end
def bs (l : List UInt8) : ByteArray := ⟨l.toArray⟩

mutual
/-- No text of a part is longer than N. -/
def Fit (N : Nat) : Expr → Prop
  | ⟨kind, pos, num, name, op, kids⟩ => (etext ⟨kind, pos, num, name, op, kids⟩).length ≤ N ∧ Fits N kids
def Fits (N : Nat) : List Expr → Prop
  | [] => True
  | x :: r => Fit N x ∧ Fits N r
end
theorem Fits.mem {N : Nat} : ∀ {l : List Expr}, Fits N l → ∀ y, y ∈ l → Fit N y
  | x :: r, h, y, hy => by
    rw [Fits] at h
    rcases List.mem_cons.1 hy with rfl | hy
    · exact h.1
    · exact Fits.mem h.2 y hy
theorem Fit.le {N : Nat} {x : Expr} (h : Fit N x) : (etext x).length ≤ N := by
  cases x
  rw [Fit] at h
  exact h.1
theorem Fit.kids {N : Nat} {x : Expr} (h : Fit N x) : Fits N x.kids := by
  cases x
  rw [Fit] at h
  exact h.2

theorem etext_eq (x : Expr) : etext x = if x.kind = 1 then Lib.itoa x.num
    else if x.kind = 2 then (if x.num = 0 then [102, 97, 108, 115, 101] else [116, 114, 117, 101])
    else if x.kind = 3 then x.name.data.toList
    else if x.kind = 5 then x.name.data.toList ++ [40] ++ Lib.join (etexts x.kids) [44, 32] ++ [41]
    else if x.kids = [] then [63]
    else if x.kind = 4 then x.name.data.toList ++ [91] ++ (etexts x.kids).headD [] ++ [93]
    else if x.kind = 9 then [33] ++ (etexts x.kids).headD []
    else if x.kind = 7 then [40] ++ (etexts x.kids).headD [] ++ [32, 38, 38, 32] ++ (etexts x.kids).getLastD [] ++ [41]
    else if x.kind = 8 then [40] ++ (etexts x.kids).headD [] ++ [32, 124, 124, 32] ++ (etexts x.kids).getLastD [] ++ [41]
    else [40] ++ (etexts x.kids).headD [] ++ [32] ++ (signOf x.op).data.toList ++ [32] ++ (etexts x.kids).getLastD [] ++ [41] := by
  cases x
  rw [etext]

theorem etexts_map : ∀ l : List Expr, etexts l = l.map etext
  | [] => by simp [etexts]
  | x :: r => by rw [etexts, List.map_cons, etexts_map r]

theorem head_text (l : List Expr) (h : 0 < l.length) : (etexts l).headD [] = etext (rdExpr l 0) := by
  rw [etexts_map]
  cases l with
  | nil => simp at h
  | cons a r => simp [rdExpr]
theorem last_text (l : List Expr) (h : 0 < l.length) (hm : l.length ≤ 9223372036854775807) : (etexts l).getLastD [] = etext (rdExpr l (wrap64 ((l.length : Int) - 1))) := by
  rw [etexts_map, IntWalk.wrap64_in ((l.length : Int) - 1) (by omega), List.getLastD_eq_getLast?, List.getLast?_map, List.getLast?_eq_getElem?]
  unfold rdExpr
  rw [show ((l.length : Int) - 1).toNat = l.length - 1 by omega, List.getD_eq_getElem?_getD, List.getElem?_eq_getElem (show l.length - 1 < l.length by omega)]
  simp

theorem bs_size (l : List UInt8) : (bs l).size = l.length := by rw [bs]; exact List.size_toArray
theorem bs_add (a b : List UInt8) : bs a ++ bs b = bs (a ++ b) := by
  apply ByteArray.ext
  simp [bs, ByteArray.data_append]
theorem bs_of (s : ByteArray) : s = bs s.data.toList := by
  apply ByteArray.ext
  simp [bs]
theorem size_toList (s : ByteArray) : s.data.toList.length = s.size := data_length s
theorem signOf_size (o : Int) : (signOf o).size ≤ 2 := by
  unfold signOf
  split
  · simp
  · rename_i h
    have h' : o.toNat < 15 := by omega
    have : ∀ i : Fin 15, (sgn i).size ≤ 2 := by decide
    exact this ⟨o.toNat, h'⟩
theorem ret_str {a b : ByteArray} (h : a = b) : Ending.returned (.string a) = .returned (.string b) := by rw [h]

theorem below_undrew {W w3 : World} (h : Below W.drew.heap.size W.drew w3) : Below W.heap.size W w3 := ⟨h.os, h.tape, h.output, h.size, h.block⟩

theorem below_cell {B : Nat} {w w1 : World} (h : Below B w w1) {a : Addr} {v : Value} (hB : w.heap.size ≤ B) (hc : w.cell? a = some v) : w1.cell? a = some v :=
  (h.cell (Nat.lt_of_lt_of_le (World.block_lt_of_cell? w a hc) hB)).trans hc

theorem rdExpr_mem (xs : List Expr) (i : Int) (h0 : 0 ≤ i) (h1 : i < xs.length) : rdExpr xs i ∈ xs := by
  unfold rdExpr
  have : i.toNat < xs.length := by omega
  rw [List.getD_eq_getElem?_getD, List.getElem?_eq_getElem this]
  exact List.getElem_mem this

set_option maxRecDepth 100000 in
set_option maxHeartbeats 1600000 in
theorem text_kids (x : Expr) (cs : List Value) (w : World) (hx : kExpr.K w x cs) (hg : Glob w) (n1 : x.kind ≠ 1) (n2 : x.kind ≠ 2) (n3 : x.kind ≠ 3) (n5 : x.kind ≠ 5) (h0 : 0 < x.kids.length) (hm : x.kids.length ≤ 9223372036854775807) (hf : Fit 140737488355328 x)
    (ih : ∀ y, y ∈ x.kids → ∀ cs w, kExpr.K w y cs → Glob w → Calls Tryd.prog 15 #[.agg cs.toArray] w fun e w' => e = .returned (.string (bs (etext y))) ∧ Below w.heap.size w w') :
    Calls Tryd.prog 15 #[.agg cs.toArray] w fun e w' => e = .returned (.string (bs (etext x))) ∧ Below w.heap.size w w' := by
  obtain ⟨A6, c6, rfl, hn, hl, hc⟩ := kExpr_open hx
  have k1 : (x.kind == 1) = false := beq_eq_false_iff_ne.2 n1
  have k2 : (x.kind == 2) = false := beq_eq_false_iff_ne.2 n2
  have k3 : (x.kind == 3) = false := beq_eq_false_iff_ne.2 n3
  have k5 : (x.kind == 5) = false := beq_eq_false_iff_ne.2 n5
  have kl : ((x.kids.length : Int) == 0) = false := beq_eq_false_iff_ne.2 (by omega)
  have N1 := Lib.hid n1
  have N2 := Lib.hid n2
  have N3 := Lib.hid n3
  have N5 := Lib.hid n5
  have hw := IntWalk.wrap64_in ((x.kids.length : Int) - 1) (by omega)
  have hl1 : (0 : Int) ≤ wrap64 ((x.kids.length : Int) - 1) := by rw [hw]; omega
  have hl2 : wrap64 ((x.kids.length : Int) - 1) < (x.kids.length : Int) := by rw [hw]; omega
  clear hw
  have hl3 : (0 : Int) < (x.kids.length : Int) := by omega
  clear n1 n2 n3 n5 hx
  go_enter Tryd.func15, Tryd.ntmps15
  go_wp2_with (first | ((with_reducible refine gate_dst (N := 1) rfl ?_); refine box_event ?hg (N := 1) ?hd (cs := #[.int .i64 x.kind, .int .i64 x.pos.line, .int .i64 x.pos.col, .int .i64 x.num, .string x.name, .int .i64 x.op, .slice A6 x.kids.length c6]) (t := 51) ?hr ?_; (case hd => rfl); (case hg => rfl); (case hr => first | (go_simp; done) | (go_simp; rfl)); intro gb hgb W hbox hb; have Hgb := Lib.hid hgb; have Hbox := Lib.hid hbox; clear hgb hbox; have f6 : W.cell? ⟨gb, 6, none⟩ = some (.slice A6 x.kids.length c6) := (blk_cell Hbox.out 6).trans rfl; have f5 : W.cell? ⟨gb, 5, none⟩ = some (.int .i64 x.op) := (blk_cell Hbox.out 5).trans rfl; have f4 : W.cell? ⟨gb, 4, none⟩ = some (.string x.name) := (blk_cell Hbox.out 4).trans rfl; have f3 : W.cell? ⟨gb, 3, none⟩ = some (.int .i64 x.num) := (blk_cell Hbox.out 3).trans rfl; have f0 : W.cell? ⟨gb, 0, none⟩ = some (.int .i64 x.kind) := (blk_cell Hbox.out 0).trans rfl))
  have hcW := Kd.C_below hc hb
  have hgW : Glob W := hg.below hg.size hb
  obtain ⟨ad, B6, d6, rfl, e0, e1, e2, e3, e4, e5, e6, m0, l0, g0⟩ := atExpr hcW 0 (by omega) (by omega)
  obtain ⟨ad', D6, h6, hA, e0', e1', e2', e3', e4', e5', e6', m0', l0', g0'⟩ := atExpr hcW (wrap64 ((x.kids.length : Int) - 1)) hl1 hl2
  obtain rfl := Option.some.inj hA
  clear hA
  rw [show Int.toNat 0 * 7 = 0 from rfl, show ad.add 0 = ad from rfl] at e0 e1 e2 e3 e4 e5 e6
  obtain ⟨u0, hu0⟩ : ∃ u, u = rdExpr x.kids 0 := ⟨_, rfl⟩
  obtain ⟨u1, hu1⟩ : ∃ u, u = rdExpr x.kids (wrap64 ((x.kids.length : Int) - 1)) := ⟨_, rfl⟩
  have K0 : kExpr.K W u0 [.int .i64 u0.kind, .int .i64 u0.pos.line, .int .i64 u0.pos.col, .int .i64 u0.num, .string u0.name, .int .i64 u0.op, .slice B6 u0.kids.length d6] := kExpr_mk W u0 (by rw [hu0]; exact m0) (by rw [hu0]; exact l0) (by rw [hu0]; exact g0)
  have K1 : kExpr.K W u1 [.int .i64 u1.kind, .int .i64 u1.pos.line, .int .i64 u1.pos.col, .int .i64 u1.num, .string u1.name, .int .i64 u1.op, .slice D6 u1.kids.length h6] := kExpr_mk W u1 (by rw [hu1]; exact m0') (by rw [hu1]; exact l0') (by rw [hu1]; exact g0')
  rw [← hu0] at e0 e1 e2 e3 e4 e5 e6
  rw [← hu1] at e0' e1' e2' e3' e4' e5' e6'
  clear m0 l0 g0 m0' l0' g0'
  have hmu0 : u0 ∈ x.kids := by rw [hu0]; exact rdExpr_mem _ _ (by omega) (by omega)
  have hmu1 : u1 ∈ x.kids := by rw [hu1]; exact rdExpr_mem _ _ hl1 hl2
  have Hu0 := Lib.hid hu0
  have Hu1 := Lib.hid hu1
  clear hu0 hu1
  refine start_ (n := 16) (S := fun w' => w'.cell? ⟨gb, 6, none⟩ = some (.slice (some ad) x.kids.length c6) ∧ w'.cell? ad = some (.int .i64 u0.kind) ∧ w'.cell? ⟨ad.block, ad.off + 1, none⟩ = some (.int .i64 u0.pos.line) ∧ w'.cell? ⟨ad.block, ad.off + 2, none⟩ = some (.int .i64 u0.pos.col) ∧ w'.cell? ⟨ad.block, ad.off + 3, none⟩ = some (.int .i64 u0.num) ∧ w'.cell? ⟨ad.block, ad.off + 4, none⟩ = some (.string u0.name) ∧ w'.cell? ⟨ad.block, ad.off + 5, none⟩ = some (.int .i64 u0.op) ∧ w'.cell? ⟨ad.block, ad.off + 6, none⟩ = some (.slice B6 u0.kids.length d6) ∧ w'.cell? (ad.add ((wrap64 ((x.kids.length : Int) - 1)).toNat * 7)) = some (.int .i64 u1.kind) ∧ w'.cell? ⟨(ad.add ((wrap64 ((x.kids.length : Int) - 1)).toNat * 7)).block, (ad.add ((wrap64 ((x.kids.length : Int) - 1)).toNat * 7)).off + 1, none⟩ = some (.int .i64 u1.pos.line) ∧ w'.cell? ⟨(ad.add ((wrap64 ((x.kids.length : Int) - 1)).toNat * 7)).block, (ad.add ((wrap64 ((x.kids.length : Int) - 1)).toNat * 7)).off + 2, none⟩ = some (.int .i64 u1.pos.col) ∧ w'.cell? ⟨(ad.add ((wrap64 ((x.kids.length : Int) - 1)).toNat * 7)).block, (ad.add ((wrap64 ((x.kids.length : Int) - 1)).toNat * 7)).off + 3, none⟩ = some (.int .i64 u1.num) ∧ w'.cell? ⟨(ad.add ((wrap64 ((x.kids.length : Int) - 1)).toNat * 7)).block, (ad.add ((wrap64 ((x.kids.length : Int) - 1)).toNat * 7)).off + 4, none⟩ = some (.string u1.name) ∧ w'.cell? ⟨(ad.add ((wrap64 ((x.kids.length : Int) - 1)).toNat * 7)).block, (ad.add ((wrap64 ((x.kids.length : Int) - 1)).toNat * 7)).off + 5, none⟩ = some (.int .i64 u1.op) ∧ w'.cell? ⟨(ad.add ((wrap64 ((x.kids.length : Int) - 1)).toNat * 7)).block, (ad.add ((wrap64 ((x.kids.length : Int) - 1)).toNat * 7)).off + 6, none⟩ = some (.slice D6 u1.kids.length h6)) (ds := []) #[false, false, false, false, false, false, false, false, false, false, false, false, false, false, false, false] (by kernel_rfl) rfl rfl ⟨f6, e0, e1, e2, e3, e4, e5, e6, e0', e1', e2', e3', e4', e5', e6'⟩ (fun hHeld => ?_)
  refine pure_ (i := 0) (N := some 50) (v := ?_) (a' := ?_) #[true, false, false, false, false, false, false, false, false, false, false, false, false, false, false, false] rfl rfl (by kernel_rfl) (fun _ _ _ h => h) (Or.inl ⟨by rfl, ?_⟩) ?_ ?_
  rotate_left
  · intro w'
    go_simp
    with_reducible rfl
  rotate_left
  · simp only [Act.put, List.setIfInBounds_toArray, List.set_cons_zero, List.set_cons_succ, i64_w, i32_w]
    rfl
  refine pure_ (i := 5) (N := some 55) (v := ?_) (a' := ?_) #[true, false, false, false, false, true, false, false, false, false, false, false, false, false, false, false] rfl rfl (by kernel_rfl) (fun _ _ _ h => h) (Or.inl ⟨by rfl, ?_⟩) ?_ ?_
  rotate_left
  · intro w'
    go_simp
    with_reducible rfl
  rotate_left
  · simp only [Act.put, List.setIfInBounds_toArray, List.set_cons_zero, List.set_cons_succ, i64_w, i32_w]
    rfl
  refine pure_ (i := 7) (N := some 57) (v := ?_) (a' := ?_) #[true, false, false, false, false, true, false, true, false, false, false, false, false, false, false, false] rfl rfl (by kernel_rfl) (fun _ _ _ h => h) (Or.inl ⟨by rfl, ?_⟩) ?_ ?_
  rotate_left
  · intro w'
    go_simp
    with_reducible rfl
  rotate_left
  · simp only [Act.put, List.setIfInBounds_toArray, List.set_cons_zero, List.set_cons_succ, i64_w, i32_w]
    rfl
  refine take_ (i := 1) (N := some 51) (v := ?_) (a' := ?_) #[true, true, false, false, false, true, false, true, false, false, false, false, false, false, false, false] rfl rfl (by kernel_rfl) (fun _ _ _ h => h) (Or.inl ⟨by rfl, ?_⟩) hHeld ?_ ?_
  rotate_left
  · rintro w' ⟨s0, s1, s2, s3, s4, s5, s6, s7, s8, s9, s10, s11, s12, s13, s14⟩
    go_simp
    with_reducible rfl
  rotate_left
  · simp only [Act.put, List.setIfInBounds_toArray, List.set_cons_zero, List.set_cons_succ, i64_w, i32_w]
    rfl
  refine pure_ (i := 2) (N := some 52) (v := ?_) (a' := ?_) #[true, true, true, false, false, true, false, true, false, false, false, false, false, false, false, false] rfl rfl (by kernel_rfl) (fun _ _ _ h => h) (Or.inl ⟨by rfl, ?_⟩) ?_ ?_
  rotate_left
  · intro w'
    go_simp
    with_reducible rfl
  rotate_left
  · simp only [Act.put, List.setIfInBounds_toArray, List.set_cons_zero, List.set_cons_succ, i64_w, i32_w]
    rfl
  refine take_ (i := 3) (N := some 53) (v := ?_) (a' := ?_) #[true, true, true, true, false, true, false, true, false, false, false, false, false, false, false, false] rfl rfl (by kernel_rfl) (fun _ _ _ h => h) (Or.inl ⟨by rfl, ?_⟩) hHeld ?_ ?_
  rotate_left
  · rintro w' ⟨s0, s1, s2, s3, s4, s5, s6, s7, s8, s9, s10, s11, s12, s13, s14⟩
    go_simp
    with_reducible rfl
  rotate_left
  · simp only [Act.put, List.setIfInBounds_toArray, List.set_cons_zero, List.set_cons_succ, i64_w, i32_w]
    rfl
  refine take_ (i := 6) (N := some 56) (v := ?_) (a' := ?_) #[true, true, true, true, false, true, true, true, false, false, false, false, false, false, false, false] rfl rfl (by kernel_rfl) (fun _ _ _ h => h) (Or.inl ⟨by rfl, ?_⟩) hHeld ?_ ?_
  rotate_left
  · rintro w' ⟨s0, s1, s2, s3, s4, s5, s6, s7, s8, s9, s10, s11, s12, s13, s14⟩
    go_simp
    with_reducible rfl
  rotate_left
  · simp only [Act.put, List.setIfInBounds_toArray, List.set_cons_zero, List.set_cons_succ, i64_w, i32_w]
    rfl
  refine take_ (i := 8) (N := some 58) (v := ?_) (a' := ?_) #[true, true, true, true, false, true, true, true, true, false, false, false, false, false, false, false] rfl rfl (by kernel_rfl) (fun _ _ _ h => h) (Or.inl ⟨by rfl, ?_⟩) hHeld ?_ ?_
  rotate_left
  · rintro w' ⟨s0, s1, s2, s3, s4, s5, s6, s7, s8, s9, s10, s11, s12, s13, s14⟩
    go_simp
    with_reducible rfl
  rotate_left
  · simp only [Act.put, List.setIfInBounds_toArray, List.set_cons_zero, List.set_cons_succ, i64_w, i32_w]
    rfl
  refine pure_ (i := 9) (N := some 59) (v := ?_) (a' := ?_) #[true, true, true, true, false, true, true, true, true, true, false, false, false, false, false, false] rfl rfl (by kernel_rfl) (fun _ _ _ h => h) (Or.inl ⟨by rfl, ?_⟩) ?_ ?_
  rotate_left
  · intro w'
    go_simp
    with_reducible rfl
  rotate_left
  · simp only [Act.put, List.setIfInBounds_toArray, List.set_cons_zero, List.set_cons_succ, i64_w, i32_w]
    rfl
  refine pure_ (i := 10) (N := some 60) (v := ?_) (a' := ?_) #[true, true, true, true, false, true, true, true, true, true, true, false, false, false, false, false] rfl rfl (by kernel_rfl) (fun _ _ _ h => h) (Or.inl ⟨by rfl, ?_⟩) ?_ ?_
  rotate_left
  · intro w'
    go_simp
    with_reducible rfl
  rotate_left
  · simp only [Act.put, List.setIfInBounds_toArray, List.set_cons_zero, List.set_cons_succ, i64_w, i32_w]
    rfl
  refine pure_ (i := 11) (N := some 61) (v := ?_) (a' := ?_) #[true, true, true, true, false, true, true, true, true, true, true, true, false, false, false, false] rfl rfl (by kernel_rfl) (fun _ _ _ h => h) (Or.inl ⟨by rfl, ?_⟩) ?_ ?_
  rotate_left
  · intro w'
    go_simp
    with_reducible rfl
  rotate_left
  · simp only [Act.put, List.setIfInBounds_toArray, List.set_cons_zero, List.set_cons_succ, i64_w, i32_w]
    rfl
  refine take_ (i := 12) (N := some 62) (v := ?_) (a' := ?_) #[true, true, true, true, false, true, true, true, true, true, true, true, true, false, false, false] rfl rfl (by kernel_rfl) (fun _ _ _ h => h) (Or.inl ⟨by rfl, ?_⟩) hHeld ?_ ?_
  rotate_left
  · rintro w' ⟨s0, s1, s2, s3, s4, s5, s6, s7, s8, s9, s10, s11, s12, s13, s14⟩
    go_simp
    with_reducible rfl
  rotate_left
  · simp only [Act.put, List.setIfInBounds_toArray, List.set_cons_zero, List.set_cons_succ, i64_w, i32_w]
    rfl
  refine one_ (i := 4) (N := some 54) #[true, true, true, true, true, true, true, true, true, true, true, true, true, false, false, false] rfl rfl (by kernel_rfl) (by decide) (fun K hK => ?_)
  refine goes_ Tryd.func15 (by kernel_rfl) rfl #[.agg #[.int .i64 u0.kind, .int .i64 u0.pos.line, .int .i64 u0.pos.col, .int .i64 u0.num, .string u0.name, .int .i64 u0.op, .slice B6 u0.kids.length d6]] (by rfl) rfl rfl (by simp only [List.map_toArray, List.map_cons, List.map_nil]; rfl) ?_
  with_reducible refine (ih u0 hmu0 _ _ (kExpr.K_below (below_drew1 (Below.refl _ _)) K0) (hgW.below (Glob.size hgW) (below_drew1 (Below.refl _ _)))).mono ?_
  rintro e w3 ⟨rfl, hb3⟩
  refine ⟨_, rfl, ?_⟩
  have hc1 := Lib.hid hb3
  refine hK.out _ _ ⟨below_cell hb3 (Nat.le_refl _) (hHeld.1), below_cell hb3 (Nat.le_refl _) (hHeld.2.1), below_cell hb3 (Nat.le_refl _) (hHeld.2.2.1), below_cell hb3 (Nat.le_refl _) (hHeld.2.2.2.1), below_cell hb3 (Nat.le_refl _) (hHeld.2.2.2.2.1), below_cell hb3 (Nat.le_refl _) (hHeld.2.2.2.2.2.1), below_cell hb3 (Nat.le_refl _) (hHeld.2.2.2.2.2.2.1), below_cell hb3 (Nat.le_refl _) (hHeld.2.2.2.2.2.2.2.1), below_cell hb3 (Nat.le_refl _) (hHeld.2.2.2.2.2.2.2.2.1), below_cell hb3 (Nat.le_refl _) (hHeld.2.2.2.2.2.2.2.2.2.1), below_cell hb3 (Nat.le_refl _) (hHeld.2.2.2.2.2.2.2.2.2.2.1), below_cell hb3 (Nat.le_refl _) (hHeld.2.2.2.2.2.2.2.2.2.2.2.1), below_cell hb3 (Nat.le_refl _) (hHeld.2.2.2.2.2.2.2.2.2.2.2.2.1), below_cell hb3 (Nat.le_refl _) (hHeld.2.2.2.2.2.2.2.2.2.2.2.2.2.1), below_cell hb3 (Nat.le_refl _) (hHeld.2.2.2.2.2.2.2.2.2.2.2.2.2.2)⟩ (fun hHeld => ?_)
  clear hK K
  refine norm_ (a' := ?_) ?_ ?_
  rotate_left
  · show Act.put _ (some 54) _ = _
    simp only [Act.put, List.setIfInBounds_toArray, List.set_cons_zero, List.set_cons_succ, i64_w, i32_w]
    rfl
  refine one_ (i := 13) (N := some 63) #[true, true, true, true, true, true, true, true, true, true, true, true, true, true, false, false] rfl rfl (by kernel_rfl) (by decide) (fun K hK => ?_)
  refine goes_ Tryd.func15 (by kernel_rfl) rfl #[.agg #[.int .i64 u1.kind, .int .i64 u1.pos.line, .int .i64 u1.pos.col, .int .i64 u1.num, .string u1.name, .int .i64 u1.op, .slice D6 u1.kids.length h6]] (by rfl) rfl rfl (by simp only [List.map_toArray, List.map_cons, List.map_nil]; rfl) ?_
  with_reducible refine (ih u1 hmu1 _ _ (kExpr.K_below (below_step (below_drew1 (Below.refl _ _)) hc1.out) K1) (hgW.below (Glob.size hgW) (below_step (below_drew1 (Below.refl _ _)) hc1.out))).mono ?_
  rintro e w3 ⟨rfl, hb3⟩
  refine ⟨_, rfl, ?_⟩
  have hc2 := Lib.hid hb3
  refine hK.out _ _ ⟨below_cell hb3 (Nat.le_refl _) (hHeld.1), below_cell hb3 (Nat.le_refl _) (hHeld.2.1), below_cell hb3 (Nat.le_refl _) (hHeld.2.2.1), below_cell hb3 (Nat.le_refl _) (hHeld.2.2.2.1), below_cell hb3 (Nat.le_refl _) (hHeld.2.2.2.2.1), below_cell hb3 (Nat.le_refl _) (hHeld.2.2.2.2.2.1), below_cell hb3 (Nat.le_refl _) (hHeld.2.2.2.2.2.2.1), below_cell hb3 (Nat.le_refl _) (hHeld.2.2.2.2.2.2.2.1), below_cell hb3 (Nat.le_refl _) (hHeld.2.2.2.2.2.2.2.2.1), below_cell hb3 (Nat.le_refl _) (hHeld.2.2.2.2.2.2.2.2.2.1), below_cell hb3 (Nat.le_refl _) (hHeld.2.2.2.2.2.2.2.2.2.2.1), below_cell hb3 (Nat.le_refl _) (hHeld.2.2.2.2.2.2.2.2.2.2.2.1), below_cell hb3 (Nat.le_refl _) (hHeld.2.2.2.2.2.2.2.2.2.2.2.2.1), below_cell hb3 (Nat.le_refl _) (hHeld.2.2.2.2.2.2.2.2.2.2.2.2.2.1), below_cell hb3 (Nat.le_refl _) (hHeld.2.2.2.2.2.2.2.2.2.2.2.2.2.2)⟩ (fun hHeld => ?_)
  clear hK K
  refine norm_ (a' := ?_) ?_ ?_
  rotate_left
  · show Act.put _ (some 63) _ = _
    simp only [Act.put, List.setIfInBounds_toArray, List.set_cons_zero, List.set_cons_succ, i64_w, i32_w]
    rfl
  refine pure_ (i := 14) (N := some 6) (v := ?_) (a' := ?_) #[true, true, true, true, true, true, true, true, true, true, true, true, true, true, true, false] rfl rfl (by kernel_rfl) (fun _ _ _ h => h) (Or.inl ⟨by rfl, ?_⟩) ?_ ?_
  rotate_left
  · intro w'
    go_simp
    with_reducible rfl
  rotate_left
  · simp only [Act.put, List.setIfInBounds_toArray, List.set_cons_zero, List.set_cons_succ, i64_w, i32_w]
    rfl
  refine pure_ (i := 15) (N := some 7) (v := ?_) (a' := ?_) #[true, true, true, true, true, true, true, true, true, true, true, true, true, true, true, true] rfl rfl (by kernel_rfl) (fun _ _ _ h => h) (Or.inl ⟨by rfl, ?_⟩) ?_ ?_
  rotate_left
  · intro w'
    go_simp
    with_reducible rfl
  rotate_left
  · simp only [Act.put, List.setIfInBounds_toArray, List.set_cons_zero, List.set_cons_succ, i64_w, i32_w]
    rfl
  refine done_ (by kernel_rfl) ?_
  have hb3 : Below W.heap.size W w3 := below_undrew (below_step hc1.out hc2.out)
  have hb4 := below_step hb hb3
  obtain ⟨s6, -, -, -, -, -, -, -, -, -, -, -, -, -, -⟩ := hHeld
  replace f0 := below_cell hb3 (Nat.le_refl _) f0
  replace f4 := below_cell hb3 (Nat.le_refl _) f4
  replace f5 := below_cell hb3 (Nat.le_refl _) f5
  have hg3 : Glob w3 := hg.below hg.size hb4
  have z0 : (bs (etext u0)).size ≤ 140737488355328 := by rw [bs_size]; exact ((hf.kids.mem) u0 hmu0).le
  have z1 : (bs (etext u1)).size ≤ 140737488355328 := by rw [bs_size]; exact ((hf.kids.mem) u1 hmu1).le
  have zs := signOf_size x.op
  have HF := Lib.hid hf
  have t0 := head_text x.kids h0
  have t1 := last_text x.kids h0 hm
  rw [← Hu0.out] at t0
  rw [← Hu1.out] at t1
  have T0 := Lib.hid t0
  have T1 := Lib.hid t1
  have hne : x.kids ≠ [] := by intro h; rw [h] at h0; simp at h0
  have HN := Lib.hid hne
  clear hf t0 t1 hne ih
  by_cases n4 : x.kind = 4
  · have k4 : (x.kind == 4) = true := beq_iff_eq.2 n4
    have zn : x.name.size ≤ 140737488355328 := by
      have := HF.out.le
      rw [etext_eq x, if_neg N1.out, if_neg N2.out, if_neg N3.out, if_neg N5.out, if_neg HN.out, if_pos n4] at this
      simp only [List.length_append, size_toList] at this
      omega
    have N4 := Lib.hid n4
    clear n4
    go_wp2
    go_ret
    refine ⟨ret_str ?_, hb4⟩
    rw [etext_eq x, if_neg N1.out, if_neg N2.out, if_neg N3.out, if_neg N5.out, if_neg HN.out, if_pos N4.out, T0.out]
    simp only [← bs_add, ← bs_of]; rfl
  · have k4 : (x.kind == 4) = false := beq_eq_false_iff_ne.2 n4
    have N4 := Lib.hid n4
    clear n4
    by_cases n9 : x.kind = 9
    · have k9 : (x.kind == 9) = true := beq_iff_eq.2 n9
      have N9 := Lib.hid n9
      clear n9
      go_wp2
      go_ret
      refine ⟨ret_str ?_, hb4⟩
      rw [etext_eq x, if_neg N1.out, if_neg N2.out, if_neg N3.out, if_neg N5.out, if_neg HN.out, if_neg N4.out, if_pos N9.out, T0.out]
      simp only [← bs_add]; rfl
    · have k9 : (x.kind == 9) = false := beq_eq_false_iff_ne.2 n9
      have N9 := Lib.hid n9
      clear n9
      by_cases n7 : x.kind = 7
      · have k7 : (x.kind == 7) = true := beq_iff_eq.2 n7
        have N7 := Lib.hid n7
        clear n7
        go_wp2
        go_ret
        refine ⟨ret_str ?_, hb4⟩
        rw [etext_eq x, if_neg N1.out, if_neg N2.out, if_neg N3.out, if_neg N5.out, if_neg HN.out, if_neg N4.out, if_neg N9.out, if_pos N7.out, T0.out, T1.out]
        simp only [← bs_add]; rfl
      · have k7 : (x.kind == 7) = false := beq_eq_false_iff_ne.2 n7
        have N7 := Lib.hid n7
        clear n7
        by_cases n8 : x.kind = 8
        · have k8 : (x.kind == 8) = true := beq_iff_eq.2 n8
          have N8 := Lib.hid n8
          clear n8
          go_wp2
          go_ret
          refine ⟨ret_str ?_, hb4⟩
          rw [etext_eq x, if_neg N1.out, if_neg N2.out, if_neg N3.out, if_neg N5.out, if_neg HN.out, if_neg N4.out, if_neg N9.out, if_neg N7.out, if_pos N8.out, T0.out, T1.out]
          simp only [← bs_add]; rfl
        · have k8 : (x.kind == 8) = false := beq_eq_false_iff_ne.2 n8
          have N8 := Lib.hid n8
          clear n8
          go_wp2_with (first | (go_at_call 29; refine (sign_calls _ _ hg3).mono ?_; rintro e w' ⟨rfl, rfl⟩))
          go_ret
          refine ⟨ret_str ?_, hb4⟩
          rw [etext_eq x, if_neg N1.out, if_neg N2.out, if_neg N3.out, if_neg N5.out, if_neg HN.out, if_neg N4.out, if_neg N9.out, if_neg N7.out, if_neg N8.out, T0.out, T1.out]
          simp only [← bs_add, ← bs_of]; rfl

theorem cell_plain {w : World} {a : Addr} {v : Value} (h : w.cell? a = some v) : a.spot = none := by
  unfold World.cell? at h
  split at h
  · split at h
    · cases h
    · rename_i hs
      cases hsp : a.spot with
      | none => rfl
      | some x => rw [hsp] at hs; simp at hs
  · cases h
theorem addr_plain {a : Addr} (h : a.spot = none) : a = ⟨a.block, a.off, none⟩ := by cases a; simp_all
theorem add_of_plain {a : Addr} (h : a.spot = none) (j : Nat) : a.add j = ⟨a.block, a.off + j, none⟩ := by
  unfold Addr.add
  split
  · rename_i h0
    subst h0
    exact addr_plain h
  · rfl

theorem reads_drew {α : Type} {enc : α → Value} {d : α} {w : World} {A : Option Addr} {n : Nat} {xs : List α} (h : ReadsOf enc d w A n xs) : ReadsOf enc d w.drew A n xs := h

/-- strings.Join of what is read, however many. -/
theorem join_calls (A : Option Addr) (c : Nat) (xs : List ByteArray) (sep : ByteArray) (w : World) (hr : ReadsOf Value.string ByteArray.empty w A xs.length xs) (hc : xs.length ≤ c) (hN : xs.length ≤ 140737488355328)
    (hlen : (Lib.join (xs.map (·.data.toList)) sep.data.toList).length ≤ 140737488355328) :
    Calls Tryd.prog 28 #[.slice A xs.length c, .string sep] w fun e w' => e = .returned (.string (bs (Lib.join (xs.map (·.data.toList)) sep.data.toList))) ∧ Below w.heap.size w w' := by
  rcases Nat.eq_zero_or_pos xs.length with h0 | h0
  · obtain rfl := List.eq_nil_of_length_eq_zero h0
    exact (Tryd.strings_Join_none A c sep w).mono fun e w' ⟨he, hw⟩ => ⟨he, hw ▸ Below.refl _ _⟩
  · obtain ⟨ad, rfl, hcell⟩ := hr.2.2 h0
    have hp := cell_plain (hcell 0 h0)
    have hp' : ad.spot = none := by simpa [Addr.add] using hp
    have hb := World.block_lt_of_cell? w _ (hcell 0 h0)
    rw [add_block] at hb
    rw [addr_plain hp']
    refine Tryd.strings_Join ad.block ad.off c xs sep w (fun j x hx => ?_) hb hN hc hlen
    have hj : j < xs.length := (List.getElem?_eq_some_iff.1 hx).1
    have := hcell j hj
    rw [add_of_plain hp'] at this
    rw [this]
    simp [List.getD_eq_getElem?_getD, hx]

theorem infoStr : (Tryd.prog.info? 9).map (fun i => (i.zero, i.size, i.bytes)) = some (some (.string ⟨#[]⟩), 1, 16) := by kernel_rfl

theorem etexts_take (l : List Expr) (k : Nat) (h : k < l.length) : ((etexts l).take (k + 1)).map bs = ((etexts l).take k).map bs ++ [bs (etext (rdExpr l k))] := by
  rw [etexts_map, List.take_succ_eq_append_getElem (by simpa using h), List.map_append]
  congr 1
  simp [rdExpr, List.getD_eq_getElem?_getD, h]
theorem etexts_length (l : List Expr) : (etexts l).length = l.length := by rw [etexts_map, List.length_map]

set_option maxRecDepth 100000 in
set_option maxHeartbeats 1600000 in
theorem text_call (x : Expr) (cs : List Value) (w : World) (hx : kExpr.K w x cs) (hg : Glob w) (n5 : x.kind = 5) (hm : x.kids.length ≤ 8000000000000) (hf : Fit 140737488355328 x)
    (ih : ∀ y, y ∈ x.kids → ∀ cs w, kExpr.K w y cs → Glob w → Calls Tryd.prog 15 #[.agg cs.toArray] w fun e w' => e = .returned (.string (bs (etext y))) ∧ Below w.heap.size w w') :
    Calls Tryd.prog 15 #[.agg cs.toArray] w fun e w' => e = .returned (.string (bs (etext x))) ∧ Below w.heap.size w w' := by
  obtain ⟨A6, c6, rfl, hn, hl, hc⟩ := kExpr_open hx
  have k1 : (x.kind == 1) = false := beq_eq_false_iff_ne.2 (by omega)
  have k2 : (x.kind == 2) = false := beq_eq_false_iff_ne.2 (by omega)
  have k3 : (x.kind == 3) = false := beq_eq_false_iff_ne.2 (by omega)
  have k5 : (x.kind == 5) = true := beq_iff_eq.2 n5
  have N5 := Lib.hid n5
  clear n5 hx
  go_enter Tryd.func15, Tryd.ntmps15
  go_wp2_with (first | ((with_reducible refine gate_dst (N := 1) rfl ?_); refine box_event ?hg (N := 1) ?hd (cs := #[.int .i64 x.kind, .int .i64 x.pos.line, .int .i64 x.pos.col, .int .i64 x.num, .string x.name, .int .i64 x.op, .slice A6 x.kids.length c6]) (t := 51) ?hr ?_; (case hd => rfl); (case hg => rfl); (case hr => first | (go_simp; done) | (go_simp; rfl)); intro gb hgb W hbox hb; have Hgb := Lib.hid hgb; have Hbox := Lib.hid hbox; clear hgb hbox; have f6 : W.cell? ⟨gb, 6, none⟩ = some (.slice A6 x.kids.length c6) := (blk_cell Hbox.out 6).trans rfl; have f5 : W.cell? ⟨gb, 5, none⟩ = some (.int .i64 x.op) := (blk_cell Hbox.out 5).trans rfl; have f4 : W.cell? ⟨gb, 4, none⟩ = some (.string x.name) := (blk_cell Hbox.out 4).trans rfl; have f3 : W.cell? ⟨gb, 3, none⟩ = some (.int .i64 x.num) := (blk_cell Hbox.out 3).trans rfl; have f0 : W.cell? ⟨gb, 0, none⟩ = some (.int .i64 x.kind) := (blk_cell Hbox.out 0).trans rfl))
  have hcW := Kd.C_below hc hb
  have hgW : Glob W := hg.below hg.size hb
  go_loopg [3, 29] x.kids.length (fun kq v3 v29 w' => ∃ i : Int, v29 = .int .i64 i ∧ 0 ≤ i ∧ kq + i.toNat = x.kids.length ∧ Aside0 (w'.ownsRow W.heap.size 9 1 v3 (((etexts x.kids).take i.toNat).map bs).length (encs Value.string (((etexts x.kids).take i.toNat).map bs))) ∧ Aside0 (Below W.heap.size W w'))
  case atStart => exact ⟨0, rfl, by omega, by simp, ⟨by simpa [encs] using own_nil _ _ _ _⟩, ⟨Below.refl _ _⟩⟩
  case round =>
    obtain ⟨i, rfl, hi0, hk, HO, HB⟩ := hrel
    cases gk with
    | zero =>
      have hge : decide (i < (x.kids.length : Int)) = false := by simp; omega
      obtain rfl : i = x.kids.length := by omega
      rw [show ((x.kids.length : Int)).toNat = x.kids.length by simp, List.take_of_length_le (by rw [etexts_length]; exact Nat.le_refl _)] at HO
      obtain ⟨ss, hss⟩ : ∃ ss, ss = List.map bs (etexts x.kids) := ⟨_, rfl⟩
      rw [← hss] at HO
      obtain ⟨A, c, hu3, hc0, hrd⟩ := own_reads_of_le (d := ByteArray.empty) HO.out
      have Hrd := Aside0.mk hrd
      have Hc0 := Aside0.mk hc0
      subst hu3
      have f6' := below_cell HB.out (Nat.le_refl _) f6
      have f4' := below_cell HB.out (Nat.le_refl _) f4
      have hle := hf.le
      rw [etext_eq x, if_neg (by rw [N5.out]; decide), if_neg (by rw [N5.out]; decide), if_neg (by rw [N5.out]; decide), if_pos N5.out] at hle
      simp only [List.length_append, size_toList, List.length_singleton] at hle
      have hmap : (List.map (fun x => x.data.toList) ss) = etexts x.kids := by
        rw [hss, List.map_map]
        exact List.map_id _
      have hln : ss.length ≤ 8000000000000 := by rw [hss, List.length_map, etexts_length]; exact hm
      have hj : (bs (Lib.join (etexts x.kids) [44, 32])).size ≤ 140737488355328 := by rw [bs_size]; omega
      have HM := Aside0.mk hmap
      have HL := Aside0.mk hle
      have hz1 : ¬ 9223372036854775807 < x.name.size + 1 := by omega
      have hz2 : ¬ 9223372036854775807 < x.name.size + 1 + (bs (Lib.join (etexts x.kids) [44, 32])).size := by omega
      have hz3 : ¬ 9223372036854775807 < x.name.size + 1 + (bs (Lib.join (etexts x.kids) [44, 32])).size + 1 := by omega
      clear hrd hc0 hmap hle hj hss
      go_wp2_with fail
      refine start_ (n := 8) (S := fun w' => w'.cell? ⟨gb, 4, none⟩ = some (.string x.name)) (ds := []) #[false, false, false, false, false, false, false, false] (by kernel_rfl) rfl rfl (f4') (fun hHeld => ?_)
      refine pure_ (i := 0) (N := some 39) (v := ?_) (a' := ?_) #[true, false, false, false, false, false, false, false] rfl rfl (by kernel_rfl) (fun _ _ _ h => h) (Or.inl ⟨by rfl, ?_⟩) ?_ ?_
      rotate_left
      · intro w'
        go_simp
        with_reducible rfl
      rotate_left
      · simp only [Act.put, List.setIfInBounds_toArray, List.set_cons_zero, List.set_cons_succ, i64_w, i32_w]
        rfl
      refine pure_ (i := 3) (N := some 42) (v := ?_) (a' := ?_) #[true, false, false, true, false, false, false, false] rfl rfl (by kernel_rfl) (fun _ _ _ h => h) (Or.inl ⟨by rfl, ?_⟩) ?_ ?_
      rotate_left
      · intro w'
        go_simp
        with_reducible rfl
      rotate_left
      · simp only [Act.put, List.setIfInBounds_toArray, List.set_cons_zero, List.set_cons_succ, i64_w, i32_w]
        rfl
      refine take_ (i := 1) (N := some 40) (v := ?_) (a' := ?_) #[true, true, false, true, false, false, false, false] rfl rfl (by kernel_rfl) (fun _ _ _ h => h) (Or.inl ⟨by rfl, ?_⟩) hHeld ?_ ?_
      rotate_left
      · intro w' s0
        go_simp
        with_reducible rfl
      rotate_left
      · simp only [Act.put, List.setIfInBounds_toArray, List.set_cons_zero, List.set_cons_succ, i64_w, i32_w]
        rfl
      refine pure_ (i := 2) (N := some 41) (v := ?_) (a' := ?_) #[true, true, true, true, false, false, false, false] rfl rfl (by kernel_rfl) (fun _ _ _ h => h) (Or.inl ⟨by rfl, ?_⟩) ?_ ?_
      rotate_left
      · intro w'
        go_simp
        with_reducible rfl
      rotate_left
      · simp only [Act.put, List.setIfInBounds_toArray, List.set_cons_zero, List.set_cons_succ, i64_w, i32_w]
        rfl
      refine one_ (i := 4) (N := some 43) #[true, true, true, true, true, false, false, false] rfl rfl (by kernel_rfl) (by decide) (fun K hK => ?_)
      refine goes_ Tryd.func28 (by kernel_rfl) rfl #[.slice A ss.length c, .string ⟨#[44, 32]⟩] (by rfl) rfl rfl (by simp only [List.map_toArray, List.map_cons, List.map_nil]; rfl) ?_
      with_reducible refine (join_calls A c ss ⟨#[44, 32]⟩ _ (reads_drew Hrd.out) Hc0.out (by omega) (by rw [HM.out]; have := HL.out; show (Lib.join (etexts x.kids) [44, 32]).length ≤ 140737488355328; omega)).mono ?_
      rintro e w3 ⟨rfl, hb3⟩
      refine ⟨_, rfl, ?_⟩
      rw [HM.out]
      have hc1 := Lib.hid hb3
      refine hK.out _ _ (below_cell hb3 (Nat.le_refl _) hHeld) (fun hHeld => ?_)
      clear hK K
      refine norm_ (a' := ?_) ?_ ?_
      rotate_left
      · show Act.put _ (some 43) _ = _
        simp only [Act.put, List.setIfInBounds_toArray, List.set_cons_zero, List.set_cons_succ, i64_w, i32_w]
        rfl
      refine pure_ (i := 5) (N := some 44) (v := ?_) (a' := ?_) #[true, true, true, true, true, true, false, false] rfl rfl (by kernel_rfl) (fun _ _ _ h => h) (Or.inl ⟨by rfl, ?_⟩) ?_ ?_
      rotate_left
      · intro w'
        go_simp
        with_reducible rfl
      rotate_left
      · simp only [Act.put, List.setIfInBounds_toArray, List.set_cons_zero, List.set_cons_succ, i64_w, i32_w]
        rfl
      refine pure_ (i := 6) (N := some 45) (v := ?_) (a' := ?_) #[true, true, true, true, true, true, true, false] rfl rfl (by kernel_rfl) (fun _ _ _ h => h) (Or.inl ⟨by rfl, ?_⟩) ?_ ?_
      rotate_left
      · intro w'
        go_simp
        with_reducible rfl
      rotate_left
      · simp only [Act.put, List.setIfInBounds_toArray, List.set_cons_zero, List.set_cons_succ, i64_w, i32_w]
        rfl
      refine pure_ (i := 7) (N := some 2) (v := ?_) (a' := ?_) #[true, true, true, true, true, true, true, true] rfl rfl (by kernel_rfl) (fun _ _ _ h => h) (Or.inl ⟨by rfl, ?_⟩) ?_ ?_
      rotate_left
      · intro w'
        go_simp
        with_reducible rfl
      rotate_left
      · simp only [Act.put, List.setIfInBounds_toArray, List.set_cons_zero, List.set_cons_succ, i64_w, i32_w]
        rfl
      refine done_ (by kernel_rfl) ?_
      go_wp2
      go_ret
      refine ⟨ret_str ?_, below_step hb (below_step HB.out (below_undrew hc1.out))⟩
      rw [etext_eq x, if_neg (by rw [N5.out]; decide), if_neg (by rw [N5.out]; decide), if_neg (by rw [N5.out]; decide), if_pos N5.out]
      simp only [← bs_add, ← bs_of]
      rfl
    | succ k1 =>
      have hi1 : i < (x.kids.length : Int) := by omega
      have hcr := Kd.C_below hcW HB.out
      obtain ⟨ad, B6, d6, rfl, e0, e1, e2, e3, e4, e5, e6, m0, l0, g0⟩ := atExpr hcr i hi0 hi1
      have hmu : rdExpr x.kids i ∈ x.kids := rdExpr_mem _ _ hi0 hi1
      have K0 : kExpr.K wr (rdExpr x.kids i) [.int .i64 (rdExpr x.kids i).kind, .int .i64 (rdExpr x.kids i).pos.line, .int .i64 (rdExpr x.kids i).pos.col, .int .i64 (rdExpr x.kids i).num, .string (rdExpr x.kids i).name, .int .i64 (rdExpr x.kids i).op, .slice B6 (rdExpr x.kids i).kids.length d6] := kExpr_mk wr _ m0 l0 g0
      go_wp2_with (first | (go_at_call 15; refine (ih _ hmu _ _ (kExpr.K_below ((Below.refl _ _).alloc (Nat.le_refl _) _) K0) (hgW.below hgW.size ((HB.out).alloc HB.out.size _))).mono ?_; rintro e w1 ⟨rfl, hb1⟩; have HB1 := Aside0.mk (below_step (HB.out.alloc HB.out.size _) hb1); have HO1 := Aside0.mk (pw_own_below (HO.out.alloc (.cells #[.int .i64 (rdExpr x.kids i).kind, .int .i64 (rdExpr x.kids i).pos.line, .int .i64 (rdExpr x.kids i).pos.col, .int .i64 (rdExpr x.kids i).num, .string (rdExpr x.kids i).name, .int .i64 (rdExpr x.kids i).op, .slice B6 (rdExpr x.kids i).kids.length d6] 51)) hb1); clear hb1) | (at_builtin; refine print_append_of (w0 := W) Value.string W.heap.size rfl (.tmp 33) (.tmp 36) 38 9 (.string ⟨#[]⟩) 16 rfl Tryd.underlying38 infoStr rfl (by decide) u3 _ (bs (etext (rdExpr x.kids i))) rfl rfl rfl HO1.out HB1.out HB1.out.size ?aL ?_; (case aL => rw [List.length_map, List.length_take]; omega); intro v1 w2 ho hb hg hat; have HB2 := Aside0.mk hb; have HO2 := Aside0.mk ho; clear ho hb hg hat))
      go_roundg k1
      case measure => omega
      case rel =>
        have hlen : i.toNat < x.kids.length := by omega
        have ht := etexts_take x.kids i.toNat hlen
        rw [show ((i.toNat : Nat) : Int) = i by omega] at ht
        refine ⟨i + 1, ?_, by omega, by omega, ⟨?_⟩, HB2⟩
        · rfl
        · rw [show (i + 1).toNat = i.toNat + 1 by omega, ht]
          exact HO2.out

theorem below_of_grow {w w' : World} (h : ∃ k os, w' = Go.Sort.grow (w.drewN k) os) : Below w.heap.size w w' := by
  obtain ⟨k, os, rfl⟩ := h
  exact ⟨rfl, rfl, rfl, by show w.heap.size ≤ (w.heap ++ os).size; simp, fun i hi => by show (w.heap ++ os)[i]? = _; rw [Array.getElem?_append_left hi]⟩

set_option maxRecDepth 100000 in
theorem text_num (x : Expr) (cs : List Value) (w : World) (hx : kExpr.K w x cs) (hg : Glob w) (n1 : x.kind = 1) :
    Calls Tryd.prog 15 #[.agg cs.toArray] w fun e w' => e = .returned (.string (bs (etext x))) ∧ Below w.heap.size w w' := by
  obtain ⟨A6, c6, rfl, hn, hl, hc⟩ := kExpr_open hx
  have k1 : (x.kind == 1) = true := beq_iff_eq.2 n1
  have N1 := Lib.hid n1
  have Hn := Lib.hid hn
  clear n1 hx hc hl hn
  go_enter Tryd.func15, Tryd.ntmps15
  go_wp2_with (first | ((with_reducible refine gate_dst (N := 1) rfl ?_); refine box_event ?hg (N := 1) ?hd (cs := #[.int .i64 x.kind, .int .i64 x.pos.line, .int .i64 x.pos.col, .int .i64 x.num, .string x.name, .int .i64 x.op, .slice A6 x.kids.length c6]) (t := 51) ?hr ?_; (case hd => rfl); (case hg => rfl); (case hr => first | (go_simp; done) | (go_simp; rfl)); intro gb hgb W hbox hb; have Hgb := Lib.hid hgb; have Hbox := Lib.hid hbox; clear hgb hbox; have f6 : W.cell? ⟨gb, 6, none⟩ = some (.slice A6 x.kids.length c6) := (blk_cell Hbox.out 6).trans rfl; have f5 : W.cell? ⟨gb, 5, none⟩ = some (.int .i64 x.op) := (blk_cell Hbox.out 5).trans rfl; have f4 : W.cell? ⟨gb, 4, none⟩ = some (.string x.name) := (blk_cell Hbox.out 4).trans rfl; have f3 : W.cell? ⟨gb, 3, none⟩ = some (.int .i64 x.num) := (blk_cell Hbox.out 3).trans rfl; have f0 : W.cell? ⟨gb, 0, none⟩ = some (.int .i64 x.kind) := (blk_cell Hbox.out 0).trans rfl) | (go_at_call 27; refine (Tryd.strconv_FormatInt_10 _ Hn.out.1 Hn.out.2 _ (hg.below hg.size hb).pow).mono ?_; rintro e w1 ⟨rfl, hw1⟩; have hb1 := below_of_grow hw1; clear hw1))
  go_ret
  refine ⟨ret_str ?_, below_step hb hb1⟩
  rw [etext_eq x, if_pos N1.out]
  rfl

set_option maxRecDepth 100000 in
theorem text_truth (x : Expr) (cs : List Value) (w : World) (hx : kExpr.K w x cs) (n2 : x.kind = 2) :
    Calls Tryd.prog 15 #[.agg cs.toArray] w fun e w' => e = .returned (.string (bs (etext x))) ∧ Below w.heap.size w w' := by
  obtain ⟨A6, c6, rfl, hn, hl, hc⟩ := kExpr_open hx
  have k1 : (x.kind == 1) = false := beq_eq_false_iff_ne.2 (by omega)
  have k2 : (x.kind == 2) = true := beq_iff_eq.2 n2
  have N2 := Lib.hid n2
  clear n2 hx hc hl hn
  by_cases nz : x.num = 0
  · have kz : (x.num != 0) = false := by simp [nz]
    have Nz := Lib.hid nz
    clear nz
    go_enter Tryd.func15, Tryd.ntmps15
    go_wp2_with (first | ((with_reducible refine gate_dst (N := 1) rfl ?_); refine box_event ?hg (N := 1) ?hd (cs := #[.int .i64 x.kind, .int .i64 x.pos.line, .int .i64 x.pos.col, .int .i64 x.num, .string x.name, .int .i64 x.op, .slice A6 x.kids.length c6]) (t := 51) ?hr ?_; (case hd => rfl); (case hg => rfl); (case hr => first | (go_simp; done) | (go_simp; rfl)); intro gb hgb W hbox hb; have Hgb := Lib.hid hgb; have Hbox := Lib.hid hbox; clear hgb hbox; have f6 : W.cell? ⟨gb, 6, none⟩ = some (.slice A6 x.kids.length c6) := (blk_cell Hbox.out 6).trans rfl; have f5 : W.cell? ⟨gb, 5, none⟩ = some (.int .i64 x.op) := (blk_cell Hbox.out 5).trans rfl; have f4 : W.cell? ⟨gb, 4, none⟩ = some (.string x.name) := (blk_cell Hbox.out 4).trans rfl; have f3 : W.cell? ⟨gb, 3, none⟩ = some (.int .i64 x.num) := (blk_cell Hbox.out 3).trans rfl; have f0 : W.cell? ⟨gb, 0, none⟩ = some (.int .i64 x.kind) := (blk_cell Hbox.out 0).trans rfl))
    go_ret
    refine ⟨ret_str ?_, hb⟩
    rw [etext_eq x, if_neg (by rw [N2.out]; decide), if_pos N2.out, if_pos Nz.out]
    rfl
  · have kz : (x.num != 0) = true := bne_iff_ne.2 nz
    have Nz := Lib.hid nz
    clear nz
    go_enter Tryd.func15, Tryd.ntmps15
    go_wp2_with (first | ((with_reducible refine gate_dst (N := 1) rfl ?_); refine box_event ?hg (N := 1) ?hd (cs := #[.int .i64 x.kind, .int .i64 x.pos.line, .int .i64 x.pos.col, .int .i64 x.num, .string x.name, .int .i64 x.op, .slice A6 x.kids.length c6]) (t := 51) ?hr ?_; (case hd => rfl); (case hg => rfl); (case hr => first | (go_simp; done) | (go_simp; rfl)); intro gb hgb W hbox hb; have Hgb := Lib.hid hgb; have Hbox := Lib.hid hbox; clear hgb hbox; have f6 : W.cell? ⟨gb, 6, none⟩ = some (.slice A6 x.kids.length c6) := (blk_cell Hbox.out 6).trans rfl; have f5 : W.cell? ⟨gb, 5, none⟩ = some (.int .i64 x.op) := (blk_cell Hbox.out 5).trans rfl; have f4 : W.cell? ⟨gb, 4, none⟩ = some (.string x.name) := (blk_cell Hbox.out 4).trans rfl; have f3 : W.cell? ⟨gb, 3, none⟩ = some (.int .i64 x.num) := (blk_cell Hbox.out 3).trans rfl; have f0 : W.cell? ⟨gb, 0, none⟩ = some (.int .i64 x.kind) := (blk_cell Hbox.out 0).trans rfl))
    go_ret
    refine ⟨ret_str ?_, hb⟩
    rw [etext_eq x, if_neg (by rw [N2.out]; decide), if_pos N2.out, if_neg Nz.out]
    rfl

set_option maxRecDepth 100000 in
theorem text_var (x : Expr) (cs : List Value) (w : World) (hx : kExpr.K w x cs) (n3 : x.kind = 3) :
    Calls Tryd.prog 15 #[.agg cs.toArray] w fun e w' => e = .returned (.string (bs (etext x))) ∧ Below w.heap.size w w' := by
  obtain ⟨A6, c6, rfl, hn, hl, hc⟩ := kExpr_open hx
  have k1 : (x.kind == 1) = false := beq_eq_false_iff_ne.2 (by omega)
  have k2 : (x.kind == 2) = false := beq_eq_false_iff_ne.2 (by omega)
  have k3 : (x.kind == 3) = true := beq_iff_eq.2 n3
  have N3 := Lib.hid n3
  clear n3 hx hc hl hn
  go_enter Tryd.func15, Tryd.ntmps15
  go_wp2_with (first | ((with_reducible refine gate_dst (N := 1) rfl ?_); refine box_event ?hg (N := 1) ?hd (cs := #[.int .i64 x.kind, .int .i64 x.pos.line, .int .i64 x.pos.col, .int .i64 x.num, .string x.name, .int .i64 x.op, .slice A6 x.kids.length c6]) (t := 51) ?hr ?_; (case hd => rfl); (case hg => rfl); (case hr => first | (go_simp; done) | (go_simp; rfl)); intro gb hgb W hbox hb; have Hgb := Lib.hid hgb; have Hbox := Lib.hid hbox; clear hgb hbox; have f6 : W.cell? ⟨gb, 6, none⟩ = some (.slice A6 x.kids.length c6) := (blk_cell Hbox.out 6).trans rfl; have f5 : W.cell? ⟨gb, 5, none⟩ = some (.int .i64 x.op) := (blk_cell Hbox.out 5).trans rfl; have f4 : W.cell? ⟨gb, 4, none⟩ = some (.string x.name) := (blk_cell Hbox.out 4).trans rfl; have f3 : W.cell? ⟨gb, 3, none⟩ = some (.int .i64 x.num) := (blk_cell Hbox.out 3).trans rfl; have f0 : W.cell? ⟨gb, 0, none⟩ = some (.int .i64 x.kind) := (blk_cell Hbox.out 0).trans rfl))
  go_ret
  refine ⟨ret_str ?_, hb⟩
  rw [etext_eq x, if_neg (by rw [N3.out]; decide), if_neg (by rw [N3.out]; decide), if_pos N3.out]
  exact bs_of _

set_option maxRecDepth 100000 in
theorem text_bare (x : Expr) (cs : List Value) (w : World) (hx : kExpr.K w x cs) (n1 : x.kind ≠ 1) (n2 : x.kind ≠ 2) (n3 : x.kind ≠ 3) (n5 : x.kind ≠ 5) (h0 : x.kids = []) :
    Calls Tryd.prog 15 #[.agg cs.toArray] w fun e w' => e = .returned (.string (bs (etext x))) ∧ Below w.heap.size w w' := by
  obtain ⟨A6, c6, rfl, hn, hl, hc⟩ := kExpr_open hx
  have k1 : (x.kind == 1) = false := beq_eq_false_iff_ne.2 n1
  have k2 : (x.kind == 2) = false := beq_eq_false_iff_ne.2 n2
  have k3 : (x.kind == 3) = false := beq_eq_false_iff_ne.2 n3
  have k5 : (x.kind == 5) = false := beq_eq_false_iff_ne.2 n5
  have kl : ((x.kids.length : Int) == 0) = true := by rw [h0]; rfl
  have N1 := Lib.hid n1
  have N2 := Lib.hid n2
  have N3 := Lib.hid n3
  have N5 := Lib.hid n5
  have H0 := Lib.hid h0
  clear n1 n2 n3 n5 h0 hx hc hl hn
  go_enter Tryd.func15, Tryd.ntmps15
  go_wp2_with (first | ((with_reducible refine gate_dst (N := 1) rfl ?_); refine box_event ?hg (N := 1) ?hd (cs := #[.int .i64 x.kind, .int .i64 x.pos.line, .int .i64 x.pos.col, .int .i64 x.num, .string x.name, .int .i64 x.op, .slice A6 x.kids.length c6]) (t := 51) ?hr ?_; (case hd => rfl); (case hg => rfl); (case hr => first | (go_simp; done) | (go_simp; rfl)); intro gb hgb W hbox hb; have Hgb := Lib.hid hgb; have Hbox := Lib.hid hbox; clear hgb hbox; have f6 : W.cell? ⟨gb, 6, none⟩ = some (.slice A6 x.kids.length c6) := (blk_cell Hbox.out 6).trans rfl; have f5 : W.cell? ⟨gb, 5, none⟩ = some (.int .i64 x.op) := (blk_cell Hbox.out 5).trans rfl; have f4 : W.cell? ⟨gb, 4, none⟩ = some (.string x.name) := (blk_cell Hbox.out 4).trans rfl; have f3 : W.cell? ⟨gb, 3, none⟩ = some (.int .i64 x.num) := (blk_cell Hbox.out 3).trans rfl; have f0 : W.cell? ⟨gb, 0, none⟩ = some (.int .i64 x.kind) := (blk_cell Hbox.out 0).trans rfl))
  go_ret
  refine ⟨ret_str ?_, hb⟩
  rw [etext_eq x, if_neg N1.out, if_neg N2.out, if_neg N3.out, if_neg N5.out, if_pos H0.out]
  rfl

/-- No list of parts is longer than the memory lets it be. -/
theorem kids_len {w : World} {x : Expr} {cs : List Value} (hx : kExpr.K w x cs) : x.kids.length ≤ 9223372036854775807 := by
  obtain ⟨A6, c6, rfl, hn, hl, hc⟩ := kExpr_open hx
  exact hc.2.1

mutual
/-- No list of parts is longer than m. -/
def Slim (m : Nat) : Expr → Prop
  | ⟨_, _, _, _, _, kids⟩ => kids.length ≤ m ∧ Slims m kids
def Slims (m : Nat) : List Expr → Prop
  | [] => True
  | x :: r => Slim m x ∧ Slims m r
end
theorem Slims.mem {m : Nat} : ∀ {l : List Expr}, Slims m l → ∀ y, y ∈ l → Slim m y
  | x :: r, h, y, hy => by
    rw [Slims] at h
    rcases List.mem_cons.1 hy with rfl | hy
    · exact h.1
    · exact Slims.mem h.2 y hy
theorem Slim.le {m : Nat} {x : Expr} (h : Slim m x) : x.kids.length ≤ m := by
  cases x
  rw [Slim] at h
  exact h.1
theorem Slim.kids {m : Nat} {x : Expr} (h : Slim m x) : Slims m x.kids := by
  cases x
  rw [Slim] at h
  exact h.2
theorem kid_size {x y : Expr} (h : y ∈ x.kids) : SizeOf.sizeOf y < SizeOf.sizeOf x := by
  cases x with
  | mk kind pos num name op kids =>
    have := List.sizeOf_lt_of_mem h
    simp at this ⊢
    omega

/-- WHAT Text COMPUTES, of any expression whose texts are no longer than memory lets them be. -/
theorem text_calls (n : Nat) : ∀ (x : Expr), SizeOf.sizeOf x ≤ n → Fit 140737488355328 x → Slim 8000000000000 x → ∀ (cs : List Value) (w : World), kExpr.K w x cs → Glob w →
    Calls Tryd.prog 15 #[.agg cs.toArray] w fun e w' => e = .returned (.string (bs (etext x))) ∧ Below w.heap.size w w' := by
  induction n with
  | zero =>
    intro x hx
    cases x
    simp at hx
  | succ n ih =>
    intro x hx hf hs cs w hk hg
    have ih' : ∀ y, y ∈ x.kids → ∀ cs w, kExpr.K w y cs → Glob w → Calls Tryd.prog 15 #[.agg cs.toArray] w fun e w' => e = .returned (.string (bs (etext y))) ∧ Below w.heap.size w w' :=
      fun y hy cs w hk hg => ih y (by have := kid_size hy; omega) (hf.kids.mem y hy) (hs.kids.mem y hy) cs w hk hg
    by_cases n1 : x.kind = 1
    · exact text_num x cs w hk hg n1
    by_cases n2 : x.kind = 2
    · exact text_truth x cs w hk n2
    by_cases n3 : x.kind = 3
    · exact text_var x cs w hk n3
    by_cases n5 : x.kind = 5
    · exact text_call x cs w hk hg n5 hs.le hf ih'
    by_cases h0 : x.kids = []
    · exact text_bare x cs w hk n1 n2 n3 n5 h0
    · exact text_kids x cs w hk hg n1 n2 n3 n5 (List.length_pos_iff.2 h0) (by have := hs.le; omega) hf ih'
end Go.Proofs.YtgenlgfbjlclbaaDoor
