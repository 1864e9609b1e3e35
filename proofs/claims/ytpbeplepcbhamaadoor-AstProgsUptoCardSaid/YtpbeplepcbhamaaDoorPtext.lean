/- Programs as text: what (palings/ast.Prog).Text computes. -/
import Derived.Test.YtpbeplepcbhamaaDoorStextC
import Derived.Test.YtpbeplepcbhamaaDoorExpr
namespace Go.Proofs.YtpbeplepcbhamaaDoor
open Go.RowKit Go.Proofs.YtpbeplepcbhamaaDoorW.PrintWords Go.Proofs.YtpbeplepcbhamaaDoorW.PrintLast Go.Proofs.YtpbeplepcbhamaaDoorW.PrintMore
set_option linter.unusedVariables false
set_option linter.unusedSimpArgs false

def holdL (h : Int) : List UInt8 := if h ≤ 0 then [118, 97, 114, 32] else if h = 1 then [112, 117, 98, 108, 105, 99, 32] else [115, 101, 99, 114, 101, 116, 32]
/-- A global as text. -/
def gtext (g : Global) : List UInt8 := holdL g.hold ++ g.name.data.toList ++ (if 0 < g.size then [91] ++ Lib.itoa g.size ++ [93] else []) ++ [59, 10]
/-- A function as text. -/
def ftext (f : Fun) : List UInt8 := [102, 117, 110, 99, 32] ++ f.name.data.toList ++ [40] ++ Lib.join (f.params.map (·.data.toList)) [44, 32] ++ [41, 32, 123, 10] ++ slines f.body 1 ++ [125, 10]
def ptext (p : Prog) : List UInt8 := (p.globals.map gtext).flatten ++ (p.funcs.map ftext).flatten
/-- No text of a part is longer than what a string may be. -/
structure PrFit (p : Prog) : Prop where
  all : (ptext p).length ≤ 140737488355328
  body : ∀ f, f ∈ p.funcs → SFits f.body 1
  params : ∀ f, f ∈ p.funcs → f.params.length ≤ 140737488355328

theorem flat_take {α : Type} (f : α → List UInt8) (xs : List α) (k : Nat) (y : α) (h : xs[k]? = some y) : ((xs.take (k + 1)).map f).flatten = ((xs.take k).map f).flatten ++ f y := by
  rw [List.take_add_one, h, List.map_append, List.flatten_append]
  simp
theorem flat_le {α : Type} (f : α → List UInt8) (xs : List α) (k : Nat) : ((xs.take k).map f).flatten.length ≤ (xs.map f).flatten.length := by
  conv => rhs; rw [← List.take_append_drop k xs, List.map_append, List.flatten_append, List.length_append]
  omega
theorem rdGlobal_get (xs : List Global) (i : Int) (h0 : 0 ≤ i) (h1 : i < xs.length) : xs[i.toNat]? = some (rdGlobal xs i) := by
  have : i.toNat < xs.length := by omega
  simp [rdGlobal, List.getD_eq_getElem?_getD, this]
theorem rdFun_get (xs : List Fun) (i : Int) (h0 : 0 ≤ i) (h1 : i < xs.length) : xs[i.toNat]? = some (rdFun xs i) := by
  have : i.toNat < xs.length := by omega
  simp [rdFun, List.getD_eq_getElem?_getD, this]
theorem str_reads {w : World} {A : Option Addr} {xs : List ByteArray} (h : Kd.string.C w A xs.length xs) : ReadsOf Value.string ByteArray.empty w A xs.length xs := by
  refine ⟨rfl, h.2.1, fun h0 => ?_⟩
  obtain ⟨ad, c0, e, hl, hK, hc0⟩ := Kd.C_get h ByteArray.empty 0 (by omega) (by exact_mod_cast h0)
  refine ⟨ad, e, fun j hj => ?_⟩
  obtain ⟨ad', c, e', hl', hK', hc⟩ := Kd.C_get h ByteArray.empty j (by omega) (by exact_mod_cast hj)
  obtain rfl := Option.some.inj (e.symm.trans e')
  obtain rfl : c = [.string (xs.getD (j : Int).toNat ByteArray.empty)] := hK'
  have h2 : w.cell? (ad.add ((j : Int).toNat * 1 + 0)) = some (.string (xs.getD (j : Int).toNat ByteArray.empty)) := hc 0 _ rfl
  simpa using h2
theorem write_ev {B g : Nat} {l : List UInt8} {p : ByteArray} {w : World} (h : Lib.IsBuilderF 73 5 B g (Lib.byteCells l) w) (hl : l.length + p.size ≤ 140737488355328) (hB : B ≤ w.heap.size) :
    Calls Tryd.prog 37 #[.pointer (some ⟨g, 0, none⟩), .string p] w fun e w' => e = .returned (.tuple #[.int .i64 p.size, .nilIface]) ∧ Lib.IsBuilderF 73 5 B g (Lib.byteCells (l ++ p.data.toList)) w' ∧ Below B w w' ∧ Lib.OthersKept 5 (some g) w w' := by
  refine (write_calls B g _ p w h (by rw [Lib.byteCells_length]; exact hl) hB).mono ?_
  rintro e w' ⟨rfl, h1, h2, h3⟩
  refine ⟨rfl, ?_, h2, h3⟩
  rw [← bytes_add, ← bs_of]
  exact .inr h1
theorem builder_lt {T e : TypeId} {B b : Nat} {l : List Value} {w : World} (h : Lib.IsBuilderF T e B b l w) : b < w.heap.size := by
  rcases h with h | h <;> exact h.lt
theorem kept_blk {g k : Nat} {w w' : World} {cs : Array Value} {T : TypeId} (h : Lib.OthersKept 5 (some g) w w') (hb : w.heap[k]? = some (.cells cs T (0, 0))) (hn : g ≠ k) (hT : T ≠ 5) : w'.heap[k]? = some (.cells cs T (0, 0)) := by
  refine h k _ hb (fun e => hn (Option.some.inj e).symm) fun c fz e => ?_
  injection e with e1 e2
  exact hT e2
theorem app_list (a b : ByteArray) : (a ++ b).data.toList = a.data.toList ++ b.data.toList := by rw [ByteArray.data_append, Array.toList_append]

set_option maxRecDepth 100000 in
set_option maxHeartbeats 12800000 in
theorem ptext_calls (x : Prog) (cs : List Value) (w : World) (hx : kProg.K w x cs) (hg : Glob w) (hf : PrFit x) :
    Calls Tryd.prog 21 #[.agg cs.toArray] w fun e w' => e = .returned (.string (bs (ptext x))) ∧ Below w.heap.size w w' := by
  obtain ⟨A0, a0, A1, a1, rfl, el0, eg0, el1, eg1⟩ := kProg_open hx
  have HG := Aside0.mk eg0
  have HFN := Aside0.mk eg1
  have hm0 := eg0.2.1
  have hm1 := eg1.2.1
  have HF := Aside0.mk hf
  clear hx el0 eg0 el1 eg1 hf
  go_enter Tryd.func21, Tryd.ntmps21
  go_wp2_with (first | ((with_reducible refine gate_dst (N := 1) rfl ?_); refine box_event ?hg (N := 1) ?hd (cs := #[.slice A0 x.globals.length a0, .slice A1 x.funcs.length a1]) (t := 45) ?hr ?_; (case hd => rfl); (case hg => rfl); (case hr => first | (go_simp; done) | (go_simp; rfl)); intro g1 hgE_ W1 hbox_ hb_; have GEg1 := Aside0.mk (show w.heap.size ≤ g1 from Nat.le_of_eq hgE_.symm); have HB := Aside0.mk hb_; have BKg1 := Aside0.mk hbox_; have cg1_0 : W1.cell? ⟨g1, 0, none⟩ = some (.slice A0 x.globals.length a0) := (blk_cell BKg1.out 0).trans rfl; have cg1_1 : W1.cell? ⟨g1, 1, none⟩ = some (.slice A1 x.funcs.length a1) := (blk_cell BKg1.out 1).trans rfl; clear hb_ hbox_ hgE_) | ((with_reducible refine gate_dst (N := 3) rfl ?_); refine box_event ?hg (N := 3) ?hd (cs := #[.pointer none, .slice none 0 0]) (t := 73) ?hr ?_; (case hd => rfl); (case hg => rfl); (case hr => first | (go_simp; done) | (go_simp; rfl)); intro g3 hgE_ W2 hbox_ hb_; have GEg3 := Aside0.mk (show w.heap.size ≤ g3 from Nat.le_trans HB.out.size (Nat.le_of_eq hgE_.symm)); have NEg1_g3 := Aside0.mk (show g1 ≠ g3 from Nat.ne_of_lt (Nat.lt_of_lt_of_le (blk_lt BKg1.out) (Nat.le_of_eq hgE_.symm))); replace HB := Aside0.mk (below_step HB.out hb_); replace BKg1 := Aside0.mk (blk_below BKg1.out hb_); replace cg1_0 : W2.cell? ⟨g1, 0, none⟩ = some (.slice A0 x.globals.length a0) := (blk_cell BKg1.out 0).trans rfl; replace cg1_1 : W2.cell? ⟨g1, 1, none⟩ = some (.slice A1 x.funcs.length a1) := (blk_cell BKg1.out 1).trans rfl; have BKg3 := Aside0.mk hbox_; clear hb_ hbox_ hgE_))
  have HBL : Lib.IsBuilderF 73 5 w.heap.size g3 (Lib.byteCells ([])) W2 := Lib.IsBuilderF.of (.inl ⟨GEg3.out, .slice none 0 0, BKg3.out, World.ownsRow_nil _ _ _ _, by simp [Value.ownBlock]⟩)
  have HBLA := Aside0.mk HBL
  clear HBL
  go_loopg [11] x.globals.length (fun kq v11 w' => ∃ i : Int, v11 = .int .i64 i ∧ 0 ≤ i ∧ kq + i.toNat = x.globals.length ∧ Aside0 (Lib.IsBuilderF 73 5 w.heap.size g3 (Lib.byteCells (((x.globals.take i.toNat).map gtext).flatten)) w') ∧ Aside0 (Below w.heap.size w w') ∧ Aside0 (w'.heap[g1]? = some (.cells #[.slice A0 x.globals.length a0, .slice A1 x.funcs.length a1] 45 (0, 0))))
  case atStart => exact ⟨0, rfl, by omega, by simp, by simpa using HBLA, HB, BKg1⟩
  case round =>
    clear HB BKg3 HBLA BKg1 cg1_0 cg1_1
    obtain ⟨i, rfl, hi0, hk, BL, HB, BK1⟩ := hrel
    cases gk with
    | zero =>
      have hge : decide (i < (x.globals.length : Int)) = false := by simp; omega
      have hall : x.globals.take i.toNat = x.globals := List.take_of_length_le (by omega)
      rw [hall] at BL
      clear hall hge
      have hge : decide (i < (x.globals.length : Int)) = false := by simp; omega
      have cg1_1 := (blk_cell BK1.out 1).trans rfl
      go_wp2
      go_loopg [40] x.funcs.length (fun kq v40 w' => ∃ i : Int, v40 = .int .i64 i ∧ 0 ≤ i ∧ kq + i.toNat = x.funcs.length ∧ Aside0 (Lib.IsBuilderF 73 5 w.heap.size g3 (Lib.byteCells ((x.globals.map gtext).flatten ++ ((x.funcs.take i.toNat).map ftext).flatten)) w') ∧ Aside0 (Below w.heap.size w w'))
      case atStart => exact ⟨0, rfl, by omega, by simp, by simpa using BL, HB⟩
      case round =>
        clear HB BL
        obtain ⟨i, rfl, hi0, hk, BL, HB⟩ := hrel
        cases gk with
        | zero =>
          have hge : decide (i < (x.funcs.length : Int)) = false := by simp; omega
          have hall : x.funcs.take i.toNat = x.funcs := List.take_of_length_le (by omega)
          rw [hall] at BL
          clear hall
          go_wp2_with (first | (go_at_call 39; (with_reducible refine (Tryd.Builder_String_any_k w.heap.size g3 _ _ BL.out HB.out.size).mono ?_); rintro e w2 ⟨rfl, hbl_, hb_, hok_⟩; replace HB := Aside0.mk (HB.out.trans hb_); clear hbl_ hb_ hok_))
          go_ret
          exact ⟨rfl, HB.out⟩
        | succ k2_ =>
          have hi1 : i < (x.funcs.length : Int) := by omega
          obtain ⟨ad, B1, b1, B2, b2, ea, e0, e1, e2, e3, e4, el1, eg1, el2, eg2⟩ := atFun (Kd.C_below HFN.out HB.out) i hi0 hi1
          obtain rfl := ea
          have hms := rdFun_mem x.funcs i hi0 hi1
          have HPC := Lib.hid el1
          have HPA := Aside0.mk eg1
          have HBO := Aside0.mk eg2
          have htk := flat_take ftext x.funcs i.toNat _ (rdFun_get _ _ hi0 hi1)
          have hle := flat_le ftext x.funcs (i.toNat + 1)
          have hall := HF.out.all
          rw [ptext, List.length_append] at hall
          rw [htk, List.length_append, ftext] at hle
          simp only [List.length_append, List.length_cons, List.length_nil, size_toList] at hle
          have HTK := Lib.hid htk
          obtain ⟨JN, hJN⟩ : ∃ J, J = bs (Lib.join ((rdFun x.funcs i).params.map (·.data.toList)) (⟨#[44, 32]⟩ : ByteArray).data.toList) := ⟨_, rfl⟩
          have sJ : JN.size = (Lib.join ((rdFun x.funcs i).params.map (·.data.toList)) [44, 32]).length := by rw [hJN]; exact bs_size _
          obtain ⟨LN, hLN⟩ : ∃ J, J = bs (slines (rdFun x.funcs i).body (Int.toNat 1)) := ⟨_, rfl⟩
          have sL : LN.size = (slines (rdFun x.funcs i).body 1).length := by rw [hLN]; exact bs_size _
          have HJ := Lib.hid (show (Lib.join ((rdFun x.funcs i).params.map (·.data.toList)) (⟨#[44, 32]⟩ : ByteArray).data.toList).length ≤ 140737488355328 by show (Lib.join ((rdFun x.funcs i).params.map (·.data.toList)) [44, 32]).length ≤ _; omega)
          have HLL := Lib.hid (show (slines (rdFun x.funcs i).body (Int.toNat 1)).length ≤ 140737488355328 by show (slines (rdFun x.funcs i).body 1).length ≤ _; omega)
          have HSF := Lib.hid (show SFits (rdFun x.funcs i).body (Int.toNat 1) from HF.out.body _ hms)
          have HPN := Lib.hid (HF.out.params _ hms)
          have hy1 : ¬ 9223372036854775807 < 5 + (rdFun x.funcs i).name.size := by omega
          have hy2 : ¬ 9223372036854775807 < 5 + (rdFun x.funcs i).name.size + 1 := by omega
          have hy3 : ¬ 9223372036854775807 < 5 + (rdFun x.funcs i).name.size + 1 + JN.size := by omega
          have hy4 : ¬ 9223372036854775807 < 5 + (rdFun x.funcs i).name.size + 1 + JN.size + 4 := by omega
          have hy5 : ¬ 9223372036854775807 < 5 + (rdFun x.funcs i).name.size + 1 + JN.size + 4 + LN.size := by omega
          have hy6 : ¬ 9223372036854775807 < 5 + (rdFun x.funcs i).name.size + 1 + JN.size + 4 + LN.size + 2 := by omega
          have HSZ := Lib.hid (show (((x.globals.map gtext).flatten ++ ((x.funcs.take i.toNat).map ftext).flatten)).length + ((⟨#[102, 117, 110, 99, 32]⟩ : ByteArray) ++ (rdFun x.funcs i).name ++ ⟨#[40]⟩ ++ JN ++ ⟨#[41, 32, 123, 10]⟩ ++ LN ++ ⟨#[125, 10]⟩).size ≤ 140737488355328 by simp only [ByteArray.size_append, List.length_append]; show _ + (5 + _ + 1 + _ + 4 + _ + 2) ≤ _; omega)
          have HJN := Lib.hid hJN
          have HLN := Lib.hid hLN
          clear hall htk hle hJN hLN sJ sL el1 eg1 el2 eg2
          go_wp2_with (first | ((with_reducible refine gate_dst (N := 7) rfl ?_); refine var_event (W1 := ?w1_7) (N := 7) (cs := #[.string (rdFun x.funcs i).name, .slice B1 (rdFun x.funcs i).params.length b1, .slice B2 (rdFun x.funcs i).body.length b2, .int .i64 (rdFun x.funcs i).pos.line, .int .i64 (rdFun x.funcs i).pos.col]) (t := 41) ?hg ?hd ?hg2 ?hd2 ?hr ?hr2 ?_; (case hd => rfl); (case hg => rfl); (case hd2 => rfl); (case hg2 => rfl); (case hr => first | (go_simp; done) | (go_simp; rfl)); (case hr2 => first | (go_simp; done) | (go_simp; rfl)); intro g7 hgE_ W1 hbox_ hb_; have NE_ := Aside0.mk (show g3 ≠ g7 from Nat.ne_of_lt (Nat.lt_of_lt_of_le (builder_lt BL.out) hgE_)); have GEg7 := Aside0.mk (show w.heap.size ≤ g7 from Nat.le_trans HB.out.size (hgE_)); replace HB := Aside0.mk (below_step HB.out hb_); replace BL := Aside0.mk (builder_step BL.out hb_); replace HPA := Aside0.mk (Kd.C_below HPA.out hb_); replace HBO := Aside0.mk (Kd.C_below HBO.out hb_); have BKg7 := Aside0.mk hbox_; have cg7_0 : W1.cell? ⟨g7, 0, none⟩ = some (.string (rdFun x.funcs i).name) := (blk_cell BKg7.out 0).trans rfl; have cg7_1 : W1.cell? ⟨g7, 1, none⟩ = some (.slice B1 (rdFun x.funcs i).params.length b1) := (blk_cell BKg7.out 1).trans rfl; have cg7_2 : W1.cell? ⟨g7, 2, none⟩ = some (.slice B2 (rdFun x.funcs i).body.length b2) := (blk_cell BKg7.out 2).trans rfl; have cg7_3 : W1.cell? ⟨g7, 3, none⟩ = some (.int .i64 (rdFun x.funcs i).pos.line) := (blk_cell BKg7.out 3).trans rfl; have cg7_4 : W1.cell? ⟨g7, 4, none⟩ = some (.int .i64 (rdFun x.funcs i).pos.col) := (blk_cell BKg7.out 4).trans rfl; clear hb_ hbox_ hgE_))
          have hgW := Aside0.mk (hg.below hg.size HB.out)
          refine start_ (n := 15) (S := fun w' => w'.cell? ⟨g7, 0, none⟩ = some (.string (rdFun x.funcs i).name) ∧ w'.cell? ⟨g7, 1, none⟩ = some (.slice B1 (rdFun x.funcs i).params.length b1) ∧ w'.cell? ⟨g7, 2, none⟩ = some (.slice B2 (rdFun x.funcs i).body.length b2) ∧ w'.cell? ⟨g7, 3, none⟩ = some (.int .i64 (rdFun x.funcs i).pos.line) ∧ w'.cell? ⟨g7, 4, none⟩ = some (.int .i64 (rdFun x.funcs i).pos.col)) (ds := [14]) #[false, false, false, false, false, false, false, false, false, false, false, false, false, false, false] (by kernel_rfl) rfl rfl ⟨cg7_0, cg7_1, cg7_2, cg7_3, cg7_4⟩ (fun hHeld => ?_)
          refine pure_ (i := 0) (N := some 44) (v := ?_) (a' := ?_) #[true, false, false, false, false, false, false, false, false, false, false, false, false, false, false] rfl rfl (by kernel_rfl) (fun _ _ _ h => h) (Or.inl ⟨by rfl, ?_⟩) ?_ ?_
          rotate_left
          · intro w'
            go_simp
            with_reducible rfl
          rotate_left
          · simp only [Act.put, List.setIfInBounds_toArray, List.set_cons_zero, List.set_cons_succ, i64_w, i32_w]
            rfl
          refine pure_ (i := 4) (N := some 48) (v := ?_) (a' := ?_) #[true, false, false, false, true, false, false, false, false, false, false, false, false, false, false] rfl rfl (by kernel_rfl) (fun _ _ _ h => h) (Or.inl ⟨by rfl, ?_⟩) ?_ ?_
          rotate_left
          · intro w'
            go_simp
            with_reducible rfl
          rotate_left
          · simp only [Act.put, List.setIfInBounds_toArray, List.set_cons_zero, List.set_cons_succ, i64_w, i32_w]
            rfl
          refine pure_ (i := 9) (N := some 53) (v := ?_) (a' := ?_) #[true, false, false, false, true, false, false, false, false, true, false, false, false, false, false] rfl rfl (by kernel_rfl) (fun _ _ _ h => h) (Or.inl ⟨by rfl, ?_⟩) ?_ ?_
          rotate_left
          · intro w'
            go_simp
            with_reducible rfl
          rotate_left
          · simp only [Act.put, List.setIfInBounds_toArray, List.set_cons_zero, List.set_cons_succ, i64_w, i32_w]
            rfl
          refine take_ (i := 1) (N := some 45) (v := ?_) (a' := ?_) #[true, true, false, false, true, false, false, false, false, true, false, false, false, false, false] rfl rfl (by kernel_rfl) (fun _ _ _ h => h) (Or.inl ⟨by rfl, ?_⟩) hHeld ?_ ?_
          rotate_left
          · rintro w' ⟨s0, s1, s2, s3, s4⟩
            go_simp
            with_reducible rfl
          rotate_left
          · simp only [Act.put, List.setIfInBounds_toArray, List.set_cons_zero, List.set_cons_succ, i64_w, i32_w]
            rfl
          refine pure_ (i := 2) (N := some 46) (v := ?_) (a' := ?_) #[true, true, true, false, true, false, false, false, false, true, false, false, false, false, false] rfl rfl (by kernel_rfl) (fun _ _ _ h => h) (Or.inl ⟨by rfl, ?_⟩) ?_ ?_
          rotate_left
          · intro w'
            go_simp
            with_reducible rfl
          rotate_left
          · simp only [Act.put, List.setIfInBounds_toArray, List.set_cons_zero, List.set_cons_succ, i64_w, i32_w]
            rfl
          refine pure_ (i := 3) (N := some 47) (v := ?_) (a' := ?_) #[true, true, true, true, true, false, false, false, false, true, false, false, false, false, false] rfl rfl (by kernel_rfl) (fun _ _ _ h => h) (Or.inl ⟨by rfl, ?_⟩) ?_ ?_
          rotate_left
          · intro w'
            go_simp
            with_reducible rfl
          rotate_left
          · simp only [Act.put, List.setIfInBounds_toArray, List.set_cons_zero, List.set_cons_succ, i64_w, i32_w]
            rfl
          refine take_ (i := 5) (N := some 49) (v := ?_) (a' := ?_) #[true, true, true, true, true, true, false, false, false, true, false, false, false, false, false] rfl rfl (by kernel_rfl) (fun _ _ _ h => h) (Or.inl ⟨by rfl, ?_⟩) hHeld ?_ ?_
          rotate_left
          · rintro w' ⟨s0, s1, s2, s3, s4⟩
            go_simp
            with_reducible rfl
          rotate_left
          · simp only [Act.put, List.setIfInBounds_toArray, List.set_cons_zero, List.set_cons_succ, i64_w, i32_w]
            rfl
          refine take_ (i := 10) (N := some 54) (v := ?_) (a' := ?_) #[true, true, true, true, true, true, false, false, false, true, true, false, false, false, false] rfl rfl (by kernel_rfl) (fun _ _ _ h => h) (Or.inl ⟨by rfl, ?_⟩) hHeld ?_ ?_
          rotate_left
          · rintro w' ⟨s0, s1, s2, s3, s4⟩
            go_simp
            with_reducible rfl
          rotate_left
          · simp only [Act.put, List.setIfInBounds_toArray, List.set_cons_zero, List.set_cons_succ, i64_w, i32_w]
            rfl
          refine one_ (i := 6) (N := some 50) #[true, true, true, true, true, true, true, false, false, true, true, false, false, false, false] rfl rfl (by kernel_rfl) (by decide) (fun K hK => ?_)
          refine goes_ Tryd.func38 (by kernel_rfl) rfl #[.slice B1 (rdFun x.funcs i).params.length b1, .string ⟨#[44, 32]⟩] (by rfl) rfl rfl (by simp only [List.map_toArray, List.map_cons, List.map_nil]; rfl) ?_
          with_reducible refine (join_calls B1 b1 (rdFun x.funcs i).params ⟨#[44, 32]⟩ _ (str_reads (Kd.C_below HPA.out (below_drew1 (Below.refl _ _)))) HPC.out HPN.out HJ.out).mono ?_
          rintro e w3 ⟨rfl, hb3⟩
          refine ⟨_, rfl, ?_⟩
          rw [← HJN.out]
          have hc1 := Lib.hid hb3
          refine hK.out _ _ ⟨below_cell hb3 (Nat.le_refl _) (hHeld.1), below_cell hb3 (Nat.le_refl _) (hHeld.2.1), below_cell hb3 (Nat.le_refl _) (hHeld.2.2.1), below_cell hb3 (Nat.le_refl _) (hHeld.2.2.2.1), below_cell hb3 (Nat.le_refl _) (hHeld.2.2.2.2)⟩ (fun hHeld => ?_)
          clear hK K
          refine norm_ (a' := ?_) ?_ ?_
          rotate_left
          · show Act.put _ (some 50) _ = _
            simp only [Act.put, List.setIfInBounds_toArray, List.set_cons_zero, List.set_cons_succ, i64_w, i32_w]
            rfl
          refine pure_ (i := 7) (N := some 51) (v := ?_) (a' := ?_) #[true, true, true, true, true, true, true, true, false, true, true, false, false, false, false] rfl rfl (by kernel_rfl) (fun _ _ _ h => h) (Or.inl ⟨by rfl, ?_⟩) ?_ ?_
          rotate_left
          · intro w'
            go_simp
            with_reducible rfl
          rotate_left
          · simp only [Act.put, List.setIfInBounds_toArray, List.set_cons_zero, List.set_cons_succ, i64_w, i32_w]
            rfl
          refine pure_ (i := 8) (N := some 52) (v := ?_) (a' := ?_) #[true, true, true, true, true, true, true, true, true, true, true, false, false, false, false] rfl rfl (by kernel_rfl) (fun _ _ _ h => h) (Or.inl ⟨by rfl, ?_⟩) ?_ ?_
          rotate_left
          · intro w'
            go_simp
            with_reducible rfl
          rotate_left
          · simp only [Act.put, List.setIfInBounds_toArray, List.set_cons_zero, List.set_cons_succ, i64_w, i32_w]
            rfl
          refine one_ (i := 11) (N := some 55) #[true, true, true, true, true, true, true, true, true, true, true, true, false, false, false] rfl rfl (by kernel_rfl) (by decide) (fun K hK => ?_)
          refine goes_ Tryd.func33 (by kernel_rfl) rfl #[.slice B2 (rdFun x.funcs i).body.length b2, .int .i64 1] (by rfl) rfl rfl (by simp only [List.map_toArray, List.map_cons, List.map_nil]; rfl) ?_
          with_reducible refine (slines_any (rdFun x.funcs i).body 1 B2 _ b2 _ (Kd.C_below HBO.out (below_step (below_drew1 (Below.refl _ _)) hc1.out)) (hgW.out.below (Glob.size hgW.out) (below_step (below_drew1 (Below.refl _ _)) hc1.out)) (by decide) HSF.out HLL.out).mono ?_
          rintro e w3 ⟨rfl, hb3⟩
          refine ⟨_, rfl, ?_⟩
          rw [← HLN.out]
          have hc2 := Lib.hid hb3
          refine hK.out _ _ ⟨below_cell hb3 (Nat.le_refl _) (hHeld.1), below_cell hb3 (Nat.le_refl _) (hHeld.2.1), below_cell hb3 (Nat.le_refl _) (hHeld.2.2.1), below_cell hb3 (Nat.le_refl _) (hHeld.2.2.2.1), below_cell hb3 (Nat.le_refl _) (hHeld.2.2.2.2)⟩ (fun hHeld => ?_)
          clear hK K
          refine norm_ (a' := ?_) ?_ ?_
          rotate_left
          · show Act.put _ (some 55) _ = _
            simp only [Act.put, List.setIfInBounds_toArray, List.set_cons_zero, List.set_cons_succ, i64_w, i32_w]
            rfl
          refine pure_ (i := 12) (N := some 56) (v := ?_) (a' := ?_) #[true, true, true, true, true, true, true, true, true, true, true, true, true, false, false] rfl rfl (by kernel_rfl) (fun _ _ _ h => h) (Or.inl ⟨by rfl, ?_⟩) ?_ ?_
          rotate_left
          · intro w'
            go_simp
            with_reducible rfl
          rotate_left
          · simp only [Act.put, List.setIfInBounds_toArray, List.set_cons_zero, List.set_cons_succ, i64_w, i32_w]
            rfl
          refine pure_ (i := 13) (N := some 57) (v := ?_) (a' := ?_) #[true, true, true, true, true, true, true, true, true, true, true, true, true, true, false] rfl rfl (by kernel_rfl) (fun _ _ _ h => h) (Or.inl ⟨by rfl, ?_⟩) ?_ ?_
          rotate_left
          · intro w'
            go_simp
            with_reducible rfl
          rotate_left
          · simp only [Act.put, List.setIfInBounds_toArray, List.set_cons_zero, List.set_cons_succ, i64_w, i32_w]
            rfl
          refine last_ (i := 14) (N := some 58) #[true, true, true, true, true, true, true, true, true, true, true, true, true, true, true] rfl rfl (by kernel_rfl) (by decide) (fun K hK => ?_)
          refine goes_ Tryd.func37 (by kernel_rfl) rfl #[.pointer (some ⟨g3, 0, none⟩), .string (⟨#[102, 117, 110, 99, 32]⟩ ++ (rdFun x.funcs i).name ++ ⟨#[40]⟩ ++ JN ++ ⟨#[41, 32, 123, 10]⟩ ++ LN ++ ⟨#[125, 10]⟩)] (by rfl) rfl rfl (by simp only [List.map_toArray, List.map_cons, List.map_nil]; rfl) ?_
          with_reducible refine (write_ev (B := w.heap.size) (builder_step BL.out ((below_step (below_step (below_drew1 (Below.refl _ _)) hc1.out) hc2.out))) HSZ.out (Nat.le_trans HB.out.size ((below_step (below_step (below_drew1 (Below.refl _ _)) hc1.out) hc2.out)).size)).mono ?_
          rintro e w3 ⟨rfl, hbl_, hb3, hok_⟩
          refine ⟨_, rfl, ?_⟩
          have hbl1 := Lib.hid hbl_
          have hb5 := Lib.hid hb3
          have hok1 := Lib.hid hok_
          refine hK.out _ _ ?_
          clear hK K
          refine norm_ (a' := ?_) ?_ ?_
          rotate_left
          · show Act.put _ (some 58) _ = _
            simp only [Act.put, List.setIfInBounds_toArray, List.set_cons_zero, List.set_cons_succ, i64_w, i32_w]
            rfl
          refine done_ (by kernel_rfl) ?_
          replace BL := hbl1.out
          replace BL := Aside0.mk BL
          replace HB := Aside0.mk ((below_step HB.out (below_step (below_step (below_drew1 (Below.refl _ _)) hc1.out) hc2.out)).trans hb5.out)
          go_wp2
          go_roundg k2_
          case measure => omega
          case rel =>
            refine ⟨i + 1, rfl, by omega, by omega, ?_, HB⟩
            have he : (x.globals.map gtext).flatten ++ ((x.funcs.take i.toNat).map ftext).flatten ++ ((⟨#[102, 117, 110, 99, 32]⟩ : ByteArray) ++ (rdFun x.funcs i).name ++ ⟨#[40]⟩ ++ JN ++ ⟨#[41, 32, 123, 10]⟩ ++ LN ++ ⟨#[125, 10]⟩).data.toList = (x.globals.map gtext).flatten ++ ((x.funcs.take (i + 1).toNat).map ftext).flatten := by
              rw [show (i + 1).toNat = i.toNat + 1 by omega, HTK.out, HJN.out, HLN.out, ftext]
              simp only [app_list, List.append_assoc]
              rfl
            rw [← he]
            exact BL
    | succ k1_ =>
      have hi1 : i < (x.globals.length : Int) := by omega
      obtain ⟨ad, ea, e0, e1, e2, e3, e4, em0⟩ := atGlobal (Kd.C_below HG.out HB.out) i hi0 hi1
      obtain rfl := ea
      have HNZ := Lib.hid em0
      have htk := flat_take gtext x.globals i.toNat _ (rdGlobal_get _ _ hi0 hi1)
      have hle := flat_le gtext x.globals (i.toNat + 1)
      have hall := HF.out.all
      rw [ptext, List.length_append] at hall
      rw [htk, List.length_append, gtext] at hle
      simp only [List.length_append, List.length_cons, List.length_nil, size_toList] at hle
      have HTK := Lib.hid htk
      replace hle := Nat.le_trans hle (Nat.le_trans (Nat.le_add_right _ _) hall)
      clear hall htk
      by_cases h0 : (rdGlobal x.globals i).hold ≤ 0
      · skip
        have hmm : max 0 (min 2 (rdGlobal x.globals i).hold) = 0 := by omega
        have hH : holdL (rdGlobal x.globals i).hold = [118, 97, 114, 32] := by unfold holdL; rw [if_pos (by omega)]
        have HH := Lib.hid hH
        rw [hH] at hle
        clear hH h0
        simp only [List.length_cons, List.length_nil] at hle
        go_wp2_with (first | ((with_reducible refine gate_dst (N := 5) rfl ?_); refine var_event (W1 := ?w1_5_1) (N := 5) (cs := #[.string (rdGlobal x.globals i).name, .int .i64 (rdGlobal x.globals i).hold, .int .i64 (rdGlobal x.globals i).size, .int .i64 (rdGlobal x.globals i).pos.line, .int .i64 (rdGlobal x.globals i).pos.col]) (t := 54) ?hg ?hd ?hg2 ?hd2 ?hr ?hr2 ?_; (case hd => rfl); (case hg => rfl); (case hd2 => rfl); (case hg2 => rfl); (case hr => first | (go_simp; done) | (go_simp; rfl)); (case hr2 => first | (go_simp; done) | (go_simp; rfl)); intro g5 hgE_ W1 hbox_ hb_; have NE_ := Aside0.mk (show g3 ≠ g5 from Nat.ne_of_lt (Nat.lt_of_lt_of_le (builder_lt BL.out) hgE_)); have GEg5 := Aside0.mk (show w.heap.size ≤ g5 from Nat.le_trans HB.out.size (hgE_)); replace HB := Aside0.mk (below_step HB.out hb_); replace BL := Aside0.mk (builder_step BL.out hb_); replace BK1 := Aside0.mk (blk_below BK1.out hb_); have BKg5 := Aside0.mk hbox_; have cg5_0 : W1.cell? ⟨g5, 0, none⟩ = some (.string (rdGlobal x.globals i).name) := (blk_cell BKg5.out 0).trans rfl; have cg5_1 : W1.cell? ⟨g5, 1, none⟩ = some (.int .i64 (rdGlobal x.globals i).hold) := (blk_cell BKg5.out 1).trans rfl; have cg5_2 : W1.cell? ⟨g5, 2, none⟩ = some (.int .i64 (rdGlobal x.globals i).size) := (blk_cell BKg5.out 2).trans rfl; have cg5_3 : W1.cell? ⟨g5, 3, none⟩ = some (.int .i64 (rdGlobal x.globals i).pos.line) := (blk_cell BKg5.out 3).trans rfl; have cg5_4 : W1.cell? ⟨g5, 4, none⟩ = some (.int .i64 (rdGlobal x.globals i).pos.col) := (blk_cell BKg5.out 4).trans rfl; clear hb_ hbox_ hgE_))
        have hz1 : ¬ 9223372036854775807 < 4 + (rdGlobal x.globals i).name.size := by omega
        have HSZ := Lib.hid (show (((x.globals.take i.toNat).map gtext).flatten).length + ((⟨#[118, 97, 114, 32]⟩ : ByteArray) ++ (rdGlobal x.globals i).name).size ≤ 140737488355328 by rw [ByteArray.size_append]; show _ + (4 + _) ≤ _; omega)
        obtain ⟨l1, hl1⟩ : ∃ l1, l1 = ((x.globals.take i.toNat).map gtext).flatten ++ ((⟨#[118, 97, 114, 32]⟩ : ByteArray) ++ (rdGlobal x.globals i).name).data.toList := ⟨_, rfl⟩
        have sl1 : l1.length = (((x.globals.take i.toNat).map gtext).flatten).length + (4 + (rdGlobal x.globals i).name.size) := by rw [hl1, List.length_append, size_toList, ByteArray.size_append]; rfl
        have HL1 := Lib.hid hl1
        have SL1 := Lib.hid sl1
        have HLE := Aside0.mk hle
        clear hle hl1 sl1
        refine start_ (n := 11) (S := fun w' => w'.cell? ⟨g5, 0, none⟩ = some (.string (rdGlobal x.globals i).name) ∧ w'.cell? ⟨g5, 1, none⟩ = some (.int .i64 (rdGlobal x.globals i).hold) ∧ w'.cell? ⟨g5, 2, none⟩ = some (.int .i64 (rdGlobal x.globals i).size) ∧ w'.cell? ⟨g5, 3, none⟩ = some (.int .i64 (rdGlobal x.globals i).pos.line) ∧ w'.cell? ⟨g5, 4, none⟩ = some (.int .i64 (rdGlobal x.globals i).pos.col)) (ds := [10]) #[false, false, false, false, false, false, false, false, false, false, false] (by kernel_rfl) rfl rfl ⟨cg5_0, cg5_1, cg5_2, cg5_3, cg5_4⟩ (fun hHeld => ?_)
        refine pure_ (i := 1) (N := some 16) (v := ?_) (a' := ?_) #[false, true, false, false, false, false, false, false, false, false, false] rfl rfl (by kernel_rfl) (fun _ _ _ h => h) (Or.inl ⟨by rfl, ?_⟩) ?_ ?_
        rotate_left
        · intro w'
          go_simp
          with_reducible rfl
        rotate_left
        · simp only [Act.put, List.setIfInBounds_toArray, List.set_cons_zero, List.set_cons_succ, i64_w, i32_w]
          rfl
        refine pure_ (i := 7) (N := some 22) (v := ?_) (a' := ?_) #[false, true, false, false, false, false, false, true, false, false, false] rfl rfl (by kernel_rfl) (fun _ _ _ h => h) (Or.inl ⟨by rfl, ?_⟩) ?_ ?_
        rotate_left
        · intro w'
          go_simp
          with_reducible rfl
        rotate_left
        · simp only [Act.put, List.setIfInBounds_toArray, List.set_cons_zero, List.set_cons_succ, i64_w, i32_w]
          rfl
        refine take_ (i := 2) (N := some 17) (v := ?_) (a' := ?_) #[false, true, true, false, false, false, false, true, false, false, false] rfl rfl (by kernel_rfl) (fun _ _ _ h => h) (Or.inl ⟨by rfl, ?_⟩) hHeld ?_ ?_
        rotate_left
        · rintro w' ⟨s0, s1, s2, s3, s4⟩
          go_simp
          with_reducible rfl
        rotate_left
        · simp only [Act.put, List.setIfInBounds_toArray, List.set_cons_zero, List.set_cons_succ, i64_w, i32_w]
          rfl
        refine pure_ (i := 3) (N := some 18) (v := ?_) (a' := ?_) #[false, true, true, true, false, false, false, true, false, false, false] rfl rfl (by kernel_rfl) (fun _ _ _ h => h) (Or.inl ⟨by rfl, ?_⟩) ?_ ?_
        rotate_left
        · intro w'
          go_simp
          with_reducible rfl
        rotate_left
        · simp only [Act.put, List.setIfInBounds_toArray, List.set_cons_zero, List.set_cons_succ, i64_w, i32_w]
          rfl
        refine pure_ (i := 4) (N := some 19) (v := ?_) (a' := ?_) #[false, true, true, true, true, false, false, true, false, false, false] rfl rfl (by kernel_rfl) (fun _ _ _ h => h) (Or.inl ⟨by rfl, ?_⟩) ?_ ?_
        rotate_left
        · intro w'
          go_simp
          with_reducible rfl
        rotate_left
        · simp only [Act.put, List.setIfInBounds_toArray, List.set_cons_zero, List.set_cons_succ, i64_w, i32_w]
          rfl
        refine take_ (i := 8) (N := some 23) (v := ?_) (a' := ?_) #[false, true, true, true, true, false, false, true, true, false, false] rfl rfl (by kernel_rfl) (fun _ _ _ h => h) (Or.inl ⟨by rfl, ?_⟩) hHeld ?_ ?_
        rotate_left
        · rintro w' ⟨s0, s1, s2, s3, s4⟩
          go_simp
          with_reducible rfl
        rotate_left
        · simp only [Act.put, List.setIfInBounds_toArray, List.set_cons_zero, List.set_cons_succ, i64_w, i32_w]
          rfl
        refine one_ (i := 0) (N := some 15) #[true, true, true, true, true, false, false, true, true, false, false] rfl rfl (by kernel_rfl) (by decide) (fun K hK => ?_)
        refine value_ (w1 := ?_) (v := ?_) (by rfl) rfl ?_ ?_
        rotate_left 2
        · go_simp
          constructor
          · rfl
          · rfl
        refine hK.out _ _ ⟨below_cell (below_alloc (Below.refl _ _) _) (Nat.le_refl _) (hHeld.1), below_cell (below_alloc (Below.refl _ _) _) (Nat.le_refl _) (hHeld.2.1), below_cell (below_alloc (Below.refl _ _) _) (Nat.le_refl _) (hHeld.2.2.1), below_cell (below_alloc (Below.refl _ _) _) (Nat.le_refl _) (hHeld.2.2.2.1), below_cell (below_alloc (Below.refl _ _) _) (Nat.le_refl _) (hHeld.2.2.2.2)⟩ (fun hHeld => ?_)
        clear hK K
        refine norm_ (a' := ?_) ?_ ?_
        rotate_left
        · show Act.put _ (some 15) _ = _
          simp only [Act.put, List.setIfInBounds_toArray, List.set_cons_zero, List.set_cons_succ, i64_w, i32_w]
          rfl
        refine pure_ (i := 5) (N := some 20) (v := ?_) (a' := ?_) #[true, true, true, true, true, true, false, true, true, false, false] rfl rfl (by kernel_rfl) (fun _ _ _ h => h) (Or.inl ⟨by rfl, ?_⟩) ?_ ?_
        rotate_left
        · intro w'
          go_simp
          with_reducible rfl
        rotate_left
        · simp only [Act.put, List.setIfInBounds_toArray, List.set_cons_zero, List.set_cons_succ, i64_w, i32_w]
          rfl
        refine one_ (i := 6) (N := some 21) #[true, true, true, true, true, true, true, true, true, false, false] rfl rfl (by kernel_rfl) (by decide) (fun K hK => ?_)
        refine value_ (w1 := ?_) (v := ?_) (by rfl) rfl ?_ ?_
        rotate_left 2
        · go_simp
          constructor
          · rfl
          · rfl
        refine hK.out _ _ ⟨hHeld.1, hHeld.2.1, hHeld.2.2.1, hHeld.2.2.2.1, hHeld.2.2.2.2⟩ (fun hHeld => ?_)
        clear hK K
        refine norm_ (a' := ?_) ?_ ?_
        rotate_left
        · show Act.put _ (some 21) _ = _
          simp only [Act.put, List.setIfInBounds_toArray, List.set_cons_zero, List.set_cons_succ, i64_w, i32_w]
          rfl
        refine pure_ (i := 9) (N := some 24) (v := ?_) (a' := ?_) #[true, true, true, true, true, true, true, true, true, true, false] rfl rfl (by kernel_rfl) (fun _ _ _ h => h) (Or.inl ⟨by rfl, ?_⟩) ?_ ?_
        rotate_left
        · intro w'
          go_simp
          with_reducible rfl
        rotate_left
        · simp only [Act.put, List.setIfInBounds_toArray, List.set_cons_zero, List.set_cons_succ, i64_w, i32_w]
          rfl
        refine last_ (i := 10) (N := some 25) #[true, true, true, true, true, true, true, true, true, true, true] rfl rfl (by kernel_rfl) (by decide) (fun K hK => ?_)
        refine goes_ Tryd.func37 (by kernel_rfl) rfl #[.pointer (some ⟨g3, 0, none⟩), .string (⟨#[118, 97, 114, 32]⟩ ++ (rdGlobal x.globals i).name)] (by rfl) rfl rfl (by simp only [List.map_toArray, List.map_cons, List.map_nil]; rfl) ?_
        with_reducible refine (write_ev (B := w.heap.size) (builder_step BL.out (below_drew1 (below_alloc (Below.refl _ _) _))) HSZ.out (Nat.le_trans HB.out.size (below_drew1 (below_alloc (Below.refl _ _) _)).size)).mono ?_
        rintro e w3 ⟨rfl, hbl_, hb3, hok_⟩
        refine ⟨_, rfl, ?_⟩
        have hbl1 := Lib.hid hbl_
        have hb5 := Lib.hid hb3
        have hok1 := Lib.hid hok_
        refine hK.out _ _ ?_
        clear hK K
        refine norm_ (a' := ?_) ?_ ?_
        rotate_left
        · show Act.put _ (some 25) _ = _
          simp only [Act.put, List.setIfInBounds_toArray, List.set_cons_zero, List.set_cons_succ, i64_w, i32_w]
          rfl
        refine done_ (by kernel_rfl) ?_
        replace BL := hbl1.out
        rw [← HL1.out] at BL
        replace BL := Aside0.mk BL
        replace HB := Aside0.mk ((below_step HB.out (below_drew1 (below_alloc (Below.refl _ _) _))).trans hb5.out)
        have BK_ := Aside0.mk (kept_blk hok1.out (blk_below BKg5.out (below_drew1 (below_alloc (Below.refl _ _) _))) NE_.out (by decide))
        replace BK1 := Aside0.mk (kept_blk hok1.out (blk_below BK1.out (below_drew1 (below_alloc (Below.refl _ _) _))) (Ne.symm NEg1_g3.out) (by decide))
        clear hbl1 hb5 hok1 BKg5 hmm cg5_0 cg5_1 cg5_2 cg5_3 cg5_4
        have cg5_2 := (blk_cell BK_.out 2).trans rfl
        by_cases hz : 0 < (rdGlobal x.globals i).size
        · skip
          have hle := HLE.out
          have sl1 := SL1.out
          rw [if_pos hz] at hle
          simp only [List.length_append, List.length_cons, List.length_nil] at hle
          have kz : decide (0 < (rdGlobal x.globals i).size) = true := decide_eq_true hz
          obtain ⟨I, hI⟩ : ∃ I : ByteArray, I = ⟨(Lib.itoa (rdGlobal x.globals i).size).toArray⟩ := ⟨_, rfl⟩
          have sI : I.size = (Lib.itoa (rdGlobal x.globals i).size).length := by rw [hI]; exact bs_size _
          have hz2 : ¬ 9223372036854775807 < 1 + I.size := by omega
          have hz3 : ¬ 9223372036854775807 < 1 + I.size + 1 := by omega
          have HSZ2 := Lib.hid (show l1.length + ((⟨#[91]⟩ : ByteArray) ++ I ++ ⟨#[93]⟩).size ≤ 140737488355328 by rw [ByteArray.size_append, ByteArray.size_append]; show _ + (1 + _ + 1) ≤ _; omega)
          obtain ⟨l2, hl2⟩ : ∃ l2, l2 = l1 ++ ((⟨#[91]⟩ : ByteArray) ++ I ++ ⟨#[93]⟩).data.toList := ⟨_, rfl⟩
          have sl2 : l2.length = l1.length + (1 + I.size + 1) := by rw [hl2, List.length_append, size_toList, ByteArray.size_append, ByteArray.size_append]; rfl
          have HI := Lib.hid hI
          have HL2 := Lib.hid hl2
          have HZ := Lib.hid hz
          have HSZ3 := Lib.hid (show l2.length + (⟨#[59, 10]⟩ : ByteArray).size ≤ 140737488355328 by show _ + 2 ≤ _; omega)
          obtain ⟨l3, hl3⟩ : ∃ l3, l3 = l2 ++ (⟨#[59, 10]⟩ : ByteArray).data.toList := ⟨_, rfl⟩
          have HL3 := Lib.hid hl3
          clear hl3 hle sl1 hz hI hl2 sI sl2
          go_wp2_with (first | (go_at_call 19; refine (Tryd.strconv_Itoa _ HNZ.out.1 HNZ.out.2 _ (hg.below hg.size HB.out).pow).mono ?_; rintro e w8 ⟨rfl, hw_⟩; have hb_ := below_of_grow hw_; clear hw_; rw [← HI.out]; replace HB := Aside0.mk (below_step HB.out hb_); replace BL := Aside0.mk (builder_step BL.out hb_); replace BK_ := Aside0.mk (blk_below BK_.out hb_); replace BK1 := Aside0.mk (blk_below BK1.out hb_); clear hb_) | (go_at_call 37; (with_reducible refine (write_ev (B := w.heap.size) BL.out HSZ2.out HB.out.size).mono ?_); rintro e w9 ⟨rfl, hbl_, hb_, hok_⟩; rw [← HL2.out] at hbl_; replace BL := Aside0.mk hbl_; replace HB := Aside0.mk (HB.out.trans hb_); replace BK_ := Aside0.mk (kept_blk hok_ BK_.out NE_.out (by decide)); replace BK1 := Aside0.mk (kept_blk hok_ BK1.out (Ne.symm NEg1_g3.out) (by decide)); clear hbl_ hb_ hok_) | (go_at_call 37; (with_reducible refine (write_ev (B := w.heap.size) BL.out HSZ3.out HB.out.size).mono ?_); rintro e w9 ⟨rfl, hbl_, hb_, hok_⟩; rw [← HL3.out] at hbl_; replace BL := Aside0.mk hbl_; replace HB := Aside0.mk (HB.out.trans hb_); replace BK_ := Aside0.mk (kept_blk hok_ BK_.out NE_.out (by decide)); replace BK1 := Aside0.mk (kept_blk hok_ BK1.out (Ne.symm NEg1_g3.out) (by decide)); clear hbl_ hb_ hok_))
          go_roundg k1_
          case measure => omega
          case rel =>
            refine ⟨i + 1, rfl, by omega, by omega, ?_, HB, BK1⟩
            have he : l3 = ((x.globals.take (i + 1).toNat).map gtext).flatten := by
              rw [show (i + 1).toNat = i.toNat + 1 by omega, HTK.out, HL3.out, HL2.out, HI.out, HL1.out, gtext, HH.out, if_pos HZ.out]
              simp only [app_list, List.append_assoc, List.append_nil, List.nil_append]
              try rfl
            rw [← he]
            exact BL
        · skip
          have hle := HLE.out
          have sl1 := SL1.out
          rw [if_neg hz] at hle
          simp only [List.length_append, List.length_cons, List.length_nil] at hle
          have kz : decide (0 < (rdGlobal x.globals i).size) = false := decide_eq_false hz
          have HZ := Lib.hid hz
          have HSZ3 := Lib.hid (show l1.length + (⟨#[59, 10]⟩ : ByteArray).size ≤ 140737488355328 by show _ + 2 ≤ _; omega)
          obtain ⟨l3, hl3⟩ : ∃ l3, l3 = l1 ++ (⟨#[59, 10]⟩ : ByteArray).data.toList := ⟨_, rfl⟩
          have HL3 := Lib.hid hl3
          clear hl3 hle sl1 hz
          go_wp2_with (first | (go_at_call 37; (with_reducible refine (write_ev (B := w.heap.size) BL.out HSZ3.out HB.out.size).mono ?_); rintro e w9 ⟨rfl, hbl_, hb_, hok_⟩; rw [← HL3.out] at hbl_; replace BL := Aside0.mk hbl_; replace HB := Aside0.mk (HB.out.trans hb_); replace BK_ := Aside0.mk (kept_blk hok_ BK_.out NE_.out (by decide)); replace BK1 := Aside0.mk (kept_blk hok_ BK1.out (Ne.symm NEg1_g3.out) (by decide)); clear hbl_ hb_ hok_))
          go_roundg k1_
          case measure => omega
          case rel =>
            refine ⟨i + 1, rfl, by omega, by omega, ?_, HB, BK1⟩
            have he : l3 = ((x.globals.take (i + 1).toNat).map gtext).flatten := by
              rw [show (i + 1).toNat = i.toNat + 1 by omega, HTK.out, HL3.out, HL1.out, gtext, HH.out, if_neg (by have := HZ.out; omega)]
              simp only [app_list, List.append_assoc, List.append_nil, List.nil_append]
              try rfl
            rw [← he]
            exact BL
      by_cases h1 : (rdGlobal x.globals i).hold = 1
      · skip
        have hmm : max 0 (min 2 (rdGlobal x.globals i).hold) = 1 := by omega
        have hH : holdL (rdGlobal x.globals i).hold = [112, 117, 98, 108, 105, 99, 32] := by unfold holdL; rw [if_neg (by omega), if_pos (by omega)]
        have HH := Lib.hid hH
        rw [hH] at hle
        clear hH h0 h1
        simp only [List.length_cons, List.length_nil] at hle
        go_wp2_with (first | ((with_reducible refine gate_dst (N := 5) rfl ?_); refine var_event (W1 := ?w1_5_2) (N := 5) (cs := #[.string (rdGlobal x.globals i).name, .int .i64 (rdGlobal x.globals i).hold, .int .i64 (rdGlobal x.globals i).size, .int .i64 (rdGlobal x.globals i).pos.line, .int .i64 (rdGlobal x.globals i).pos.col]) (t := 54) ?hg ?hd ?hg2 ?hd2 ?hr ?hr2 ?_; (case hd => rfl); (case hg => rfl); (case hd2 => rfl); (case hg2 => rfl); (case hr => first | (go_simp; done) | (go_simp; rfl)); (case hr2 => first | (go_simp; done) | (go_simp; rfl)); intro g5 hgE_ W1 hbox_ hb_; have NE_ := Aside0.mk (show g3 ≠ g5 from Nat.ne_of_lt (Nat.lt_of_lt_of_le (builder_lt BL.out) hgE_)); have GEg5 := Aside0.mk (show w.heap.size ≤ g5 from Nat.le_trans HB.out.size (hgE_)); replace HB := Aside0.mk (below_step HB.out hb_); replace BL := Aside0.mk (builder_step BL.out hb_); replace BK1 := Aside0.mk (blk_below BK1.out hb_); have BKg5 := Aside0.mk hbox_; have cg5_0 : W1.cell? ⟨g5, 0, none⟩ = some (.string (rdGlobal x.globals i).name) := (blk_cell BKg5.out 0).trans rfl; have cg5_1 : W1.cell? ⟨g5, 1, none⟩ = some (.int .i64 (rdGlobal x.globals i).hold) := (blk_cell BKg5.out 1).trans rfl; have cg5_2 : W1.cell? ⟨g5, 2, none⟩ = some (.int .i64 (rdGlobal x.globals i).size) := (blk_cell BKg5.out 2).trans rfl; have cg5_3 : W1.cell? ⟨g5, 3, none⟩ = some (.int .i64 (rdGlobal x.globals i).pos.line) := (blk_cell BKg5.out 3).trans rfl; have cg5_4 : W1.cell? ⟨g5, 4, none⟩ = some (.int .i64 (rdGlobal x.globals i).pos.col) := (blk_cell BKg5.out 4).trans rfl; clear hb_ hbox_ hgE_))
        have hz1 : ¬ 9223372036854775807 < 7 + (rdGlobal x.globals i).name.size := by omega
        have HSZ := Lib.hid (show (((x.globals.take i.toNat).map gtext).flatten).length + ((⟨#[112, 117, 98, 108, 105, 99, 32]⟩ : ByteArray) ++ (rdGlobal x.globals i).name).size ≤ 140737488355328 by rw [ByteArray.size_append]; show _ + (7 + _) ≤ _; omega)
        obtain ⟨l1, hl1⟩ : ∃ l1, l1 = ((x.globals.take i.toNat).map gtext).flatten ++ ((⟨#[112, 117, 98, 108, 105, 99, 32]⟩ : ByteArray) ++ (rdGlobal x.globals i).name).data.toList := ⟨_, rfl⟩
        have sl1 : l1.length = (((x.globals.take i.toNat).map gtext).flatten).length + (7 + (rdGlobal x.globals i).name.size) := by rw [hl1, List.length_append, size_toList, ByteArray.size_append]; rfl
        have HL1 := Lib.hid hl1
        have SL1 := Lib.hid sl1
        have HLE := Aside0.mk hle
        clear hle hl1 sl1
        refine start_ (n := 11) (S := fun w' => w'.cell? ⟨g5, 0, none⟩ = some (.string (rdGlobal x.globals i).name) ∧ w'.cell? ⟨g5, 1, none⟩ = some (.int .i64 (rdGlobal x.globals i).hold) ∧ w'.cell? ⟨g5, 2, none⟩ = some (.int .i64 (rdGlobal x.globals i).size) ∧ w'.cell? ⟨g5, 3, none⟩ = some (.int .i64 (rdGlobal x.globals i).pos.line) ∧ w'.cell? ⟨g5, 4, none⟩ = some (.int .i64 (rdGlobal x.globals i).pos.col)) (ds := [10]) #[false, false, false, false, false, false, false, false, false, false, false] (by kernel_rfl) rfl rfl ⟨cg5_0, cg5_1, cg5_2, cg5_3, cg5_4⟩ (fun hHeld => ?_)
        refine pure_ (i := 1) (N := some 16) (v := ?_) (a' := ?_) #[false, true, false, false, false, false, false, false, false, false, false] rfl rfl (by kernel_rfl) (fun _ _ _ h => h) (Or.inl ⟨by rfl, ?_⟩) ?_ ?_
        rotate_left
        · intro w'
          go_simp
          with_reducible rfl
        rotate_left
        · simp only [Act.put, List.setIfInBounds_toArray, List.set_cons_zero, List.set_cons_succ, i64_w, i32_w]
          rfl
        refine pure_ (i := 7) (N := some 22) (v := ?_) (a' := ?_) #[false, true, false, false, false, false, false, true, false, false, false] rfl rfl (by kernel_rfl) (fun _ _ _ h => h) (Or.inl ⟨by rfl, ?_⟩) ?_ ?_
        rotate_left
        · intro w'
          go_simp
          with_reducible rfl
        rotate_left
        · simp only [Act.put, List.setIfInBounds_toArray, List.set_cons_zero, List.set_cons_succ, i64_w, i32_w]
          rfl
        refine take_ (i := 2) (N := some 17) (v := ?_) (a' := ?_) #[false, true, true, false, false, false, false, true, false, false, false] rfl rfl (by kernel_rfl) (fun _ _ _ h => h) (Or.inl ⟨by rfl, ?_⟩) hHeld ?_ ?_
        rotate_left
        · rintro w' ⟨s0, s1, s2, s3, s4⟩
          go_simp
          with_reducible rfl
        rotate_left
        · simp only [Act.put, List.setIfInBounds_toArray, List.set_cons_zero, List.set_cons_succ, i64_w, i32_w]
          rfl
        refine pure_ (i := 3) (N := some 18) (v := ?_) (a' := ?_) #[false, true, true, true, false, false, false, true, false, false, false] rfl rfl (by kernel_rfl) (fun _ _ _ h => h) (Or.inl ⟨by rfl, ?_⟩) ?_ ?_
        rotate_left
        · intro w'
          go_simp
          with_reducible rfl
        rotate_left
        · simp only [Act.put, List.setIfInBounds_toArray, List.set_cons_zero, List.set_cons_succ, i64_w, i32_w]
          rfl
        refine pure_ (i := 4) (N := some 19) (v := ?_) (a' := ?_) #[false, true, true, true, true, false, false, true, false, false, false] rfl rfl (by kernel_rfl) (fun _ _ _ h => h) (Or.inl ⟨by rfl, ?_⟩) ?_ ?_
        rotate_left
        · intro w'
          go_simp
          with_reducible rfl
        rotate_left
        · simp only [Act.put, List.setIfInBounds_toArray, List.set_cons_zero, List.set_cons_succ, i64_w, i32_w]
          rfl
        refine take_ (i := 8) (N := some 23) (v := ?_) (a' := ?_) #[false, true, true, true, true, false, false, true, true, false, false] rfl rfl (by kernel_rfl) (fun _ _ _ h => h) (Or.inl ⟨by rfl, ?_⟩) hHeld ?_ ?_
        rotate_left
        · rintro w' ⟨s0, s1, s2, s3, s4⟩
          go_simp
          with_reducible rfl
        rotate_left
        · simp only [Act.put, List.setIfInBounds_toArray, List.set_cons_zero, List.set_cons_succ, i64_w, i32_w]
          rfl
        refine one_ (i := 0) (N := some 15) #[true, true, true, true, true, false, false, true, true, false, false] rfl rfl (by kernel_rfl) (by decide) (fun K hK => ?_)
        refine value_ (w1 := ?_) (v := ?_) (by rfl) rfl ?_ ?_
        rotate_left 2
        · go_simp
          constructor
          · rfl
          · rfl
        refine hK.out _ _ ⟨below_cell (below_alloc (Below.refl _ _) _) (Nat.le_refl _) (hHeld.1), below_cell (below_alloc (Below.refl _ _) _) (Nat.le_refl _) (hHeld.2.1), below_cell (below_alloc (Below.refl _ _) _) (Nat.le_refl _) (hHeld.2.2.1), below_cell (below_alloc (Below.refl _ _) _) (Nat.le_refl _) (hHeld.2.2.2.1), below_cell (below_alloc (Below.refl _ _) _) (Nat.le_refl _) (hHeld.2.2.2.2)⟩ (fun hHeld => ?_)
        clear hK K
        refine norm_ (a' := ?_) ?_ ?_
        rotate_left
        · show Act.put _ (some 15) _ = _
          simp only [Act.put, List.setIfInBounds_toArray, List.set_cons_zero, List.set_cons_succ, i64_w, i32_w]
          rfl
        refine pure_ (i := 5) (N := some 20) (v := ?_) (a' := ?_) #[true, true, true, true, true, true, false, true, true, false, false] rfl rfl (by kernel_rfl) (fun _ _ _ h => h) (Or.inl ⟨by rfl, ?_⟩) ?_ ?_
        rotate_left
        · intro w'
          go_simp
          with_reducible rfl
        rotate_left
        · simp only [Act.put, List.setIfInBounds_toArray, List.set_cons_zero, List.set_cons_succ, i64_w, i32_w]
          rfl
        refine one_ (i := 6) (N := some 21) #[true, true, true, true, true, true, true, true, true, false, false] rfl rfl (by kernel_rfl) (by decide) (fun K hK => ?_)
        refine value_ (w1 := ?_) (v := ?_) (by rfl) rfl ?_ ?_
        rotate_left 2
        · go_simp
          constructor
          · rfl
          · rfl
        refine hK.out _ _ ⟨hHeld.1, hHeld.2.1, hHeld.2.2.1, hHeld.2.2.2.1, hHeld.2.2.2.2⟩ (fun hHeld => ?_)
        clear hK K
        refine norm_ (a' := ?_) ?_ ?_
        rotate_left
        · show Act.put _ (some 21) _ = _
          simp only [Act.put, List.setIfInBounds_toArray, List.set_cons_zero, List.set_cons_succ, i64_w, i32_w]
          rfl
        refine pure_ (i := 9) (N := some 24) (v := ?_) (a' := ?_) #[true, true, true, true, true, true, true, true, true, true, false] rfl rfl (by kernel_rfl) (fun _ _ _ h => h) (Or.inl ⟨by rfl, ?_⟩) ?_ ?_
        rotate_left
        · intro w'
          go_simp
          with_reducible rfl
        rotate_left
        · simp only [Act.put, List.setIfInBounds_toArray, List.set_cons_zero, List.set_cons_succ, i64_w, i32_w]
          rfl
        refine last_ (i := 10) (N := some 25) #[true, true, true, true, true, true, true, true, true, true, true] rfl rfl (by kernel_rfl) (by decide) (fun K hK => ?_)
        refine goes_ Tryd.func37 (by kernel_rfl) rfl #[.pointer (some ⟨g3, 0, none⟩), .string (⟨#[112, 117, 98, 108, 105, 99, 32]⟩ ++ (rdGlobal x.globals i).name)] (by rfl) rfl rfl (by simp only [List.map_toArray, List.map_cons, List.map_nil]; rfl) ?_
        with_reducible refine (write_ev (B := w.heap.size) (builder_step BL.out (below_drew1 (below_alloc (Below.refl _ _) _))) HSZ.out (Nat.le_trans HB.out.size (below_drew1 (below_alloc (Below.refl _ _) _)).size)).mono ?_
        rintro e w3 ⟨rfl, hbl_, hb3, hok_⟩
        refine ⟨_, rfl, ?_⟩
        have hbl1 := Lib.hid hbl_
        have hb5 := Lib.hid hb3
        have hok1 := Lib.hid hok_
        refine hK.out _ _ ?_
        clear hK K
        refine norm_ (a' := ?_) ?_ ?_
        rotate_left
        · show Act.put _ (some 25) _ = _
          simp only [Act.put, List.setIfInBounds_toArray, List.set_cons_zero, List.set_cons_succ, i64_w, i32_w]
          rfl
        refine done_ (by kernel_rfl) ?_
        replace BL := hbl1.out
        rw [← HL1.out] at BL
        replace BL := Aside0.mk BL
        replace HB := Aside0.mk ((below_step HB.out (below_drew1 (below_alloc (Below.refl _ _) _))).trans hb5.out)
        have BK_ := Aside0.mk (kept_blk hok1.out (blk_below BKg5.out (below_drew1 (below_alloc (Below.refl _ _) _))) NE_.out (by decide))
        replace BK1 := Aside0.mk (kept_blk hok1.out (blk_below BK1.out (below_drew1 (below_alloc (Below.refl _ _) _))) (Ne.symm NEg1_g3.out) (by decide))
        clear hbl1 hb5 hok1 BKg5 hmm cg5_0 cg5_1 cg5_2 cg5_3 cg5_4
        have cg5_2 := (blk_cell BK_.out 2).trans rfl
        by_cases hz : 0 < (rdGlobal x.globals i).size
        · skip
          have hle := HLE.out
          have sl1 := SL1.out
          rw [if_pos hz] at hle
          simp only [List.length_append, List.length_cons, List.length_nil] at hle
          have kz : decide (0 < (rdGlobal x.globals i).size) = true := decide_eq_true hz
          obtain ⟨I, hI⟩ : ∃ I : ByteArray, I = ⟨(Lib.itoa (rdGlobal x.globals i).size).toArray⟩ := ⟨_, rfl⟩
          have sI : I.size = (Lib.itoa (rdGlobal x.globals i).size).length := by rw [hI]; exact bs_size _
          have hz2 : ¬ 9223372036854775807 < 1 + I.size := by omega
          have hz3 : ¬ 9223372036854775807 < 1 + I.size + 1 := by omega
          have HSZ2 := Lib.hid (show l1.length + ((⟨#[91]⟩ : ByteArray) ++ I ++ ⟨#[93]⟩).size ≤ 140737488355328 by rw [ByteArray.size_append, ByteArray.size_append]; show _ + (1 + _ + 1) ≤ _; omega)
          obtain ⟨l2, hl2⟩ : ∃ l2, l2 = l1 ++ ((⟨#[91]⟩ : ByteArray) ++ I ++ ⟨#[93]⟩).data.toList := ⟨_, rfl⟩
          have sl2 : l2.length = l1.length + (1 + I.size + 1) := by rw [hl2, List.length_append, size_toList, ByteArray.size_append, ByteArray.size_append]; rfl
          have HI := Lib.hid hI
          have HL2 := Lib.hid hl2
          have HZ := Lib.hid hz
          have HSZ3 := Lib.hid (show l2.length + (⟨#[59, 10]⟩ : ByteArray).size ≤ 140737488355328 by show _ + 2 ≤ _; omega)
          obtain ⟨l3, hl3⟩ : ∃ l3, l3 = l2 ++ (⟨#[59, 10]⟩ : ByteArray).data.toList := ⟨_, rfl⟩
          have HL3 := Lib.hid hl3
          clear hl3 hle sl1 hz hI hl2 sI sl2
          go_wp2_with (first | (go_at_call 19; refine (Tryd.strconv_Itoa _ HNZ.out.1 HNZ.out.2 _ (hg.below hg.size HB.out).pow).mono ?_; rintro e w8 ⟨rfl, hw_⟩; have hb_ := below_of_grow hw_; clear hw_; rw [← HI.out]; replace HB := Aside0.mk (below_step HB.out hb_); replace BL := Aside0.mk (builder_step BL.out hb_); replace BK_ := Aside0.mk (blk_below BK_.out hb_); replace BK1 := Aside0.mk (blk_below BK1.out hb_); clear hb_) | (go_at_call 37; (with_reducible refine (write_ev (B := w.heap.size) BL.out HSZ2.out HB.out.size).mono ?_); rintro e w9 ⟨rfl, hbl_, hb_, hok_⟩; rw [← HL2.out] at hbl_; replace BL := Aside0.mk hbl_; replace HB := Aside0.mk (HB.out.trans hb_); replace BK_ := Aside0.mk (kept_blk hok_ BK_.out NE_.out (by decide)); replace BK1 := Aside0.mk (kept_blk hok_ BK1.out (Ne.symm NEg1_g3.out) (by decide)); clear hbl_ hb_ hok_) | (go_at_call 37; (with_reducible refine (write_ev (B := w.heap.size) BL.out HSZ3.out HB.out.size).mono ?_); rintro e w9 ⟨rfl, hbl_, hb_, hok_⟩; rw [← HL3.out] at hbl_; replace BL := Aside0.mk hbl_; replace HB := Aside0.mk (HB.out.trans hb_); replace BK_ := Aside0.mk (kept_blk hok_ BK_.out NE_.out (by decide)); replace BK1 := Aside0.mk (kept_blk hok_ BK1.out (Ne.symm NEg1_g3.out) (by decide)); clear hbl_ hb_ hok_))
          go_roundg k1_
          case measure => omega
          case rel =>
            refine ⟨i + 1, rfl, by omega, by omega, ?_, HB, BK1⟩
            have he : l3 = ((x.globals.take (i + 1).toNat).map gtext).flatten := by
              rw [show (i + 1).toNat = i.toNat + 1 by omega, HTK.out, HL3.out, HL2.out, HI.out, HL1.out, gtext, HH.out, if_pos HZ.out]
              simp only [app_list, List.append_assoc, List.append_nil, List.nil_append]
              try rfl
            rw [← he]
            exact BL
        · skip
          have hle := HLE.out
          have sl1 := SL1.out
          rw [if_neg hz] at hle
          simp only [List.length_append, List.length_cons, List.length_nil] at hle
          have kz : decide (0 < (rdGlobal x.globals i).size) = false := decide_eq_false hz
          have HZ := Lib.hid hz
          have HSZ3 := Lib.hid (show l1.length + (⟨#[59, 10]⟩ : ByteArray).size ≤ 140737488355328 by show _ + 2 ≤ _; omega)
          obtain ⟨l3, hl3⟩ : ∃ l3, l3 = l1 ++ (⟨#[59, 10]⟩ : ByteArray).data.toList := ⟨_, rfl⟩
          have HL3 := Lib.hid hl3
          clear hl3 hle sl1 hz
          go_wp2_with (first | (go_at_call 37; (with_reducible refine (write_ev (B := w.heap.size) BL.out HSZ3.out HB.out.size).mono ?_); rintro e w9 ⟨rfl, hbl_, hb_, hok_⟩; rw [← HL3.out] at hbl_; replace BL := Aside0.mk hbl_; replace HB := Aside0.mk (HB.out.trans hb_); replace BK_ := Aside0.mk (kept_blk hok_ BK_.out NE_.out (by decide)); replace BK1 := Aside0.mk (kept_blk hok_ BK1.out (Ne.symm NEg1_g3.out) (by decide)); clear hbl_ hb_ hok_))
          go_roundg k1_
          case measure => omega
          case rel =>
            refine ⟨i + 1, rfl, by omega, by omega, ?_, HB, BK1⟩
            have he : l3 = ((x.globals.take (i + 1).toNat).map gtext).flatten := by
              rw [show (i + 1).toNat = i.toNat + 1 by omega, HTK.out, HL3.out, HL1.out, gtext, HH.out, if_neg (by have := HZ.out; omega)]
              simp only [app_list, List.append_assoc, List.append_nil, List.nil_append]
              try rfl
            rw [← he]
            exact BL
      · skip
        have hmm : max 0 (min 2 (rdGlobal x.globals i).hold) = 2 := by omega
        have hH : holdL (rdGlobal x.globals i).hold = [115, 101, 99, 114, 101, 116, 32] := by unfold holdL; rw [if_neg (by omega), if_neg (by omega)]
        have HH := Lib.hid hH
        rw [hH] at hle
        clear hH h0 h1
        simp only [List.length_cons, List.length_nil] at hle
        go_wp2_with (first | ((with_reducible refine gate_dst (N := 5) rfl ?_); refine var_event (W1 := ?w1_5_3) (N := 5) (cs := #[.string (rdGlobal x.globals i).name, .int .i64 (rdGlobal x.globals i).hold, .int .i64 (rdGlobal x.globals i).size, .int .i64 (rdGlobal x.globals i).pos.line, .int .i64 (rdGlobal x.globals i).pos.col]) (t := 54) ?hg ?hd ?hg2 ?hd2 ?hr ?hr2 ?_; (case hd => rfl); (case hg => rfl); (case hd2 => rfl); (case hg2 => rfl); (case hr => first | (go_simp; done) | (go_simp; rfl)); (case hr2 => first | (go_simp; done) | (go_simp; rfl)); intro g5 hgE_ W1 hbox_ hb_; have NE_ := Aside0.mk (show g3 ≠ g5 from Nat.ne_of_lt (Nat.lt_of_lt_of_le (builder_lt BL.out) hgE_)); have GEg5 := Aside0.mk (show w.heap.size ≤ g5 from Nat.le_trans HB.out.size (hgE_)); replace HB := Aside0.mk (below_step HB.out hb_); replace BL := Aside0.mk (builder_step BL.out hb_); replace BK1 := Aside0.mk (blk_below BK1.out hb_); have BKg5 := Aside0.mk hbox_; have cg5_0 : W1.cell? ⟨g5, 0, none⟩ = some (.string (rdGlobal x.globals i).name) := (blk_cell BKg5.out 0).trans rfl; have cg5_1 : W1.cell? ⟨g5, 1, none⟩ = some (.int .i64 (rdGlobal x.globals i).hold) := (blk_cell BKg5.out 1).trans rfl; have cg5_2 : W1.cell? ⟨g5, 2, none⟩ = some (.int .i64 (rdGlobal x.globals i).size) := (blk_cell BKg5.out 2).trans rfl; have cg5_3 : W1.cell? ⟨g5, 3, none⟩ = some (.int .i64 (rdGlobal x.globals i).pos.line) := (blk_cell BKg5.out 3).trans rfl; have cg5_4 : W1.cell? ⟨g5, 4, none⟩ = some (.int .i64 (rdGlobal x.globals i).pos.col) := (blk_cell BKg5.out 4).trans rfl; clear hb_ hbox_ hgE_))
        have hz1 : ¬ 9223372036854775807 < 7 + (rdGlobal x.globals i).name.size := by omega
        have HSZ := Lib.hid (show (((x.globals.take i.toNat).map gtext).flatten).length + ((⟨#[115, 101, 99, 114, 101, 116, 32]⟩ : ByteArray) ++ (rdGlobal x.globals i).name).size ≤ 140737488355328 by rw [ByteArray.size_append]; show _ + (7 + _) ≤ _; omega)
        obtain ⟨l1, hl1⟩ : ∃ l1, l1 = ((x.globals.take i.toNat).map gtext).flatten ++ ((⟨#[115, 101, 99, 114, 101, 116, 32]⟩ : ByteArray) ++ (rdGlobal x.globals i).name).data.toList := ⟨_, rfl⟩
        have sl1 : l1.length = (((x.globals.take i.toNat).map gtext).flatten).length + (7 + (rdGlobal x.globals i).name.size) := by rw [hl1, List.length_append, size_toList, ByteArray.size_append]; rfl
        have HL1 := Lib.hid hl1
        have SL1 := Lib.hid sl1
        have HLE := Aside0.mk hle
        clear hle hl1 sl1
        refine start_ (n := 11) (S := fun w' => w'.cell? ⟨g5, 0, none⟩ = some (.string (rdGlobal x.globals i).name) ∧ w'.cell? ⟨g5, 1, none⟩ = some (.int .i64 (rdGlobal x.globals i).hold) ∧ w'.cell? ⟨g5, 2, none⟩ = some (.int .i64 (rdGlobal x.globals i).size) ∧ w'.cell? ⟨g5, 3, none⟩ = some (.int .i64 (rdGlobal x.globals i).pos.line) ∧ w'.cell? ⟨g5, 4, none⟩ = some (.int .i64 (rdGlobal x.globals i).pos.col)) (ds := [10]) #[false, false, false, false, false, false, false, false, false, false, false] (by kernel_rfl) rfl rfl ⟨cg5_0, cg5_1, cg5_2, cg5_3, cg5_4⟩ (fun hHeld => ?_)
        refine pure_ (i := 1) (N := some 16) (v := ?_) (a' := ?_) #[false, true, false, false, false, false, false, false, false, false, false] rfl rfl (by kernel_rfl) (fun _ _ _ h => h) (Or.inl ⟨by rfl, ?_⟩) ?_ ?_
        rotate_left
        · intro w'
          go_simp
          with_reducible rfl
        rotate_left
        · simp only [Act.put, List.setIfInBounds_toArray, List.set_cons_zero, List.set_cons_succ, i64_w, i32_w]
          rfl
        refine pure_ (i := 7) (N := some 22) (v := ?_) (a' := ?_) #[false, true, false, false, false, false, false, true, false, false, false] rfl rfl (by kernel_rfl) (fun _ _ _ h => h) (Or.inl ⟨by rfl, ?_⟩) ?_ ?_
        rotate_left
        · intro w'
          go_simp
          with_reducible rfl
        rotate_left
        · simp only [Act.put, List.setIfInBounds_toArray, List.set_cons_zero, List.set_cons_succ, i64_w, i32_w]
          rfl
        refine take_ (i := 2) (N := some 17) (v := ?_) (a' := ?_) #[false, true, true, false, false, false, false, true, false, false, false] rfl rfl (by kernel_rfl) (fun _ _ _ h => h) (Or.inl ⟨by rfl, ?_⟩) hHeld ?_ ?_
        rotate_left
        · rintro w' ⟨s0, s1, s2, s3, s4⟩
          go_simp
          with_reducible rfl
        rotate_left
        · simp only [Act.put, List.setIfInBounds_toArray, List.set_cons_zero, List.set_cons_succ, i64_w, i32_w]
          rfl
        refine pure_ (i := 3) (N := some 18) (v := ?_) (a' := ?_) #[false, true, true, true, false, false, false, true, false, false, false] rfl rfl (by kernel_rfl) (fun _ _ _ h => h) (Or.inl ⟨by rfl, ?_⟩) ?_ ?_
        rotate_left
        · intro w'
          go_simp
          with_reducible rfl
        rotate_left
        · simp only [Act.put, List.setIfInBounds_toArray, List.set_cons_zero, List.set_cons_succ, i64_w, i32_w]
          rfl
        refine pure_ (i := 4) (N := some 19) (v := ?_) (a' := ?_) #[false, true, true, true, true, false, false, true, false, false, false] rfl rfl (by kernel_rfl) (fun _ _ _ h => h) (Or.inl ⟨by rfl, ?_⟩) ?_ ?_
        rotate_left
        · intro w'
          go_simp
          with_reducible rfl
        rotate_left
        · simp only [Act.put, List.setIfInBounds_toArray, List.set_cons_zero, List.set_cons_succ, i64_w, i32_w]
          rfl
        refine take_ (i := 8) (N := some 23) (v := ?_) (a' := ?_) #[false, true, true, true, true, false, false, true, true, false, false] rfl rfl (by kernel_rfl) (fun _ _ _ h => h) (Or.inl ⟨by rfl, ?_⟩) hHeld ?_ ?_
        rotate_left
        · rintro w' ⟨s0, s1, s2, s3, s4⟩
          go_simp
          with_reducible rfl
        rotate_left
        · simp only [Act.put, List.setIfInBounds_toArray, List.set_cons_zero, List.set_cons_succ, i64_w, i32_w]
          rfl
        refine one_ (i := 0) (N := some 15) #[true, true, true, true, true, false, false, true, true, false, false] rfl rfl (by kernel_rfl) (by decide) (fun K hK => ?_)
        refine value_ (w1 := ?_) (v := ?_) (by rfl) rfl ?_ ?_
        rotate_left 2
        · go_simp
          constructor
          · rfl
          · rfl
        refine hK.out _ _ ⟨below_cell (below_alloc (Below.refl _ _) _) (Nat.le_refl _) (hHeld.1), below_cell (below_alloc (Below.refl _ _) _) (Nat.le_refl _) (hHeld.2.1), below_cell (below_alloc (Below.refl _ _) _) (Nat.le_refl _) (hHeld.2.2.1), below_cell (below_alloc (Below.refl _ _) _) (Nat.le_refl _) (hHeld.2.2.2.1), below_cell (below_alloc (Below.refl _ _) _) (Nat.le_refl _) (hHeld.2.2.2.2)⟩ (fun hHeld => ?_)
        clear hK K
        refine norm_ (a' := ?_) ?_ ?_
        rotate_left
        · show Act.put _ (some 15) _ = _
          simp only [Act.put, List.setIfInBounds_toArray, List.set_cons_zero, List.set_cons_succ, i64_w, i32_w]
          rfl
        refine pure_ (i := 5) (N := some 20) (v := ?_) (a' := ?_) #[true, true, true, true, true, true, false, true, true, false, false] rfl rfl (by kernel_rfl) (fun _ _ _ h => h) (Or.inl ⟨by rfl, ?_⟩) ?_ ?_
        rotate_left
        · intro w'
          go_simp
          with_reducible rfl
        rotate_left
        · simp only [Act.put, List.setIfInBounds_toArray, List.set_cons_zero, List.set_cons_succ, i64_w, i32_w]
          rfl
        refine one_ (i := 6) (N := some 21) #[true, true, true, true, true, true, true, true, true, false, false] rfl rfl (by kernel_rfl) (by decide) (fun K hK => ?_)
        refine value_ (w1 := ?_) (v := ?_) (by rfl) rfl ?_ ?_
        rotate_left 2
        · go_simp
          constructor
          · rfl
          · rfl
        refine hK.out _ _ ⟨hHeld.1, hHeld.2.1, hHeld.2.2.1, hHeld.2.2.2.1, hHeld.2.2.2.2⟩ (fun hHeld => ?_)
        clear hK K
        refine norm_ (a' := ?_) ?_ ?_
        rotate_left
        · show Act.put _ (some 21) _ = _
          simp only [Act.put, List.setIfInBounds_toArray, List.set_cons_zero, List.set_cons_succ, i64_w, i32_w]
          rfl
        refine pure_ (i := 9) (N := some 24) (v := ?_) (a' := ?_) #[true, true, true, true, true, true, true, true, true, true, false] rfl rfl (by kernel_rfl) (fun _ _ _ h => h) (Or.inl ⟨by rfl, ?_⟩) ?_ ?_
        rotate_left
        · intro w'
          go_simp
          with_reducible rfl
        rotate_left
        · simp only [Act.put, List.setIfInBounds_toArray, List.set_cons_zero, List.set_cons_succ, i64_w, i32_w]
          rfl
        refine last_ (i := 10) (N := some 25) #[true, true, true, true, true, true, true, true, true, true, true] rfl rfl (by kernel_rfl) (by decide) (fun K hK => ?_)
        refine goes_ Tryd.func37 (by kernel_rfl) rfl #[.pointer (some ⟨g3, 0, none⟩), .string (⟨#[115, 101, 99, 114, 101, 116, 32]⟩ ++ (rdGlobal x.globals i).name)] (by rfl) rfl rfl (by simp only [List.map_toArray, List.map_cons, List.map_nil]; rfl) ?_
        with_reducible refine (write_ev (B := w.heap.size) (builder_step BL.out (below_drew1 (below_alloc (Below.refl _ _) _))) HSZ.out (Nat.le_trans HB.out.size (below_drew1 (below_alloc (Below.refl _ _) _)).size)).mono ?_
        rintro e w3 ⟨rfl, hbl_, hb3, hok_⟩
        refine ⟨_, rfl, ?_⟩
        have hbl1 := Lib.hid hbl_
        have hb5 := Lib.hid hb3
        have hok1 := Lib.hid hok_
        refine hK.out _ _ ?_
        clear hK K
        refine norm_ (a' := ?_) ?_ ?_
        rotate_left
        · show Act.put _ (some 25) _ = _
          simp only [Act.put, List.setIfInBounds_toArray, List.set_cons_zero, List.set_cons_succ, i64_w, i32_w]
          rfl
        refine done_ (by kernel_rfl) ?_
        replace BL := hbl1.out
        rw [← HL1.out] at BL
        replace BL := Aside0.mk BL
        replace HB := Aside0.mk ((below_step HB.out (below_drew1 (below_alloc (Below.refl _ _) _))).trans hb5.out)
        have BK_ := Aside0.mk (kept_blk hok1.out (blk_below BKg5.out (below_drew1 (below_alloc (Below.refl _ _) _))) NE_.out (by decide))
        replace BK1 := Aside0.mk (kept_blk hok1.out (blk_below BK1.out (below_drew1 (below_alloc (Below.refl _ _) _))) (Ne.symm NEg1_g3.out) (by decide))
        clear hbl1 hb5 hok1 BKg5 hmm cg5_0 cg5_1 cg5_2 cg5_3 cg5_4
        have cg5_2 := (blk_cell BK_.out 2).trans rfl
        by_cases hz : 0 < (rdGlobal x.globals i).size
        · skip
          have hle := HLE.out
          have sl1 := SL1.out
          rw [if_pos hz] at hle
          simp only [List.length_append, List.length_cons, List.length_nil] at hle
          have kz : decide (0 < (rdGlobal x.globals i).size) = true := decide_eq_true hz
          obtain ⟨I, hI⟩ : ∃ I : ByteArray, I = ⟨(Lib.itoa (rdGlobal x.globals i).size).toArray⟩ := ⟨_, rfl⟩
          have sI : I.size = (Lib.itoa (rdGlobal x.globals i).size).length := by rw [hI]; exact bs_size _
          have hz2 : ¬ 9223372036854775807 < 1 + I.size := by omega
          have hz3 : ¬ 9223372036854775807 < 1 + I.size + 1 := by omega
          have HSZ2 := Lib.hid (show l1.length + ((⟨#[91]⟩ : ByteArray) ++ I ++ ⟨#[93]⟩).size ≤ 140737488355328 by rw [ByteArray.size_append, ByteArray.size_append]; show _ + (1 + _ + 1) ≤ _; omega)
          obtain ⟨l2, hl2⟩ : ∃ l2, l2 = l1 ++ ((⟨#[91]⟩ : ByteArray) ++ I ++ ⟨#[93]⟩).data.toList := ⟨_, rfl⟩
          have sl2 : l2.length = l1.length + (1 + I.size + 1) := by rw [hl2, List.length_append, size_toList, ByteArray.size_append, ByteArray.size_append]; rfl
          have HI := Lib.hid hI
          have HL2 := Lib.hid hl2
          have HZ := Lib.hid hz
          have HSZ3 := Lib.hid (show l2.length + (⟨#[59, 10]⟩ : ByteArray).size ≤ 140737488355328 by show _ + 2 ≤ _; omega)
          obtain ⟨l3, hl3⟩ : ∃ l3, l3 = l2 ++ (⟨#[59, 10]⟩ : ByteArray).data.toList := ⟨_, rfl⟩
          have HL3 := Lib.hid hl3
          clear hl3 hle sl1 hz hI hl2 sI sl2
          go_wp2_with (first | (go_at_call 19; refine (Tryd.strconv_Itoa _ HNZ.out.1 HNZ.out.2 _ (hg.below hg.size HB.out).pow).mono ?_; rintro e w8 ⟨rfl, hw_⟩; have hb_ := below_of_grow hw_; clear hw_; rw [← HI.out]; replace HB := Aside0.mk (below_step HB.out hb_); replace BL := Aside0.mk (builder_step BL.out hb_); replace BK_ := Aside0.mk (blk_below BK_.out hb_); replace BK1 := Aside0.mk (blk_below BK1.out hb_); clear hb_) | (go_at_call 37; (with_reducible refine (write_ev (B := w.heap.size) BL.out HSZ2.out HB.out.size).mono ?_); rintro e w9 ⟨rfl, hbl_, hb_, hok_⟩; rw [← HL2.out] at hbl_; replace BL := Aside0.mk hbl_; replace HB := Aside0.mk (HB.out.trans hb_); replace BK_ := Aside0.mk (kept_blk hok_ BK_.out NE_.out (by decide)); replace BK1 := Aside0.mk (kept_blk hok_ BK1.out (Ne.symm NEg1_g3.out) (by decide)); clear hbl_ hb_ hok_) | (go_at_call 37; (with_reducible refine (write_ev (B := w.heap.size) BL.out HSZ3.out HB.out.size).mono ?_); rintro e w9 ⟨rfl, hbl_, hb_, hok_⟩; rw [← HL3.out] at hbl_; replace BL := Aside0.mk hbl_; replace HB := Aside0.mk (HB.out.trans hb_); replace BK_ := Aside0.mk (kept_blk hok_ BK_.out NE_.out (by decide)); replace BK1 := Aside0.mk (kept_blk hok_ BK1.out (Ne.symm NEg1_g3.out) (by decide)); clear hbl_ hb_ hok_))
          go_roundg k1_
          case measure => omega
          case rel =>
            refine ⟨i + 1, rfl, by omega, by omega, ?_, HB, BK1⟩
            have he : l3 = ((x.globals.take (i + 1).toNat).map gtext).flatten := by
              rw [show (i + 1).toNat = i.toNat + 1 by omega, HTK.out, HL3.out, HL2.out, HI.out, HL1.out, gtext, HH.out, if_pos HZ.out]
              simp only [app_list, List.append_assoc, List.append_nil, List.nil_append]
              try rfl
            rw [← he]
            exact BL
        · skip
          have hle := HLE.out
          have sl1 := SL1.out
          rw [if_neg hz] at hle
          simp only [List.length_append, List.length_cons, List.length_nil] at hle
          have kz : decide (0 < (rdGlobal x.globals i).size) = false := decide_eq_false hz
          have HZ := Lib.hid hz
          have HSZ3 := Lib.hid (show l1.length + (⟨#[59, 10]⟩ : ByteArray).size ≤ 140737488355328 by show _ + 2 ≤ _; omega)
          obtain ⟨l3, hl3⟩ : ∃ l3, l3 = l1 ++ (⟨#[59, 10]⟩ : ByteArray).data.toList := ⟨_, rfl⟩
          have HL3 := Lib.hid hl3
          clear hl3 hle sl1 hz
          go_wp2_with (first | (go_at_call 37; (with_reducible refine (write_ev (B := w.heap.size) BL.out HSZ3.out HB.out.size).mono ?_); rintro e w9 ⟨rfl, hbl_, hb_, hok_⟩; rw [← HL3.out] at hbl_; replace BL := Aside0.mk hbl_; replace HB := Aside0.mk (HB.out.trans hb_); replace BK_ := Aside0.mk (kept_blk hok_ BK_.out NE_.out (by decide)); replace BK1 := Aside0.mk (kept_blk hok_ BK1.out (Ne.symm NEg1_g3.out) (by decide)); clear hbl_ hb_ hok_))
          go_roundg k1_
          case measure => omega
          case rel =>
            refine ⟨i + 1, rfl, by omega, by omega, ?_, HB, BK1⟩
            have he : l3 = ((x.globals.take (i + 1).toNat).map gtext).flatten := by
              rw [show (i + 1).toNat = i.toNat + 1 by omega, HTK.out, HL3.out, HL1.out, gtext, HH.out, if_neg (by have := HZ.out; omega)]
              simp only [app_list, List.append_assoc, List.append_nil, List.nil_append]
              try rfl
            rw [← he]
            exact BL
end Go.Proofs.YtpbeplepcbhamaaDoor
