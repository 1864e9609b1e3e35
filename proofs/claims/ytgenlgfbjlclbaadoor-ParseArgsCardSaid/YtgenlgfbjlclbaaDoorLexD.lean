/- The lexer's next token: what next computes. -/
import Derived.Test.YtgenlgfbjlclbaaDoorLexC
import Derived.Test.YtgenlgfbjlclbaaDoorGP
namespace Go.Proofs.YtgenlgfbjlclbaaDoor
open Go.RowKit Go.Proofs.YtgenlgfbjlclbaaDoorW.PrintWords Go.Proofs.YtgenlgfbjlclbaaDoorW.PrintLast Go.Proofs.YtgenlgfbjlclbaaDoorW.PrintMore
set_option linter.unusedVariables false
set_option linter.unusedSimpArgs false

theorem bsOf_list (l : Bytes) : (bsOf l).data.toList = l := rfl
theorem bsOf_size (l : Bytes) : (bsOf l).size = l.length := List.size_toArray
theorem ext_take (s : ByteArray) (j n : Nat) : s.extract j (j + n) = bsOf ((s.data.toList.drop j).take n) := by
  apply ByteArray.ext
  apply Array.ext'
  rw [ByteArray.data_extract, Array.toList_extract, bsOf_list]
  simp only [List.extract_eq_take_drop]
  rw [Nat.add_sub_cancel_left]
theorem runL_take (b : Bool) (l : Bytes) : l.take (runL b l).length = runL b l := by
  induction l with
  | nil => rfl
  | cons c r ih =>
    rw [runL_cons]
    split
    · rw [List.length_cons, List.take_succ_cons, ih]
    · rfl
theorem runL_digit : ∀ (l : Bytes) (c : UInt8), c ∈ runL false l → isDigit c = true
  | [], c, h => by cases h
  | a :: r, c, h => by
    rw [runL_cons] at h
    split at h
    · rename_i ha
      rcases List.mem_cons.1 h with rfl | h
      · simpa using ha
      · exact runL_digit r c h
    · cases h
theorem contains_take (l : List Bytes) (t : Bytes) (k : Nat) (h : k < l.length) : (l.take (k + 1)).contains t = ((l.take k).contains t || l.getD k [] == t) := by
  rw [List.take_add_one, List.getElem?_eq_getElem h, List.getD_eq_getElem?_getD, List.getElem?_eq_getElem h]
  simp only [Option.toList_some, List.contains_append, Option.getD_some]
  congr 1
  by_cases e : l[k] = t
  · rw [e]
    simp
  · have e2 : ¬ t = l[k] := fun h => e h.symm
    rw [beq_eq_false_iff_ne.2 e]
    simpa using e2
theorem find_take (l : List Bytes) (f : Bytes → Bool) (k : Nat) (h : k < l.length) : (l.take (k + 1)).find? f = ((l.take k).find? f).or (if f (l.getD k []) then some (l.getD k []) else none) := by
  rw [List.take_add_one, List.getElem?_eq_getElem h, List.getD_eq_getElem?_getD, List.getElem?_eq_getElem h, List.find?_append]
  simp only [Option.toList_some, Option.getD_some]
  congr 1
  simp [List.find?_cons]
  split <;> simp_all

theorem marks_ne : ∀ m, m ∈ marksL → m ≠ [] := by decide
theorem valueL_bound : ∀ (l : Bytes) (n m : Int), 0 ≤ n → n ≤ 9223372036854775807 → (∀ c, c ∈ l → isDigit c = true) → valueL n l = some m → Wf64 m
  | [], n, m, h0, h1, _, h => by
    obtain rfl : n = m := Option.some.inj h
    exact ⟨by omega, by omega⟩
  | c :: r, n, m, h0, h1, hd, h => by
    have hc := hd c List.mem_cons_self
    rw [isDigit_nat] at hc
    simp only [Bool.and_eq_true, decide_eq_true_eq] at hc
    rw [valueL_cons] at h
    split at h
    · cases h
    · exact valueL_bound r _ m (by omega) (by omega) (fun d hd' => hd d (List.mem_cons_of_mem _ hd')) h

theorem wf_zero : Wf64 0 := ⟨by decide, by decide⟩
set_option maxRecDepth 100000 in
set_option maxHeartbeats 12800000 in
theorem next_calls (ga : GA) (N : Nat) (g : Nat) (s : ByteArray) (i : Nat) (p : Pos) (w : World) (hb : w.heap[g]? = some (.cells #[.string s, .int .i64 i, .int .i64 p.line, .int .i64 p.col] 104 (0, 0))) (hin : i ≤ s.size) (hs : s.size ≤ 65536) (hp : PB p i) (hG : GP ga N w) (hN : N ≤ g) :
    Calls Tryd.prog 42 #[.pointer (some ⟨g, 0, none⟩)] w fun e w' => ∃ j q, i ≤ j ∧ j ≤ s.size ∧ blankL false p (s.data.toList.drop i) = (q, s.data.toList.drop j) ∧ Chg g w w' ∧
      ((∃ k, tokenL q (s.data.toList.drop j) = .error k ∧ e = .returned (.tuple #[.agg #[.int .i64 0, .string ⟨#[]⟩, .int .i64 0, .int .i64 0, .int .i64 0], .int .i64 k]) ∧ w'.heap[g]? = some (.cells #[.string s, .int .i64 j, .int .i64 q.line, .int .i64 q.col] 104 (0, 0))) ∨
       (∃ t, tokenL q (s.data.toList.drop j) = .ok t ∧ e = .returned (.tuple #[.agg #[.int .i64 t.kind, .string t.text, .int .i64 t.num, .int .i64 t.pos.line, .int .i64 t.pos.col], .int .i64 0]) ∧ Wf64 t.num ∧ ∃ q', q' = advs q ((s.data.toList.drop j).take t.text.size) ∧ j + t.text.size ≤ s.size ∧ PB q' (j + t.text.size) ∧ w'.heap[g]? = some (.cells #[.string s, .int .i64 ((j + t.text.size : Nat) : Int), .int .i64 q'.line, .int .i64 q'.col] 104 (0, 0)))) := by
  obtain ⟨wA, wc, mA, mc, lA, lc⟩ := ga
  have BKg := Aside0.mk hb
  have HPB0 := Aside0.mk hp
  have HG := Aside0.mk hG
  have HNg := Lib.hid hN
  have HNw := Lib.hid hG.size
  have CH := Aside0.mk (Chg.refl g w)
  clear hb hp hG hN
  have Cg := cl_of BKg.out
  go_enter Tryd.func42, Tryd.ntmps42
  go_wp2_with (first | ((with_reducible refine gate_dst (N := 2) rfl ?_); refine box_event ?hg (N := 2) ?hd (cs := #[.int .i64 0, .string ⟨#[]⟩, .int .i64 0, .int .i64 0, .int .i64 0]) (t := 71) ?hr ?_; (case hd => rfl); (case hg => rfl); (case hr => first | (go_simp; done) | (go_simp; rfl)); intro h2 hgE_ W1 hbox_ hb_; have GEh2 := Aside0.mk (show w.heap.size ≤ h2 from Nat.le_trans CH.out.size (Nat.le_of_eq hgE_.symm)); have NEh2 := Aside0.mk (show g ≠ h2 from Nat.ne_of_lt (Nat.lt_of_lt_of_le (blk_lt BKg.out) (Nat.le_of_eq hgE_.symm))); have ch_ : Chg g w W1 := Chg.of_below hb_; replace CH := Aside0.mk (CH.out.trans ch_); replace BKg := Aside0.mk (blk_below BKg.out hb_); replace HG := Aside0.mk (GP.step HG.out ch_ HNg.out); replace Cg := cl_of BKg.out; have BKh2 := Aside0.mk hbox_; have Ch2 := cl_of BKh2.out; clear ch_ hb_ hbox_ hgE_) | (go_at_call 53; (with_reducible refine (blank_calls g s i p _ BKg.out hin hs HPB0.out).mono ?_); rintro e W2 ⟨rfl, ch_, j, q, hij_, hjs_, hbl_, hpb_, bk_⟩; have HIJ := Lib.hid hij_; have HJS := Lib.hid hjs_; have HBL := Lib.hid hbl_; have HPB := Aside0.mk hpb_; replace CH := Aside0.mk (CH.out.trans ch_); replace BKg := Aside0.mk bk_; replace HG := Aside0.mk (GP.step HG.out ch_ HNg.out); replace BKh2 := Aside0.mk (ch_.blk BKh2.out (Ne.symm NEh2.out)); replace Cg := cl_of BKg.out; replace Ch2 := cl_of BKh2.out; clear ch_ bk_ hij_ hjs_ hbl_ hpb_) | ((with_reducible refine gate_dst (N := 4) rfl ?_); refine var_event (W1 := ?w1_4) (N := 4) (cs := #[.int .i64 0, .string ⟨#[]⟩, .int .i64 0, .int .i64 q.line, .int .i64 q.col]) (t := 71) ?hg ?hd ?hg2 ?hd2 ?hr ?hr2 ?_; (case hd => rfl); (case hg => rfl); (case hd2 => rfl); (case hg2 => rfl); (case hr => first | (go_simp; done) | (go_simp; rfl)); (case hr2 => first | (go_simp; done) | (go_simp; rfl)); intro h4 hgE_ W3 hbox_ hb_; have GEh4 := Aside0.mk (show w.heap.size ≤ h4 from Nat.le_trans CH.out.size (hgE_)); have NEh4 := Aside0.mk (show g ≠ h4 from Nat.ne_of_lt (Nat.lt_of_lt_of_le (blk_lt BKg.out) (hgE_))); have NEh2_h4 := Aside0.mk (show h2 ≠ h4 from Nat.ne_of_lt (Nat.lt_of_lt_of_le (blk_lt BKh2.out) (hgE_))); have ch_ : Chg g W2 W3 := Chg.of_below hb_; replace CH := Aside0.mk (CH.out.trans ch_); replace BKg := Aside0.mk (blk_below BKg.out hb_); replace HG := Aside0.mk (GP.step HG.out ch_ HNg.out); replace BKh2 := Aside0.mk (blk_below BKh2.out hb_); replace Cg := cl_of BKg.out; replace Ch2 := cl_of BKh2.out; have BKh4 := Aside0.mk hbox_; have Ch4 := cl_of BKh4.out; clear ch_ hb_ hbox_ hgE_))
  by_cases hje : j = s.size
  · have HTOK := Lib.hid (show tokenL q (s.data.toList.drop j) = .ok (tok 0 [] 0 q) by
      rw [List.drop_of_length_le (by rw [size_toList]; omega)]
      rfl)
    have kj : (((j : Nat) : Int) == (s.size : Int)) = true := beq_iff_eq.2 (by omega)
    clear hje
    go_quiet (fail)
    obtain ⟨KW4, hW_⟩ : ∃ W, W = W3.drewN nq := ⟨_, rfl⟩
    have chd_ : Chg g W3 KW4 := by rw [hW_]; exact Chg.of_below (pw_below_drewN (Below.refl _ _) nq)
    rw [← hW_]
    replace BKg : Aside0 (KW4.heap[g]? = some (.cells #[.string s, .int .i64 j, .int .i64 q.line, .int .i64 q.col] 104 (0, 0))) := ⟨by rw [hW_]; exact BKg.out⟩
    replace BKh2 : Aside0 (KW4.heap[h2]? = some (.cells #[.int .i64 0, .string ⟨#[]⟩, .int .i64 0, .int .i64 0, .int .i64 0] 71 (0, 0))) := ⟨by rw [hW_]; exact BKh2.out⟩
    replace BKh4 : Aside0 (KW4.heap[h4]? = some (.cells #[.int .i64 0, .string ⟨#[]⟩, .int .i64 0, .int .i64 q.line, .int .i64 q.col] 71 (0, 0))) := ⟨by rw [hW_]; exact BKh4.out⟩
    clear hW_
    replace CH := Aside0.mk (CH.out.trans chd_)
    replace HG := Aside0.mk (GP.step HG.out chd_ HNg.out)
    replace Cg := cl_of BKg.out
    replace Ch2 := cl_of BKh2.out
    replace Ch4 := cl_of BKh4.out
    clear chd_
    go_wp2_with (first | ((with_reducible refine gate_store (t := 71) (p := 2) (v := .tmp 29) rfl ?_); refine put_event (w1 := ?w1p_K5) (g := h2) (cs := #[.int .i64 0, .string ⟨#[]⟩, .int .i64 0, .int .i64 q.line, .int .i64 q.col]) (T := 71) ?hg (t := 71) (p := 2) (v := .tmp 29) ?ha ?hn ?hr ?hk ?hb ?_; (case ha => rfl); (case hn => rfl); (case hg => rfl); (case hr => first | (go_simp; done) | (go_simp; rfl)); (case hk => exact (((((Chg.refl _ _).set _ _).set _ _).set _ _).set _ _).set _ _); (case hb => exact blk_put (blk_put (blk_put (blk_put (blk_put BKh2.out 0 _ rfl) 1 _ rfl) 2 _ rfl) 3 _ rfl) 4 _ rfl); intro KW5 ch_ hbox_; replace CH := Aside0.mk (Chg.own CH.out ch_ GEh2.out); replace HG := Aside0.mk (GP.step HG.out ch_ (Nat.le_trans HNw.out GEh2.out)); replace BKg := Aside0.mk (ch_.blk BKg.out NEh2.out); replace BKh2 := Aside0.mk hbox_; replace BKh4 := Aside0.mk (ch_.blk BKh4.out (Ne.symm NEh2_h4.out)); replace Cg := cl_of BKg.out; replace Ch2 := cl_of BKh2.out; replace Ch4 := cl_of BKh4.out; clear ch_ hbox_))
    refine bodyPost_ret (results_ct rfl _ _ h2 71 #[.int .i64 0, .string ⟨#[]⟩, .int .i64 0, .int .i64 q.line, .int .i64 q.col] (0, 0) _ rfl BKh2.out Tryd.underlying71 rfl (by kernel_rfl)) rfl ?_
    refine ⟨j, q, HIJ.out, HJS.out, HBL.out, CH.out, .inr ⟨tok 0 [] 0 q, HTOK.out, rfl, wf_zero, q, rfl, HJS.out, HPB.out, BKg.out⟩⟩

  have hjs : j < s.size := by have := HJS.out; omega
  have kj : (((j : Nat) : Int) == (s.size : Int)) = false := beq_eq_false_iff_ne.2 (by omega)
  have HD := Lib.hid (drop_at s j hjs)
  clear hje
  cases hlt : isLetter (s[j]'hjs) with
  | true =>
    have KL := Lib.hid hlt
    obtain ⟨T, hT⟩ : ∃ T, T = runL true (s.data.toList.drop j) := ⟨_, rfl⟩
    obtain ⟨n, hn⟩ : ∃ n, n = (runL true (s.data.toList.drop j)).length := ⟨_, rfl⟩
    obtain ⟨X, hX⟩ : ∃ X, X = bsOf T := ⟨_, rfl⟩
    have hle := runL_le true (s.data.toList.drop j)
    rw [List.length_drop, size_toList, ← hn] at hle
    have hext : s.extract j (j + n) = X := by rw [ext_take, hn, runL_take, ← hT, hX]
    have hxs : X.size = n := by rw [hX, bsOf_size, hT, hn]
    obtain ⟨m, hm⟩ : ∃ m, m = j + n := ⟨_, rfl⟩
    rw [← hm] at hext
    have hms : m ≤ s.size := by omega
    have hjm : j ≤ m := by omega
    have hwr : wrap64 ((j : Int) + (n : Int)) = (m : Int) := by unfold wrap64; omega
    have HNR := Lib.hid hn
    have HX := Lib.hid hX
    have HT := Lib.hid hT
    have HJX := Lib.hid (show j + X.size ≤ s.size by omega)
    have HXS := Lib.hid hxs
    clear hlt hT hn hX hle hxs hm
    go_quiet (fail)
    obtain ⟨LW4, hW_⟩ : ∃ W, W = W3.drewN nq := ⟨_, rfl⟩
    have chd_ : Chg g W3 LW4 := by rw [hW_]; exact Chg.of_below (pw_below_drewN (Below.refl _ _) nq)
    rw [← hW_]
    replace BKg : Aside0 (LW4.heap[g]? = some (.cells #[.string s, .int .i64 j, .int .i64 q.line, .int .i64 q.col] 104 (0, 0))) := ⟨by rw [hW_]; exact BKg.out⟩
    replace BKh2 : Aside0 (LW4.heap[h2]? = some (.cells #[.int .i64 0, .string ⟨#[]⟩, .int .i64 0, .int .i64 0, .int .i64 0] 71 (0, 0))) := ⟨by rw [hW_]; exact BKh2.out⟩
    replace BKh4 : Aside0 (LW4.heap[h4]? = some (.cells #[.int .i64 0, .string ⟨#[]⟩, .int .i64 0, .int .i64 q.line, .int .i64 q.col] 71 (0, 0))) := ⟨by rw [hW_]; exact BKh4.out⟩
    clear hW_
    replace CH := Aside0.mk (CH.out.trans chd_)
    replace HG := Aside0.mk (GP.step HG.out chd_ HNg.out)
    replace Cg := cl_of BKg.out
    replace Ch2 := cl_of BKh2.out
    replace Ch4 := cl_of BKh4.out
    clear chd_
    go_wp2
    go_quiet (fail)
    obtain ⟨LW5, hW_⟩ : ∃ W, W = LW4.drewN nq := ⟨_, rfl⟩
    have chd_ : Chg g LW4 LW5 := by rw [hW_]; exact Chg.of_below (pw_below_drewN (Below.refl _ _) nq)
    rw [← hW_]
    replace BKg : Aside0 (LW5.heap[g]? = some (.cells #[.string s, .int .i64 j, .int .i64 q.line, .int .i64 q.col] 104 (0, 0))) := ⟨by rw [hW_]; exact BKg.out⟩
    replace BKh2 : Aside0 (LW5.heap[h2]? = some (.cells #[.int .i64 0, .string ⟨#[]⟩, .int .i64 0, .int .i64 0, .int .i64 0] 71 (0, 0))) := ⟨by rw [hW_]; exact BKh2.out⟩
    replace BKh4 : Aside0 (LW5.heap[h4]? = some (.cells #[.int .i64 0, .string ⟨#[]⟩, .int .i64 0, .int .i64 q.line, .int .i64 q.col] 71 (0, 0))) := ⟨by rw [hW_]; exact BKh4.out⟩
    clear hW_
    replace CH := Aside0.mk (CH.out.trans chd_)
    replace HG := Aside0.mk (GP.step HG.out chd_ HNg.out)
    replace Cg := cl_of BKg.out
    replace Ch2 := cl_of BKh2.out
    replace Ch4 := cl_of BKh4.out
    clear chd_
    go_wp2_with (first | (go_at_call 54; (with_reducible refine (letter_calls (s[j]'hjs) _).mono ?_); rintro e w_ ⟨rfl, hw_⟩; replace hw_ := hw_.symm; subst hw_; rw [KL.out]))
    have BKd := Aside0.mk (show LW5.drew.heap[g]? = some (.cells #[.string s, .int .i64 j, .int .i64 q.line, .int .i64 q.col] 104 (0, 0)) from BKg.out)
    have BK4d := Aside0.mk (show LW5.drew.heap[h4]? = some (.cells #[.int .i64 0, .string ⟨#[]⟩, .int .i64 0, .int .i64 q.line, .int .i64 q.col] 71 (0, 0)) from BKh4.out)
    have BK2d := Aside0.mk (show LW5.drew.heap[h2]? = some (.cells #[.int .i64 0, .string ⟨#[]⟩, .int .i64 0, .int .i64 0, .int .i64 0] 71 (0, 0)) from BKh2.out)
    refine start_ (n := 20) (S := fun w' => w'.cell? ⟨g, 0, none⟩ = some (.string s) ∧ w'.cell? ⟨g, 1, none⟩ = some (.int .i64 j) ∧ w'.cell? ⟨g, 2, none⟩ = some (.int .i64 q.line) ∧ w'.cell? ⟨g, 3, none⟩ = some (.int .i64 q.col)) (ds := []) #[false, false, false, false, false, false, false, false, false, false, false, false, false, false, false, false, false, false, false, false] (by kernel_rfl) rfl rfl ⟨(blk_cell BKg.out 0).trans rfl, (blk_cell BKg.out 1).trans rfl, (blk_cell BKg.out 2).trans rfl, (blk_cell BKg.out 3).trans rfl⟩ (fun hHeld => ?_)
    refine pure_ (i := 0) (N := some 72) (v := ?_) (a' := ?_) #[true, false, false, false, false, false, false, false, false, false, false, false, false, false, false, false, false, false, false, false] rfl rfl (by kernel_rfl) (fun _ _ _ h => h) (Or.inl ⟨by rfl, ?_⟩) ?_ ?_
    rotate_left
    · intro w'
      go_simp
      with_reducible rfl
    rotate_left
    · simp only [Act.put, List.setIfInBounds_toArray, List.set_cons_zero, List.set_cons_succ, i64_w, i32_w]
      rfl
    refine pure_ (i := 1) (N := some 73) (v := ?_) (a' := ?_) #[true, true, false, false, false, false, false, false, false, false, false, false, false, false, false, false, false, false, false, false] rfl rfl (by kernel_rfl) (fun _ _ _ h => h) (Or.inl ⟨by rfl, ?_⟩) ?_ ?_
    rotate_left
    · intro w'
      go_simp
      with_reducible rfl
    rotate_left
    · simp only [Act.put, List.setIfInBounds_toArray, List.set_cons_zero, List.set_cons_succ, i64_w, i32_w]
      rfl
    refine pure_ (i := 2) (N := some 74) (v := ?_) (a' := ?_) #[true, true, true, false, false, false, false, false, false, false, false, false, false, false, false, false, false, false, false, false] rfl rfl (by kernel_rfl) (fun _ _ _ h => h) (Or.inl ⟨by rfl, ?_⟩) ?_ ?_
    rotate_left
    · intro w'
      go_simp
      with_reducible rfl
    rotate_left
    · simp only [Act.put, List.setIfInBounds_toArray, List.set_cons_zero, List.set_cons_succ, i64_w, i32_w]
      rfl
    refine pure_ (i := 4) (N := some 76) (v := ?_) (a' := ?_) #[true, true, true, false, true, false, false, false, false, false, false, false, false, false, false, false, false, false, false, false] rfl rfl (by kernel_rfl) (fun _ _ _ h => h) (Or.inl ⟨by rfl, ?_⟩) ?_ ?_
    rotate_left
    · intro w'
      go_simp
      with_reducible rfl
    rotate_left
    · simp only [Act.put, List.setIfInBounds_toArray, List.set_cons_zero, List.set_cons_succ, i64_w, i32_w]
      rfl
    refine pure_ (i := 5) (N := some 77) (v := ?_) (a' := ?_) #[true, true, true, false, true, true, false, false, false, false, false, false, false, false, false, false, false, false, false, false] rfl rfl (by kernel_rfl) (fun _ _ _ h => h) (Or.inl ⟨by rfl, ?_⟩) ?_ ?_
    rotate_left
    · intro w'
      go_simp
      with_reducible rfl
    rotate_left
    · simp only [Act.put, List.setIfInBounds_toArray, List.set_cons_zero, List.set_cons_succ, i64_w, i32_w]
      rfl
    refine pure_ (i := 6) (N := some 78) (v := ?_) (a' := ?_) #[true, true, true, false, true, true, true, false, false, false, false, false, false, false, false, false, false, false, false, false] rfl rfl (by kernel_rfl) (fun _ _ _ h => h) (Or.inl ⟨by rfl, ?_⟩) ?_ ?_
    rotate_left
    · intro w'
      go_simp
      with_reducible rfl
    rotate_left
    · simp only [Act.put, List.setIfInBounds_toArray, List.set_cons_zero, List.set_cons_succ, i64_w, i32_w]
      rfl
    refine pure_ (i := 8) (N := some 80) (v := ?_) (a' := ?_) #[true, true, true, false, true, true, true, false, true, false, false, false, false, false, false, false, false, false, false, false] rfl rfl (by kernel_rfl) (fun _ _ _ h => h) (Or.inl ⟨by rfl, ?_⟩) ?_ ?_
    rotate_left
    · intro w'
      go_simp
      with_reducible rfl
    rotate_left
    · simp only [Act.put, List.setIfInBounds_toArray, List.set_cons_zero, List.set_cons_succ, i64_w, i32_w]
      rfl
    refine pure_ (i := 9) (N := some 81) (v := ?_) (a' := ?_) #[true, true, true, false, true, true, true, false, true, true, false, false, false, false, false, false, false, false, false, false] rfl rfl (by kernel_rfl) (fun _ _ _ h => h) (Or.inl ⟨by rfl, ?_⟩) ?_ ?_
    rotate_left
    · intro w'
      go_simp
      with_reducible rfl
    rotate_left
    · simp only [Act.put, List.setIfInBounds_toArray, List.set_cons_zero, List.set_cons_succ, i64_w, i32_w]
      rfl
    refine pure_ (i := 10) (N := some 82) (v := ?_) (a' := ?_) #[true, true, true, false, true, true, true, false, true, true, true, false, false, false, false, false, false, false, false, false] rfl rfl (by kernel_rfl) (fun _ _ _ h => h) (Or.inl ⟨by rfl, ?_⟩) ?_ ?_
    rotate_left
    · intro w'
      go_simp
      with_reducible rfl
    rotate_left
    · simp only [Act.put, List.setIfInBounds_toArray, List.set_cons_zero, List.set_cons_succ, i64_w, i32_w]
      rfl
    refine pure_ (i := 12) (N := some 84) (v := ?_) (a' := ?_) #[true, true, true, false, true, true, true, false, true, true, true, false, true, false, false, false, false, false, false, false] rfl rfl (by kernel_rfl) (fun _ _ _ h => h) (Or.inl ⟨by rfl, ?_⟩) ?_ ?_
    rotate_left
    · intro w'
      go_simp
      with_reducible rfl
    rotate_left
    · simp only [Act.put, List.setIfInBounds_toArray, List.set_cons_zero, List.set_cons_succ, i64_w, i32_w]
      rfl
    refine pure_ (i := 16) (N := some 88) (v := ?_) (a' := ?_) #[true, true, true, false, true, true, true, false, true, true, true, false, true, false, false, false, true, false, false, false] rfl rfl (by kernel_rfl) (fun _ _ _ h => h) (Or.inl ⟨by rfl, ?_⟩) ?_ ?_
    rotate_left
    · intro w'
      go_simp
      with_reducible rfl
    rotate_left
    · simp only [Act.put, List.setIfInBounds_toArray, List.set_cons_zero, List.set_cons_succ, i64_w, i32_w]
      rfl
    refine take_ (i := 3) (N := some 75) (v := ?_) (a' := ?_) #[true, true, true, true, true, true, true, false, true, true, true, false, true, false, false, false, true, false, false, false] rfl rfl (by kernel_rfl) (fun _ _ _ h => h) (Or.inl ⟨by rfl, ?_⟩) hHeld ?_ ?_
    rotate_left
    · rintro w' ⟨s0, s1, s2, s3⟩
      go_simp
      with_reducible rfl
    rotate_left
    · simp only [Act.put, List.setIfInBounds_toArray, List.set_cons_zero, List.set_cons_succ, i64_w, i32_w]
      rfl
    refine take_ (i := 7) (N := some 79) (v := ?_) (a' := ?_) #[true, true, true, true, true, true, true, true, true, true, true, false, true, false, false, false, true, false, false, false] rfl rfl (by kernel_rfl) (fun _ _ _ h => h) (Or.inl ⟨by rfl, ?_⟩) hHeld ?_ ?_
    rotate_left
    · rintro w' ⟨s0, s1, s2, s3⟩
      go_simp
      with_reducible rfl
    rotate_left
    · simp only [Act.put, List.setIfInBounds_toArray, List.set_cons_zero, List.set_cons_succ, i64_w, i32_w]
      rfl
    refine take_ (i := 11) (N := some 83) (v := ?_) (a' := ?_) #[true, true, true, true, true, true, true, true, true, true, true, true, true, false, false, false, true, false, false, false] rfl rfl (by kernel_rfl) (fun _ _ _ h => h) (Or.inl ⟨by rfl, ?_⟩) hHeld ?_ ?_
    rotate_left
    · rintro w' ⟨s0, s1, s2, s3⟩
      go_simp
      with_reducible rfl
    rotate_left
    · simp only [Act.put, List.setIfInBounds_toArray, List.set_cons_zero, List.set_cons_succ, i64_w, i32_w]
      rfl
    refine one_ (i := 13) (N := some 85) #[true, true, true, true, true, true, true, true, true, true, true, true, true, true, false, false, true, false, false, false] rfl rfl (by kernel_rfl) (by decide) (fun K hK => ?_)
    refine goes_ Tryd.func55 (by kernel_rfl) rfl #[.pointer (some ⟨g, 0, none⟩), .bool true] (by rfl) rfl rfl (by simp only [List.map_toArray, List.map_cons, List.map_nil]; rfl) ?_
    with_reducible refine (lrun_calls g s j q true _ BKd.out HJS.out hs).mono ?_
    rintro e w3 ⟨rfl, chr_, bkr_⟩
    refine ⟨_, rfl, ?_⟩
    rw [← HNR.out]
    have chr := Lib.hid chr_
    have bkr := Lib.hid bkr_
    have bk4 := Lib.hid (chr_.blk BK4d.out (Ne.symm NEh4.out))
    have bk2 := Lib.hid (chr_.blk BK2d.out (Ne.symm NEh2.out))
    skip
    have zz0 := blk_frozen bk4.out 0
    have zz1 := blk_frozen bk4.out 1
    have yy0 := (blk_cell bk4.out 0).trans rfl
    have yy1 := (blk_cell bk4.out 1).trans rfl
    refine hK.out _ _ ⟨(blk_cell bkr.out 0).trans rfl, (blk_cell bkr.out 1).trans rfl, (blk_cell bkr.out 2).trans rfl, (blk_cell bkr.out 3).trans rfl⟩ (fun hHeld => ?_)
    clear hK K
    refine norm_ (a' := ?_) ?_ ?_
    rotate_left
    · show Act.put _ (some 85) _ = _
      simp only [Act.put, List.setIfInBounds_toArray, List.set_cons_zero, List.set_cons_succ, i64_w, i32_w]
      rfl
    refine pure_ (i := 14) (N := some 86) (v := ?_) (a' := ?_) #[true, true, true, true, true, true, true, true, true, true, true, true, true, true, true, false, true, false, false, false] rfl rfl (by kernel_rfl) (fun _ _ _ h => h) (Or.inl ⟨by rfl, ?_⟩) ?_ ?_
    rotate_left
    · intro w'
      go_simp
      with_reducible rfl
    rotate_left
    · simp only [Act.put, List.setIfInBounds_toArray, List.set_cons_zero, List.set_cons_succ, i64_w, i32_w]
      rfl
    refine pure_ (i := 15) (N := some 87) (v := ?_) (a' := ?_) #[true, true, true, true, true, true, true, true, true, true, true, true, true, true, true, true, true, false, false, false] rfl rfl (by kernel_rfl) (fun _ _ _ h => h) (Or.inl ⟨by rfl, ?_⟩) ?_ ?_
    rotate_left
    · intro w'
      go_simp
      with_reducible rfl
    rotate_left
    · simp only [Act.put, List.setIfInBounds_toArray, List.set_cons_zero, List.set_cons_succ, i64_w, i32_w]
      rfl
    refine one_ (i := 17) (N := none) #[true, true, true, true, true, true, true, true, true, true, true, true, true, true, true, true, true, true, false, false] rfl rfl (by kernel_rfl) (by decide) (fun K hK => ?_)
    refine skip_ (w1 := ?_) (by rfl) rfl ?_ ?_
    rotate_left
    · go_simp
      rfl
    refine hK.out _ _ ⟨((Chg.refl h4 _).set _ _).cell (hHeld.1) NEh4.out, ((Chg.refl h4 _).set _ _).cell (hHeld.2.1) NEh4.out, ((Chg.refl h4 _).set _ _).cell (hHeld.2.2.1) NEh4.out, ((Chg.refl h4 _).set _ _).cell (hHeld.2.2.2) NEh4.out⟩ (fun hHeld => ?_)
    clear hK K
    refine pure_ (i := 18) (N := some 89) (v := ?_) (a' := ?_) #[true, true, true, true, true, true, true, true, true, true, true, true, true, true, true, true, true, true, true, false] rfl rfl (by kernel_rfl) (fun _ _ _ h => h) (Or.inl ⟨by rfl, ?_⟩) ?_ ?_
    rotate_left
    · intro w'
      go_simp
      with_reducible rfl
    rotate_left
    · simp only [Act.put, List.setIfInBounds_toArray, List.set_cons_zero, List.set_cons_succ, i64_w, i32_w]
      rfl
    refine one_ (i := 19) (N := none) #[true, true, true, true, true, true, true, true, true, true, true, true, true, true, true, true, true, true, true, true] rfl rfl (by kernel_rfl) (by decide) (fun K hK => ?_)
    refine skip_ (w1 := ?_) (by rfl) rfl ?_ ?_
    rotate_left
    · go_simp
      rfl
    refine hK.out _ _ ⟨((Chg.refl h4 _).set _ _).cell (hHeld.1) NEh4.out, ((Chg.refl h4 _).set _ _).cell (hHeld.2.1) NEh4.out, ((Chg.refl h4 _).set _ _).cell (hHeld.2.2.1) NEh4.out, ((Chg.refl h4 _).set _ _).cell (hHeld.2.2.2) NEh4.out⟩ (fun hHeld => ?_)
    clear hK K
    refine done_ (by kernel_rfl) ?_
    obtain ⟨LW6, hW_⟩ : ∃ W, W = (w3.setCell ⟨h4, 0, none⟩ (.int .i64 1)).setCell ⟨h4, 1, none⟩ (.string X) := ⟨_, rfl⟩
    have cho_ : Chg h4 w3 LW6 := by rw [hW_]; exact ((Chg.refl _ _).set _ _).set _ _
    rw [← hW_]
    have chd_ : Chg g LW5 w3 := (Chg.of_below (below_drew (Below.refl _ _))).trans chr.out
    replace CH := Aside0.mk (Chg.own (CH.out.trans chd_) cho_ GEh4.out)
    replace BKg := Aside0.mk (cho_.blk bkr.out NEh4.out)
    replace BKh2 := Aside0.mk (cho_.blk bk2.out NEh2_h4.out)
    replace BKh4 : Aside0 (LW6.heap[h4]? = some (.cells #[.int .i64 1, .string X, .int .i64 0, .int .i64 q.line, .int .i64 q.col] 71 (0, 0))) := ⟨by rw [hW_]; exact blk_put (blk_put bk4.out 0 _ rfl) 1 _ rfl⟩
    replace HG := Aside0.mk (GP.step (GP.step HG.out chd_ HNg.out) cho_ (Nat.le_trans HNw.out GEh4.out))
    clear chd_ cho_ hW_ chr bkr bk2 bk4 zz0 zz1 yy0 yy1 BKd BK4d BK2d hHeld
    replace Cg := cl_of BKg.out
    replace Ch2 := cl_of BKh2.out
    replace Ch4 := cl_of BKh4.out
    have hwd : LW6.cell? ⟨1, 0, none⟩ = some (.slice wA 11 wc) := HG.out.now.words
    go_wp2
    go_loopg [92] 11 (fun kq v92 w' => ∃ k : Nat, v92 = .int .i64 k ∧ kq + k = 11 ∧ Aside0 (w'.heap[h4]? = some (.cells #[.int .i64 (if (wordsL.take k).contains T = true then (3 : Int) else 1), .string X, .int .i64 0, .int .i64 q.line, .int .i64 q.col] 71 (0, 0))) ∧ Aside0 (w'.heap[g]? = some (.cells #[.string s, .int .i64 j, .int .i64 q.line, .int .i64 q.col] 104 (0, 0))) ∧ Aside0 (w'.heap[h2]? = some (.cells #[.int .i64 0, .string ⟨#[]⟩, .int .i64 0, .int .i64 0, .int .i64 0] 71 (0, 0))) ∧ Aside0 (Chg g w w') ∧ Aside0 (GP ⟨wA, wc, mA, mc, lA, lc⟩ N w'))
    case atStart => exact ⟨0, rfl, by omega, BKh4, BKg, BKh2, CH, HG⟩
    case round =>
      clear BKh4 BKg BKh2 CH HG hwd Cg Ch2 Ch4
      obtain ⟨k, rfl, hk, BKh4, BKg, BKh2, CH, HG⟩ := hrel
      cases gk with
      | zero =>
        have hge : decide ((k : Int) < 11) = false := by simp; omega
        obtain rfl : k = 11 := by omega
        have hkind : (if (wordsL.take 11).contains T = true then (3 : Int) else 1) = if wordsL.contains T = true then 3 else 1 := rfl
        obtain ⟨kd, hkd⟩ : ∃ kd : Int, kd = if wordsL.contains T = true then 3 else 1 := ⟨_, rfl⟩
        rw [hkind, ← hkd] at BKh4
        have HTOK := Lib.hid (show tokenL q (s.data.toList.drop j) = .ok ⟨kd, X, 0, q⟩ by
          rw [hkd, HX.out, HT.out, HD.out, tokenL, if_pos KL.out]
          rfl)
        clear hkind hkd hk
        have Cg := cl_of BKg.out
        have Ch2 := cl_of BKh2.out
        have Ch4 := cl_of BKh4.out
        go_wp2_with (first | (go_at_call 59; (with_reducible refine (lskip_calls g s j X.size q _ BKg.out HJX.out hs HPB.out).mono ?_); rintro e EW1 ⟨rfl, ch_, q2, hq2_, hpb2_, bk_⟩; have HQ2 := Aside0.mk hq2_; have HPB2 := Aside0.mk hpb2_; replace CH := Aside0.mk (CH.out.trans ch_); replace BKg := Aside0.mk bk_; replace HG := Aside0.mk (GP.step HG.out ch_ HNg.out); replace BKh2 := Aside0.mk (ch_.blk BKh2.out (Ne.symm NEh2.out)); replace BKh4 := Aside0.mk (ch_.blk BKh4.out (Ne.symm NEh4.out)); replace Cg := cl_of BKg.out; replace Ch2 := cl_of BKh2.out; replace Ch4 := cl_of BKh4.out; clear ch_ bk_ hq2_ hpb2_) | ((with_reducible refine gate_store (t := 71) (p := 2) (v := .tmp 139) rfl ?_); refine put_event (w1 := ?w1p_E2) (g := h2) (cs := #[.int .i64 kd, .string X, .int .i64 0, .int .i64 q.line, .int .i64 q.col]) (T := 71) ?hg (t := 71) (p := 2) (v := .tmp 139) ?ha ?hn ?hr ?hk ?hb ?_; (case ha => rfl); (case hn => rfl); (case hg => rfl); (case hr => first | (go_simp; done) | (go_simp; rfl)); (case hk => exact (((((Chg.refl _ _).set _ _).set _ _).set _ _).set _ _).set _ _); (case hb => exact blk_put (blk_put (blk_put (blk_put (blk_put BKh2.out 0 _ rfl) 1 _ rfl) 2 _ rfl) 3 _ rfl) 4 _ rfl); intro EW2 ch_ hbox_; replace CH := Aside0.mk (Chg.own CH.out ch_ GEh2.out); replace HG := Aside0.mk (GP.step HG.out ch_ (Nat.le_trans HNw.out GEh2.out)); replace BKg := Aside0.mk (ch_.blk BKg.out NEh2.out); replace BKh2 := Aside0.mk hbox_; replace BKh4 := Aside0.mk (ch_.blk BKh4.out (Ne.symm NEh2_h4.out)); replace Cg := cl_of BKg.out; replace Ch2 := cl_of BKh2.out; replace Ch4 := cl_of BKh4.out; clear ch_ hbox_))
        refine bodyPost_ret (results_ct rfl _ _ h2 71 #[.int .i64 kd, .string X, .int .i64 0, .int .i64 q.line, .int .i64 q.col] (0, 0) _ rfl BKh2.out Tryd.underlying71 rfl (by kernel_rfl)) rfl ?_
        refine ⟨j, q, HIJ.out, HJS.out, HBL.out, CH.out, .inr ⟨⟨kd, X, 0, q⟩, HTOK.out, ?_, wf_zero, q2, HQ2.out, HJX.out, HPB2.out, BKg.out⟩⟩
        rfl

      | succ k1_ =>
        have hk1 : (k : Int) < 11 := by omega
        obtain ⟨ad, hA, hcell⟩ := strAt (xs := strs wordsL) HG.out.now.wordsC k (by omega) (by omega)
        obtain rfl : wA = some ad := hA
        have hrd := rdS_strs wordsL k (by show k < 11; omega)
        have hct := contains_take wordsL T k (by show k < 11; omega)
        have HCT := Lib.hid hct
        replace hcell : wr.cell? (ad.add k) = some (.string (rdS (strs wordsL) (k : Int))) := hcell
        have Cg := cl_of BKg.out
        have Ch2 := cl_of BKh2.out
        have Ch4 := cl_of BKh4.out
        cases heq : wordsL.getD k [] == T with
        | true =>
          have kw : ((rdS (strs wordsL) k).toList == X.toList) = true := by
            rw [hrd, HX.out, Lib.toList_data, Lib.toList_data]
            exact heq
          have HEQ := Lib.hid heq
          clear hrd hct heq
          go_wp2_with (first | ((with_reducible refine gate_store (t := 69) (p := 100) (v := .const (.int .i64 3)) rfl ?_); refine put_event (w1 := ?w1p_F1) (g := h4) (cs := #[.int .i64 3, .string X, .int .i64 0, .int .i64 q.line, .int .i64 q.col]) (T := 71) ?hg (t := 69) (p := 100) (v := .const (.int .i64 3)) ?ha ?hn ?hr ?hk ?hb ?_; (case ha => rfl); (case hn => rfl); (case hg => rfl); (case hr => first | (go_simp; done) | (go_simp; rfl)); (case hk => exact (Chg.refl _ _).set _ _); (case hb => exact blk_put BKh4.out 0 _ rfl); intro FW1 ch_ hbox_; replace CH := Aside0.mk (Chg.own CH.out ch_ GEh4.out); replace HG := Aside0.mk (GP.step HG.out ch_ (Nat.le_trans HNw.out GEh4.out)); replace BKg := Aside0.mk (ch_.blk BKg.out NEh4.out); replace BKh4 := Aside0.mk hbox_; replace BKh2 := Aside0.mk (ch_.blk BKh2.out NEh2_h4.out); replace Cg := cl_of BKg.out; replace Ch2 := cl_of BKh2.out; replace Ch4 := cl_of BKh4.out; clear ch_ hbox_))
          go_roundg k1_
          case measure => omega
          case rel =>
            refine ⟨k + 1, rfl, by omega, ⟨?_⟩, BKg, BKh2, CH, HG⟩
            rw [HCT.out, HEQ.out, Bool.or_true]
            exact BKh4.out
        | false =>
          have kw : ((rdS (strs wordsL) k).toList == X.toList) = false := by
            rw [hrd, HX.out, Lib.toList_data, Lib.toList_data]
            exact heq
          have HEQ := Lib.hid heq
          clear hrd hct heq
          go_wp2
          go_roundg k1_
          case measure => omega
          case rel =>
            refine ⟨k + 1, rfl, by omega, ⟨?_⟩, BKg, BKh2, CH, HG⟩
            rw [HCT.out, HEQ.out, Bool.or_false]
            exact BKh4.out

  | false =>
    have KL := Lib.hid hlt
    cases hdg : isDigit (s[j]'hjs) with
    | true =>
      have KD := Lib.hid hdg
      obtain ⟨T, hT⟩ : ∃ T, T = runL false (s.data.toList.drop j) := ⟨_, rfl⟩
      obtain ⟨n, hn⟩ : ∃ n, n = (runL false (s.data.toList.drop j)).length := ⟨_, rfl⟩
      obtain ⟨X, hX⟩ : ∃ X, X = bsOf T := ⟨_, rfl⟩
      have hle := runL_le false (s.data.toList.drop j)
      rw [List.length_drop, size_toList, ← hn] at hle
      have hext : s.extract j (j + n) = X := by rw [ext_take, hn, runL_take, ← hT, hX]
      have hxs : X.size = n := by rw [hX, bsOf_size, hT, hn]
      obtain ⟨m, hm⟩ : ∃ m, m = j + n := ⟨_, rfl⟩
      rw [← hm] at hext
      have hms : m ≤ s.size := by omega
      have hjm : j ≤ m := by omega
      have hwr : wrap64 ((j : Int) + (n : Int)) = (m : Int) := by unfold wrap64; omega
      have HNR := Lib.hid hn
      have HX := Lib.hid hX
      have HT := Lib.hid hT
      have HJX := Lib.hid (show j + X.size ≤ s.size by omega)
      have HXS := Lib.hid hxs
      have HXL := Lib.hid (show X.size ≤ 65536 by omega)
      have HXD := Lib.hid (show ∀ c, c ∈ X.data.toList → isDigit c = true by
        rw [hX, bsOf_list, hT]
        exact runL_digit _)
      clear hdg hlt hT hn hX hle hxs hm
      go_quiet (fail)
      obtain ⟨MW4, hW_⟩ : ∃ W, W = W3.drewN nq := ⟨_, rfl⟩
      have chd_ : Chg g W3 MW4 := by rw [hW_]; exact Chg.of_below (pw_below_drewN (Below.refl _ _) nq)
      rw [← hW_]
      replace BKg : Aside0 (MW4.heap[g]? = some (.cells #[.string s, .int .i64 j, .int .i64 q.line, .int .i64 q.col] 104 (0, 0))) := ⟨by rw [hW_]; exact BKg.out⟩
      replace BKh2 : Aside0 (MW4.heap[h2]? = some (.cells #[.int .i64 0, .string ⟨#[]⟩, .int .i64 0, .int .i64 0, .int .i64 0] 71 (0, 0))) := ⟨by rw [hW_]; exact BKh2.out⟩
      replace BKh4 : Aside0 (MW4.heap[h4]? = some (.cells #[.int .i64 0, .string ⟨#[]⟩, .int .i64 0, .int .i64 q.line, .int .i64 q.col] 71 (0, 0))) := ⟨by rw [hW_]; exact BKh4.out⟩
      clear hW_
      replace CH := Aside0.mk (CH.out.trans chd_)
      replace HG := Aside0.mk (GP.step HG.out chd_ HNg.out)
      replace Cg := cl_of BKg.out
      replace Ch2 := cl_of BKh2.out
      replace Ch4 := cl_of BKh4.out
      clear chd_
      go_wp2
      go_quiet (fail)
      obtain ⟨MW5, hW_⟩ : ∃ W, W = MW4.drewN nq := ⟨_, rfl⟩
      have chd_ : Chg g MW4 MW5 := by rw [hW_]; exact Chg.of_below (pw_below_drewN (Below.refl _ _) nq)
      rw [← hW_]
      replace BKg : Aside0 (MW5.heap[g]? = some (.cells #[.string s, .int .i64 j, .int .i64 q.line, .int .i64 q.col] 104 (0, 0))) := ⟨by rw [hW_]; exact BKg.out⟩
      replace BKh2 : Aside0 (MW5.heap[h2]? = some (.cells #[.int .i64 0, .string ⟨#[]⟩, .int .i64 0, .int .i64 0, .int .i64 0] 71 (0, 0))) := ⟨by rw [hW_]; exact BKh2.out⟩
      replace BKh4 : Aside0 (MW5.heap[h4]? = some (.cells #[.int .i64 0, .string ⟨#[]⟩, .int .i64 0, .int .i64 q.line, .int .i64 q.col] 71 (0, 0))) := ⟨by rw [hW_]; exact BKh4.out⟩
      clear hW_
      replace CH := Aside0.mk (CH.out.trans chd_)
      replace HG := Aside0.mk (GP.step HG.out chd_ HNg.out)
      replace Cg := cl_of BKg.out
      replace Ch2 := cl_of BKh2.out
      replace Ch4 := cl_of BKh4.out
      clear chd_
      go_wp2_with (first | (go_at_call 54; (with_reducible refine (letter_calls (s[j]'hjs) _).mono ?_); rintro e w_ ⟨rfl, hw_⟩; replace hw_ := hw_.symm; subst hw_; rw [KL.out]) | (go_at_call 56; (with_reducible refine (digit_calls (s[j]'hjs) _).mono ?_); rintro e w_ ⟨rfl, hw_⟩; replace hw_ := hw_.symm; subst hw_; rw [KD.out]))
      have BKd := Aside0.mk (show MW5.drew.heap[g]? = some (.cells #[.string s, .int .i64 j, .int .i64 q.line, .int .i64 q.col] 104 (0, 0)) from BKg.out)
      have BK4d := Aside0.mk (show MW5.drew.heap[h4]? = some (.cells #[.int .i64 0, .string ⟨#[]⟩, .int .i64 0, .int .i64 q.line, .int .i64 q.col] 71 (0, 0)) from BKh4.out)
      have BK2d := Aside0.mk (show MW5.drew.heap[h2]? = some (.cells #[.int .i64 0, .string ⟨#[]⟩, .int .i64 0, .int .i64 0, .int .i64 0] 71 (0, 0)) from BKh2.out)
      refine start_ (n := 20) (S := fun w' => w'.cell? ⟨g, 0, none⟩ = some (.string s) ∧ w'.cell? ⟨g, 1, none⟩ = some (.int .i64 j) ∧ w'.cell? ⟨g, 2, none⟩ = some (.int .i64 q.line) ∧ w'.cell? ⟨g, 3, none⟩ = some (.int .i64 q.col)) (ds := []) #[false, false, false, false, false, false, false, false, false, false, false, false, false, false, false, false, false, false, false, false] (by kernel_rfl) rfl rfl ⟨(blk_cell BKg.out 0).trans rfl, (blk_cell BKg.out 1).trans rfl, (blk_cell BKg.out 2).trans rfl, (blk_cell BKg.out 3).trans rfl⟩ (fun hHeld => ?_)
      refine pure_ (i := 0) (N := some 105) (v := ?_) (a' := ?_) #[true, false, false, false, false, false, false, false, false, false, false, false, false, false, false, false, false, false, false, false] rfl rfl (by kernel_rfl) (fun _ _ _ h => h) (Or.inl ⟨by rfl, ?_⟩) ?_ ?_
      rotate_left
      · intro w'
        go_simp
        with_reducible rfl
      rotate_left
      · simp only [Act.put, List.setIfInBounds_toArray, List.set_cons_zero, List.set_cons_succ, i64_w, i32_w]
        rfl
      refine pure_ (i := 1) (N := some 106) (v := ?_) (a' := ?_) #[true, true, false, false, false, false, false, false, false, false, false, false, false, false, false, false, false, false, false, false] rfl rfl (by kernel_rfl) (fun _ _ _ h => h) (Or.inl ⟨by rfl, ?_⟩) ?_ ?_
      rotate_left
      · intro w'
        go_simp
        with_reducible rfl
      rotate_left
      · simp only [Act.put, List.setIfInBounds_toArray, List.set_cons_zero, List.set_cons_succ, i64_w, i32_w]
        rfl
      refine pure_ (i := 2) (N := some 107) (v := ?_) (a' := ?_) #[true, true, true, false, false, false, false, false, false, false, false, false, false, false, false, false, false, false, false, false] rfl rfl (by kernel_rfl) (fun _ _ _ h => h) (Or.inl ⟨by rfl, ?_⟩) ?_ ?_
      rotate_left
      · intro w'
        go_simp
        with_reducible rfl
      rotate_left
      · simp only [Act.put, List.setIfInBounds_toArray, List.set_cons_zero, List.set_cons_succ, i64_w, i32_w]
        rfl
      refine pure_ (i := 4) (N := some 109) (v := ?_) (a' := ?_) #[true, true, true, false, true, false, false, false, false, false, false, false, false, false, false, false, false, false, false, false] rfl rfl (by kernel_rfl) (fun _ _ _ h => h) (Or.inl ⟨by rfl, ?_⟩) ?_ ?_
      rotate_left
      · intro w'
        go_simp
        with_reducible rfl
      rotate_left
      · simp only [Act.put, List.setIfInBounds_toArray, List.set_cons_zero, List.set_cons_succ, i64_w, i32_w]
        rfl
      refine pure_ (i := 5) (N := some 110) (v := ?_) (a' := ?_) #[true, true, true, false, true, true, false, false, false, false, false, false, false, false, false, false, false, false, false, false] rfl rfl (by kernel_rfl) (fun _ _ _ h => h) (Or.inl ⟨by rfl, ?_⟩) ?_ ?_
      rotate_left
      · intro w'
        go_simp
        with_reducible rfl
      rotate_left
      · simp only [Act.put, List.setIfInBounds_toArray, List.set_cons_zero, List.set_cons_succ, i64_w, i32_w]
        rfl
      refine pure_ (i := 6) (N := some 111) (v := ?_) (a' := ?_) #[true, true, true, false, true, true, true, false, false, false, false, false, false, false, false, false, false, false, false, false] rfl rfl (by kernel_rfl) (fun _ _ _ h => h) (Or.inl ⟨by rfl, ?_⟩) ?_ ?_
      rotate_left
      · intro w'
        go_simp
        with_reducible rfl
      rotate_left
      · simp only [Act.put, List.setIfInBounds_toArray, List.set_cons_zero, List.set_cons_succ, i64_w, i32_w]
        rfl
      refine pure_ (i := 8) (N := some 113) (v := ?_) (a' := ?_) #[true, true, true, false, true, true, true, false, true, false, false, false, false, false, false, false, false, false, false, false] rfl rfl (by kernel_rfl) (fun _ _ _ h => h) (Or.inl ⟨by rfl, ?_⟩) ?_ ?_
      rotate_left
      · intro w'
        go_simp
        with_reducible rfl
      rotate_left
      · simp only [Act.put, List.setIfInBounds_toArray, List.set_cons_zero, List.set_cons_succ, i64_w, i32_w]
        rfl
      refine pure_ (i := 9) (N := some 114) (v := ?_) (a' := ?_) #[true, true, true, false, true, true, true, false, true, true, false, false, false, false, false, false, false, false, false, false] rfl rfl (by kernel_rfl) (fun _ _ _ h => h) (Or.inl ⟨by rfl, ?_⟩) ?_ ?_
      rotate_left
      · intro w'
        go_simp
        with_reducible rfl
      rotate_left
      · simp only [Act.put, List.setIfInBounds_toArray, List.set_cons_zero, List.set_cons_succ, i64_w, i32_w]
        rfl
      refine pure_ (i := 10) (N := some 115) (v := ?_) (a' := ?_) #[true, true, true, false, true, true, true, false, true, true, true, false, false, false, false, false, false, false, false, false] rfl rfl (by kernel_rfl) (fun _ _ _ h => h) (Or.inl ⟨by rfl, ?_⟩) ?_ ?_
      rotate_left
      · intro w'
        go_simp
        with_reducible rfl
      rotate_left
      · simp only [Act.put, List.setIfInBounds_toArray, List.set_cons_zero, List.set_cons_succ, i64_w, i32_w]
        rfl
      refine pure_ (i := 12) (N := some 117) (v := ?_) (a' := ?_) #[true, true, true, false, true, true, true, false, true, true, true, false, true, false, false, false, false, false, false, false] rfl rfl (by kernel_rfl) (fun _ _ _ h => h) (Or.inl ⟨by rfl, ?_⟩) ?_ ?_
      rotate_left
      · intro w'
        go_simp
        with_reducible rfl
      rotate_left
      · simp only [Act.put, List.setIfInBounds_toArray, List.set_cons_zero, List.set_cons_succ, i64_w, i32_w]
        rfl
      refine pure_ (i := 16) (N := some 121) (v := ?_) (a' := ?_) #[true, true, true, false, true, true, true, false, true, true, true, false, true, false, false, false, true, false, false, false] rfl rfl (by kernel_rfl) (fun _ _ _ h => h) (Or.inl ⟨by rfl, ?_⟩) ?_ ?_
      rotate_left
      · intro w'
        go_simp
        with_reducible rfl
      rotate_left
      · simp only [Act.put, List.setIfInBounds_toArray, List.set_cons_zero, List.set_cons_succ, i64_w, i32_w]
        rfl
      refine take_ (i := 3) (N := some 108) (v := ?_) (a' := ?_) #[true, true, true, true, true, true, true, false, true, true, true, false, true, false, false, false, true, false, false, false] rfl rfl (by kernel_rfl) (fun _ _ _ h => h) (Or.inl ⟨by rfl, ?_⟩) hHeld ?_ ?_
      rotate_left
      · rintro w' ⟨s0, s1, s2, s3⟩
        go_simp
        with_reducible rfl
      rotate_left
      · simp only [Act.put, List.setIfInBounds_toArray, List.set_cons_zero, List.set_cons_succ, i64_w, i32_w]
        rfl
      refine take_ (i := 7) (N := some 112) (v := ?_) (a' := ?_) #[true, true, true, true, true, true, true, true, true, true, true, false, true, false, false, false, true, false, false, false] rfl rfl (by kernel_rfl) (fun _ _ _ h => h) (Or.inl ⟨by rfl, ?_⟩) hHeld ?_ ?_
      rotate_left
      · rintro w' ⟨s0, s1, s2, s3⟩
        go_simp
        with_reducible rfl
      rotate_left
      · simp only [Act.put, List.setIfInBounds_toArray, List.set_cons_zero, List.set_cons_succ, i64_w, i32_w]
        rfl
      refine take_ (i := 11) (N := some 116) (v := ?_) (a' := ?_) #[true, true, true, true, true, true, true, true, true, true, true, true, true, false, false, false, true, false, false, false] rfl rfl (by kernel_rfl) (fun _ _ _ h => h) (Or.inl ⟨by rfl, ?_⟩) hHeld ?_ ?_
      rotate_left
      · rintro w' ⟨s0, s1, s2, s3⟩
        go_simp
        with_reducible rfl
      rotate_left
      · simp only [Act.put, List.setIfInBounds_toArray, List.set_cons_zero, List.set_cons_succ, i64_w, i32_w]
        rfl
      refine one_ (i := 13) (N := some 118) #[true, true, true, true, true, true, true, true, true, true, true, true, true, true, false, false, true, false, false, false] rfl rfl (by kernel_rfl) (by decide) (fun K hK => ?_)
      refine goes_ Tryd.func55 (by kernel_rfl) rfl #[.pointer (some ⟨g, 0, none⟩), .bool false] (by rfl) rfl rfl (by simp only [List.map_toArray, List.map_cons, List.map_nil]; rfl) ?_
      with_reducible refine (lrun_calls g s j q false _ BKd.out HJS.out hs).mono ?_
      rintro e w3 ⟨rfl, chr_, bkr_⟩
      refine ⟨_, rfl, ?_⟩
      rw [← HNR.out]
      have chr := Lib.hid chr_
      have bkr := Lib.hid bkr_
      have bk4 := Lib.hid (chr_.blk BK4d.out (Ne.symm NEh4.out))
      have bk2 := Lib.hid (chr_.blk BK2d.out (Ne.symm NEh2.out))
      skip
      have zz0 := blk_frozen bk4.out 0
      have zz1 := blk_frozen bk4.out 1
      have yy0 := (blk_cell bk4.out 0).trans rfl
      have yy1 := (blk_cell bk4.out 1).trans rfl
      refine hK.out _ _ ⟨(blk_cell bkr.out 0).trans rfl, (blk_cell bkr.out 1).trans rfl, (blk_cell bkr.out 2).trans rfl, (blk_cell bkr.out 3).trans rfl⟩ (fun hHeld => ?_)
      clear hK K
      refine norm_ (a' := ?_) ?_ ?_
      rotate_left
      · show Act.put _ (some 118) _ = _
        simp only [Act.put, List.setIfInBounds_toArray, List.set_cons_zero, List.set_cons_succ, i64_w, i32_w]
        rfl
      refine pure_ (i := 14) (N := some 119) (v := ?_) (a' := ?_) #[true, true, true, true, true, true, true, true, true, true, true, true, true, true, true, false, true, false, false, false] rfl rfl (by kernel_rfl) (fun _ _ _ h => h) (Or.inl ⟨by rfl, ?_⟩) ?_ ?_
      rotate_left
      · intro w'
        go_simp
        with_reducible rfl
      rotate_left
      · simp only [Act.put, List.setIfInBounds_toArray, List.set_cons_zero, List.set_cons_succ, i64_w, i32_w]
        rfl
      refine pure_ (i := 15) (N := some 120) (v := ?_) (a' := ?_) #[true, true, true, true, true, true, true, true, true, true, true, true, true, true, true, true, true, false, false, false] rfl rfl (by kernel_rfl) (fun _ _ _ h => h) (Or.inl ⟨by rfl, ?_⟩) ?_ ?_
      rotate_left
      · intro w'
        go_simp
        with_reducible rfl
      rotate_left
      · simp only [Act.put, List.setIfInBounds_toArray, List.set_cons_zero, List.set_cons_succ, i64_w, i32_w]
        rfl
      refine one_ (i := 17) (N := none) #[true, true, true, true, true, true, true, true, true, true, true, true, true, true, true, true, true, true, false, false] rfl rfl (by kernel_rfl) (by decide) (fun K hK => ?_)
      refine skip_ (w1 := ?_) (by rfl) rfl ?_ ?_
      rotate_left
      · go_simp
        rfl
      refine hK.out _ _ ⟨((Chg.refl h4 _).set _ _).cell (hHeld.1) NEh4.out, ((Chg.refl h4 _).set _ _).cell (hHeld.2.1) NEh4.out, ((Chg.refl h4 _).set _ _).cell (hHeld.2.2.1) NEh4.out, ((Chg.refl h4 _).set _ _).cell (hHeld.2.2.2) NEh4.out⟩ (fun hHeld => ?_)
      clear hK K
      refine pure_ (i := 18) (N := some 122) (v := ?_) (a' := ?_) #[true, true, true, true, true, true, true, true, true, true, true, true, true, true, true, true, true, true, true, false] rfl rfl (by kernel_rfl) (fun _ _ _ h => h) (Or.inl ⟨by rfl, ?_⟩) ?_ ?_
      rotate_left
      · intro w'
        go_simp
        with_reducible rfl
      rotate_left
      · simp only [Act.put, List.setIfInBounds_toArray, List.set_cons_zero, List.set_cons_succ, i64_w, i32_w]
        rfl
      refine one_ (i := 19) (N := none) #[true, true, true, true, true, true, true, true, true, true, true, true, true, true, true, true, true, true, true, true] rfl rfl (by kernel_rfl) (by decide) (fun K hK => ?_)
      refine skip_ (w1 := ?_) (by rfl) rfl ?_ ?_
      rotate_left
      · go_simp
        rfl
      refine hK.out _ _ ⟨((Chg.refl h4 _).set _ _).cell (hHeld.1) NEh4.out, ((Chg.refl h4 _).set _ _).cell (hHeld.2.1) NEh4.out, ((Chg.refl h4 _).set _ _).cell (hHeld.2.2.1) NEh4.out, ((Chg.refl h4 _).set _ _).cell (hHeld.2.2.2) NEh4.out⟩ (fun hHeld => ?_)
      clear hK K
      refine done_ (by kernel_rfl) ?_
      obtain ⟨MW6, hW_⟩ : ∃ W, W = (w3.setCell ⟨h4, 0, none⟩ (.int .i64 2)).setCell ⟨h4, 1, none⟩ (.string X) := ⟨_, rfl⟩
      have cho_ : Chg h4 w3 MW6 := by rw [hW_]; exact ((Chg.refl _ _).set _ _).set _ _
      rw [← hW_]
      have chd_ : Chg g MW5 w3 := (Chg.of_below (below_drew (Below.refl _ _))).trans chr.out
      replace CH := Aside0.mk (Chg.own (CH.out.trans chd_) cho_ GEh4.out)
      replace BKg := Aside0.mk (cho_.blk bkr.out NEh4.out)
      replace BKh2 := Aside0.mk (cho_.blk bk2.out NEh2_h4.out)
      replace BKh4 : Aside0 (MW6.heap[h4]? = some (.cells #[.int .i64 2, .string X, .int .i64 0, .int .i64 q.line, .int .i64 q.col] 71 (0, 0))) := ⟨by rw [hW_]; exact blk_put (blk_put bk4.out 0 _ rfl) 1 _ rfl⟩
      replace HG := Aside0.mk (GP.step (GP.step HG.out chd_ HNg.out) cho_ (Nat.le_trans HNw.out GEh4.out))
      clear chd_ cho_ hW_ chr bkr bk2 bk4 zz0 zz1 yy0 yy1 BKd BK4d BK2d hHeld
      replace Cg := cl_of BKg.out
      replace Ch2 := cl_of BKh2.out
      replace Ch4 := cl_of BKh4.out
      cases hvl : valueL 0 T with
      | none =>
        have HVV := Lib.hid (show valV (valueL 0 X.data.toList) = .tuple #[.int .i64 0, .bool false] by rw [HX.out, bsOf_list, hvl]; rfl)
        have HTOK := Lib.hid (show tokenL q (s.data.toList.drop j) = .error 11 by
          have h := hvl
          rw [HT.out, HD.out] at h
          rw [HD.out, tokenL, if_neg (by rw [KL.out]; decide), if_pos KD.out, h])
        clear hvl
        go_wp2_with (first | (go_at_call 57; (with_reducible refine (value_calls X _ HXL.out HXD.out).mono ?_); rintro e w_ ⟨rfl, hw_⟩; replace hw_ := hw_.symm; subst hw_; rw [HVV.out]) | ((with_reducible refine gate_store (t := 71) (p := 2) (v := .tmp 131) rfl ?_); refine put_event (w1 := ?w1p_U7) (g := h2) (cs := #[.int .i64 0, .string ⟨#[]⟩, .int .i64 0, .int .i64 0, .int .i64 0]) (T := 71) ?hg (t := 71) (p := 2) (v := .tmp 131) ?ha ?hn ?hr ?hk ?hb ?_; (case ha => rfl); (case hn => rfl); (case hg => rfl); (case hr => first | (go_simp; done) | (go_simp; rfl)); (case hk => exact (((((Chg.refl _ _).set _ _).set _ _).set _ _).set _ _).set _ _); (case hb => exact blk_put (blk_put (blk_put (blk_put (blk_put BKh2.out 0 _ rfl) 1 _ rfl) 2 _ rfl) 3 _ rfl) 4 _ rfl); intro UW7 ch_ hbox_; replace CH := Aside0.mk (Chg.own CH.out ch_ GEh2.out); replace HG := Aside0.mk (GP.step HG.out ch_ (Nat.le_trans HNw.out GEh2.out)); replace BKg := Aside0.mk (ch_.blk BKg.out NEh2.out); replace BKh2 := Aside0.mk hbox_; replace BKh4 := Aside0.mk (ch_.blk BKh4.out (Ne.symm NEh2_h4.out)); replace Cg := cl_of BKg.out; replace Ch2 := cl_of BKh2.out; replace Ch4 := cl_of BKh4.out; clear ch_ hbox_))
        refine bodyPost_ret (results_ct rfl _ _ h2 71 #[.int .i64 0, .string ⟨#[]⟩, .int .i64 0, .int .i64 0, .int .i64 0] (0, 0) _ rfl BKh2.out Tryd.underlying71 rfl (by kernel_rfl)) rfl ?_
        exact ⟨j, q, HIJ.out, HJS.out, HBL.out, CH.out, .inl ⟨11, HTOK.out, rfl, BKg.out⟩⟩
      | some m_ =>
        have HVV := Lib.hid (show valV (valueL 0 X.data.toList) = .tuple #[.int .i64 m_, .bool true] by rw [HX.out, bsOf_list, hvl]; rfl)
        have HWM := Lib.hid (show Wf64 m_ from valueL_bound T 0 m_ (by decide) (by decide) (fun c hc => by have h := HXD.out c; rw [HX.out, bsOf_list] at h; exact h hc) hvl)
        have HTOK := Lib.hid (show tokenL q (s.data.toList.drop j) = .ok ⟨2, X, m_, q⟩ by
          have h := hvl
          rw [HX.out, HT.out]
          rw [HT.out, HD.out] at h
          rw [HD.out, tokenL, if_neg (by rw [KL.out]; decide), if_pos KD.out, h]
          rfl)
        clear hvl
        go_wp2_with (first | (go_at_call 57; (with_reducible refine (value_calls X _ HXL.out HXD.out).mono ?_); rintro e w_ ⟨rfl, hw_⟩; replace hw_ := hw_.symm; subst hw_; rw [HVV.out]) | ((with_reducible refine gate_store (t := 2) (p := 133) (v := .tmp 132) rfl ?_); refine put_event (w1 := ?w1p_V7) (g := h4) (cs := #[.int .i64 2, .string X, .int .i64 m_, .int .i64 q.line, .int .i64 q.col]) (T := 71) ?hg (t := 2) (p := 133) (v := .tmp 132) ?ha ?hn ?hr ?hk ?hb ?_; (case ha => rfl); (case hn => rfl); (case hg => rfl); (case hr => first | (go_simp; done) | (go_simp; rfl)); (case hk => exact (Chg.refl _ _).set _ _); (case hb => exact blk_put BKh4.out 2 _ rfl); intro VW7 ch_ hbox_; replace CH := Aside0.mk (Chg.own CH.out ch_ GEh4.out); replace HG := Aside0.mk (GP.step HG.out ch_ (Nat.le_trans HNw.out GEh4.out)); replace BKg := Aside0.mk (ch_.blk BKg.out NEh4.out); replace BKh4 := Aside0.mk hbox_; replace BKh2 := Aside0.mk (ch_.blk BKh2.out NEh2_h4.out); replace Cg := cl_of BKg.out; replace Ch2 := cl_of BKh2.out; replace Ch4 := cl_of BKh4.out; clear ch_ hbox_) | (go_at_call 59; (with_reducible refine (lskip_calls g s j X.size q _ BKg.out HJX.out hs HPB.out).mono ?_); rintro e VW8 ⟨rfl, ch_, q2, hq2_, hpb2_, bk_⟩; have HQ2 := Aside0.mk hq2_; have HPB2 := Aside0.mk hpb2_; replace CH := Aside0.mk (CH.out.trans ch_); replace BKg := Aside0.mk bk_; replace HG := Aside0.mk (GP.step HG.out ch_ HNg.out); replace BKh2 := Aside0.mk (ch_.blk BKh2.out (Ne.symm NEh2.out)); replace BKh4 := Aside0.mk (ch_.blk BKh4.out (Ne.symm NEh4.out)); replace Cg := cl_of BKg.out; replace Ch2 := cl_of BKh2.out; replace Ch4 := cl_of BKh4.out; clear ch_ bk_ hq2_ hpb2_) | ((with_reducible refine gate_store (t := 71) (p := 2) (v := .tmp 139) rfl ?_); refine put_event (w1 := ?w1p_V9) (g := h2) (cs := #[.int .i64 2, .string X, .int .i64 m_, .int .i64 q.line, .int .i64 q.col]) (T := 71) ?hg (t := 71) (p := 2) (v := .tmp 139) ?ha ?hn ?hr ?hk ?hb ?_; (case ha => rfl); (case hn => rfl); (case hg => rfl); (case hr => first | (go_simp; done) | (go_simp; rfl)); (case hk => exact (((((Chg.refl _ _).set _ _).set _ _).set _ _).set _ _).set _ _); (case hb => exact blk_put (blk_put (blk_put (blk_put (blk_put BKh2.out 0 _ rfl) 1 _ rfl) 2 _ rfl) 3 _ rfl) 4 _ rfl); intro VW9 ch_ hbox_; replace CH := Aside0.mk (Chg.own CH.out ch_ GEh2.out); replace HG := Aside0.mk (GP.step HG.out ch_ (Nat.le_trans HNw.out GEh2.out)); replace BKg := Aside0.mk (ch_.blk BKg.out NEh2.out); replace BKh2 := Aside0.mk hbox_; replace BKh4 := Aside0.mk (ch_.blk BKh4.out (Ne.symm NEh2_h4.out)); replace Cg := cl_of BKg.out; replace Ch2 := cl_of BKh2.out; replace Ch4 := cl_of BKh4.out; clear ch_ hbox_))
        refine bodyPost_ret (results_ct rfl _ _ h2 71 #[.int .i64 2, .string X, .int .i64 m_, .int .i64 q.line, .int .i64 q.col] (0, 0) _ rfl BKh2.out Tryd.underlying71 rfl (by kernel_rfl)) rfl ?_
        refine ⟨j, q, HIJ.out, HJS.out, HBL.out, CH.out, .inr ⟨⟨2, X, m_, q⟩, HTOK.out, ?_, HWM.out, q2, HQ2.out, HJX.out, HPB2.out, BKg.out⟩⟩
        rfl

    | false =>
      have KD := Lib.hid hdg
      clear hlt hdg
      go_quiet (fail)
      obtain ⟨NW4, hW_⟩ : ∃ W, W = W3.drewN nq := ⟨_, rfl⟩
      have chd_ : Chg g W3 NW4 := by rw [hW_]; exact Chg.of_below (pw_below_drewN (Below.refl _ _) nq)
      rw [← hW_]
      replace BKg : Aside0 (NW4.heap[g]? = some (.cells #[.string s, .int .i64 j, .int .i64 q.line, .int .i64 q.col] 104 (0, 0))) := ⟨by rw [hW_]; exact BKg.out⟩
      replace BKh2 : Aside0 (NW4.heap[h2]? = some (.cells #[.int .i64 0, .string ⟨#[]⟩, .int .i64 0, .int .i64 0, .int .i64 0] 71 (0, 0))) := ⟨by rw [hW_]; exact BKh2.out⟩
      replace BKh4 : Aside0 (NW4.heap[h4]? = some (.cells #[.int .i64 0, .string ⟨#[]⟩, .int .i64 0, .int .i64 q.line, .int .i64 q.col] 71 (0, 0))) := ⟨by rw [hW_]; exact BKh4.out⟩
      clear hW_
      replace CH := Aside0.mk (CH.out.trans chd_)
      replace HG := Aside0.mk (GP.step HG.out chd_ HNg.out)
      replace Cg := cl_of BKg.out
      replace Ch2 := cl_of BKh2.out
      replace Ch4 := cl_of BKh4.out
      clear chd_
      go_wp2
      go_quiet (fail)
      obtain ⟨NW5, hW_⟩ : ∃ W, W = NW4.drewN nq := ⟨_, rfl⟩
      have chd_ : Chg g NW4 NW5 := by rw [hW_]; exact Chg.of_below (pw_below_drewN (Below.refl _ _) nq)
      rw [← hW_]
      replace BKg : Aside0 (NW5.heap[g]? = some (.cells #[.string s, .int .i64 j, .int .i64 q.line, .int .i64 q.col] 104 (0, 0))) := ⟨by rw [hW_]; exact BKg.out⟩
      replace BKh2 : Aside0 (NW5.heap[h2]? = some (.cells #[.int .i64 0, .string ⟨#[]⟩, .int .i64 0, .int .i64 0, .int .i64 0] 71 (0, 0))) := ⟨by rw [hW_]; exact BKh2.out⟩
      replace BKh4 : Aside0 (NW5.heap[h4]? = some (.cells #[.int .i64 0, .string ⟨#[]⟩, .int .i64 0, .int .i64 q.line, .int .i64 q.col] 71 (0, 0))) := ⟨by rw [hW_]; exact BKh4.out⟩
      clear hW_
      replace CH := Aside0.mk (CH.out.trans chd_)
      replace HG := Aside0.mk (GP.step HG.out chd_ HNg.out)
      replace Cg := cl_of BKg.out
      replace Ch2 := cl_of BKh2.out
      replace Ch4 := cl_of BKh4.out
      clear chd_
      have hmd : NW5.cell? ⟨2, 0, none⟩ = some (.slice mA 28 mc) := HG.out.now.marks
      go_wp2_with (first | (go_at_call 54; (with_reducible refine (letter_calls (s[j]'hjs) _).mono ?_); rintro e w_ ⟨rfl, hw_⟩; replace hw_ := hw_.symm; subst hw_; rw [KL.out]) | (go_at_call 56; (with_reducible refine (digit_calls (s[j]'hjs) _).mono ?_); rintro e w_ ⟨rfl, hw_⟩; replace hw_ := hw_.symm; subst hw_; rw [KD.out]))
      go_loopg [41] 28 (fun kq v41 w' => ∃ k : Nat, v41 = .int .i64 k ∧ kq + k = 28 ∧ Aside0 (w'.heap[h4]? = some (.cells #[.int .i64 (if (((marksL.take k).find? (fun m => m.isPrefixOf (s.data.toList.drop j)))).isSome = true then (4 : Int) else 0), .string (bsOf ((((marksL.take k).find? (fun m => m.isPrefixOf (s.data.toList.drop j)))).getD [])), .int .i64 0, .int .i64 q.line, .int .i64 q.col] 71 (0, 0))) ∧ Aside0 (w'.heap[g]? = some (.cells #[.string s, .int .i64 j, .int .i64 q.line, .int .i64 q.col] 104 (0, 0))) ∧ Aside0 (w'.heap[h2]? = some (.cells #[.int .i64 0, .string ⟨#[]⟩, .int .i64 0, .int .i64 0, .int .i64 0] 71 (0, 0))) ∧ Aside0 (Chg g w w') ∧ Aside0 (GP ⟨wA, wc, mA, mc, lA, lc⟩ N w'))
      case atStart => exact ⟨0, rfl, by omega, BKh4, BKg, BKh2, CH, HG⟩
      case round =>
        clear BKh4 BKg BKh2 CH HG hmd Cg Ch2 Ch4
        obtain ⟨k, rfl, hk, BKh4, BKg, BKh2, CH, HG⟩ := hrel
        cases gk with
        | zero =>
          have hge : decide ((k : Int) < 28) = false := by simp; omega
          obtain rfl : k = 28 := by omega
          rw [show marksL.take 28 = marksL from rfl] at BKh4
          cases hf : marksL.find? (fun m => m.isPrefixOf (s.data.toList.drop j)) with
          | none =>
            rw [hf] at BKh4
            replace BKh4 : Aside0 (wr.heap[h4]? = some (.cells #[.int .i64 0, .string ⟨#[]⟩, .int .i64 0, .int .i64 q.line, .int .i64 q.col] 71 (0, 0))) := BKh4
            have HTOK := Lib.hid (show tokenL q (s.data.toList.drop j) = .error 10 by
              have h := hf
              rw [HD.out] at h
              rw [HD.out, tokenL, if_neg (by rw [KL.out]; decide), if_neg (by rw [KD.out]; decide), h])
            clear hf hk
            have Cg := cl_of BKg.out
            have Ch2 := cl_of BKh2.out
            have Ch4 := cl_of BKh4.out
            go_wp2_with (first | ((with_reducible refine gate_store (t := 71) (p := 2) (v := .tmp 68) rfl ?_); refine put_event (w1 := ?w1p_A1) (g := h2) (cs := #[.int .i64 0, .string ⟨#[]⟩, .int .i64 0, .int .i64 0, .int .i64 0]) (T := 71) ?hg (t := 71) (p := 2) (v := .tmp 68) ?ha ?hn ?hr ?hk ?hb ?_; (case ha => rfl); (case hn => rfl); (case hg => rfl); (case hr => first | (go_simp; done) | (go_simp; rfl)); (case hk => exact (((((Chg.refl _ _).set _ _).set _ _).set _ _).set _ _).set _ _); (case hb => exact blk_put (blk_put (blk_put (blk_put (blk_put BKh2.out 0 _ rfl) 1 _ rfl) 2 _ rfl) 3 _ rfl) 4 _ rfl); intro AW1 ch_ hbox_; replace CH := Aside0.mk (Chg.own CH.out ch_ GEh2.out); replace HG := Aside0.mk (GP.step HG.out ch_ (Nat.le_trans HNw.out GEh2.out)); replace BKg := Aside0.mk (ch_.blk BKg.out NEh2.out); replace BKh2 := Aside0.mk hbox_; replace BKh4 := Aside0.mk (ch_.blk BKh4.out (Ne.symm NEh2_h4.out)); replace Cg := cl_of BKg.out; replace Ch2 := cl_of BKh2.out; replace Ch4 := cl_of BKh4.out; clear ch_ hbox_))
            refine bodyPost_ret (results_ct rfl _ _ h2 71 #[.int .i64 0, .string ⟨#[]⟩, .int .i64 0, .int .i64 0, .int .i64 0] (0, 0) _ rfl BKh2.out Tryd.underlying71 rfl (by kernel_rfl)) rfl ?_
            exact ⟨j, q, HIJ.out, HJS.out, HBL.out, CH.out, .inl ⟨10, HTOK.out, rfl, BKg.out⟩⟩
          | some M =>
            rw [hf] at BKh4
            obtain ⟨X, hX⟩ : ∃ X, X = bsOf M := ⟨_, rfl⟩
            replace BKh4 : Aside0 (wr.heap[h4]? = some (.cells #[.int .i64 4, .string X, .int .i64 0, .int .i64 q.line, .int .i64 q.col] 71 (0, 0))) := ⟨by rw [hX]; exact BKh4.out⟩
            have HTOK := Lib.hid (show tokenL q (s.data.toList.drop j) = .ok ⟨4, X, 0, q⟩ by
              have h := hf
              rw [HD.out] at h
              rw [HD.out, tokenL, if_neg (by rw [KL.out]; decide), if_neg (by rw [KD.out]; decide), h, hX]
              rfl)
            have hpre := List.find?_some hf
            have hne := marks_ne M (List.mem_of_find?_eq_some hf)
            have hle := (List.isPrefixOf_iff_prefix.1 hpre).length_le
            rw [List.length_drop, size_toList] at hle
            have HJX := Lib.hid (show j + X.size ≤ s.size by rw [hX, bsOf_size]; omega)
            have kx : (X.toList == []) = false := by rw [hX, Lib.toList_data, bsOf_list]; exact beq_eq_false_iff_ne.2 hne
            clear hf hk hX hpre hne hle
            have Cg := cl_of BKg.out
            have Ch2 := cl_of BKh2.out
            have Ch4 := cl_of BKh4.out
            go_wp2_with (first | (go_at_call 59; (with_reducible refine (lskip_calls g s j X.size q _ BKg.out HJX.out hs HPB.out).mono ?_); rintro e BW1 ⟨rfl, ch_, q2, hq2_, hpb2_, bk_⟩; have HQ2 := Aside0.mk hq2_; have HPB2 := Aside0.mk hpb2_; replace CH := Aside0.mk (CH.out.trans ch_); replace BKg := Aside0.mk bk_; replace HG := Aside0.mk (GP.step HG.out ch_ HNg.out); replace BKh2 := Aside0.mk (ch_.blk BKh2.out (Ne.symm NEh2.out)); replace BKh4 := Aside0.mk (ch_.blk BKh4.out (Ne.symm NEh4.out)); replace Cg := cl_of BKg.out; replace Ch2 := cl_of BKh2.out; replace Ch4 := cl_of BKh4.out; clear ch_ bk_ hq2_ hpb2_) | ((with_reducible refine gate_store (t := 71) (p := 2) (v := .tmp 139) rfl ?_); refine put_event (w1 := ?w1p_B2) (g := h2) (cs := #[.int .i64 4, .string X, .int .i64 0, .int .i64 q.line, .int .i64 q.col]) (T := 71) ?hg (t := 71) (p := 2) (v := .tmp 139) ?ha ?hn ?hr ?hk ?hb ?_; (case ha => rfl); (case hn => rfl); (case hg => rfl); (case hr => first | (go_simp; done) | (go_simp; rfl)); (case hk => exact (((((Chg.refl _ _).set _ _).set _ _).set _ _).set _ _).set _ _); (case hb => exact blk_put (blk_put (blk_put (blk_put (blk_put BKh2.out 0 _ rfl) 1 _ rfl) 2 _ rfl) 3 _ rfl) 4 _ rfl); intro BW2 ch_ hbox_; replace CH := Aside0.mk (Chg.own CH.out ch_ GEh2.out); replace HG := Aside0.mk (GP.step HG.out ch_ (Nat.le_trans HNw.out GEh2.out)); replace BKg := Aside0.mk (ch_.blk BKg.out NEh2.out); replace BKh2 := Aside0.mk hbox_; replace BKh4 := Aside0.mk (ch_.blk BKh4.out (Ne.symm NEh2_h4.out)); replace Cg := cl_of BKg.out; replace Ch2 := cl_of BKh2.out; replace Ch4 := cl_of BKh4.out; clear ch_ hbox_))
            refine bodyPost_ret (results_ct rfl _ _ h2 71 #[.int .i64 4, .string X, .int .i64 0, .int .i64 q.line, .int .i64 q.col] (0, 0) _ rfl BKh2.out Tryd.underlying71 rfl (by kernel_rfl)) rfl ?_
            refine ⟨j, q, HIJ.out, HJS.out, HBL.out, CH.out, .inr ⟨⟨4, X, 0, q⟩, HTOK.out, ?_, wf_zero, q2, HQ2.out, HJX.out, HPB2.out, BKg.out⟩⟩
            rfl

        | succ k1_ =>
          have hk1 : (k : Int) < 28 := by omega
          obtain ⟨ad, hA, hcell⟩ := strAt (xs := strs marksL) HG.out.now.marksC k (by omega) (by omega)
          obtain rfl : mA = some ad := hA
          have hrd := rdS_strs marksL k (by show k < 28; omega)
          have hft := find_take marksL (fun m => m.isPrefixOf (s.data.toList.drop j)) k (by show k < 28; omega)
          have HFT := Lib.hid hft
          replace hcell : wr.cell? (ad.add k) = some (.string (rdS (strs marksL) (k : Int))) := hcell
          rw [hrd] at hcell
          obtain ⟨Y, hY⟩ : ∃ Y, Y = bsOf (marksL.getD k []) := ⟨_, rfl⟩
          rw [← hY] at hcell
          have HY := Lib.hid hY
          have hjle : j ≤ s.size := HJS.out
          have hext := ext_drop s j
          cases ho : ((marksL.take k).find? (fun m => m.isPrefixOf (s.data.toList.drop j))) with
          | some M =>
            have HO := Lib.hid ho
            rw [ho] at BKh4
            obtain ⟨X, hX⟩ : ∃ X, X = bsOf M := ⟨_, rfl⟩
            replace BKh4 : Aside0 (wr.heap[h4]? = some (.cells #[.int .i64 4, .string X, .int .i64 0, .int .i64 q.line, .int .i64 q.col] 71 (0, 0))) := ⟨by rw [hX]; exact BKh4.out⟩
            have hne := marks_ne M (List.mem_of_mem_take (List.mem_of_find?_eq_some ho))
            have kx : (X.toList == []) = false := by rw [hX, Lib.toList_data, bsOf_list]; exact beq_eq_false_iff_ne.2 hne
            have HX := Lib.hid hX
            clear hrd hft ho hX hne hY hext
            have Cg := cl_of BKg.out
            have Ch2 := cl_of BKh2.out
            have Ch4 := cl_of BKh4.out
            go_wp2
            go_quiet (fail)
            obtain ⟨CW1, hW_⟩ : ∃ W, W = wr.drewN nq := ⟨_, rfl⟩
            have chd_ : Chg g wr CW1 := by rw [hW_]; exact Chg.of_below (pw_below_drewN (Below.refl _ _) nq)
            rw [← hW_]
            replace BKg : Aside0 (CW1.heap[g]? = some (.cells #[.string s, .int .i64 j, .int .i64 q.line, .int .i64 q.col] 104 (0, 0))) := ⟨by rw [hW_]; exact BKg.out⟩
            replace BKh2 : Aside0 (CW1.heap[h2]? = some (.cells #[.int .i64 0, .string ⟨#[]⟩, .int .i64 0, .int .i64 0, .int .i64 0] 71 (0, 0))) := ⟨by rw [hW_]; exact BKh2.out⟩
            replace BKh4 : Aside0 (CW1.heap[h4]? = some (.cells #[.int .i64 4, .string X, .int .i64 0, .int .i64 q.line, .int .i64 q.col] 71 (0, 0))) := ⟨by rw [hW_]; exact BKh4.out⟩
            clear hW_
            replace CH := Aside0.mk (CH.out.trans chd_)
            replace HG := Aside0.mk (GP.step HG.out chd_ HNg.out)
            replace Cg := cl_of BKg.out
            replace Ch2 := cl_of BKh2.out
            replace Ch4 := cl_of BKh4.out
            clear chd_
            go_wp2
            go_roundg k1_
            case measure => omega
            case rel =>
              refine ⟨k + 1, rfl, by omega, ⟨?_⟩, BKg, BKh2, CH, HG⟩
              rw [HFT.out, HO.out, BKh4.out, HX.out]
              rfl
          | none =>
            have HO := Lib.hid ho
            rw [ho] at BKh4
            replace BKh4 : Aside0 (wr.heap[h4]? = some (.cells #[.int .i64 0, .string ⟨#[]⟩, .int .i64 0, .int .i64 q.line, .int .i64 q.col] 71 (0, 0))) := BKh4
            cases hp : (marksL.getD k []).isPrefixOf (s.data.toList.drop j) with
            | true =>
              have HP := Lib.hid hp
              have HHP := Aside0.mk (fun w => show Calls Tryd.prog 58 #[.string (s.extract j s.size), .string Y] w (fun e w' => e = .returned (.bool true) ∧ w' = w) from (show Lib.hasPrefix (s.extract j s.size).data.toList Y.data.toList = true by rw [hext, hY, bsOf_list]; exact hp) ▸ Tryd.strings_HasPrefix (s.extract j s.size) Y w)
              clear hrd hft ho hp hY hext
              have Cg := cl_of BKg.out
              have Ch2 := cl_of BKh2.out
              have Ch4 := cl_of BKh4.out
              go_wp2
              go_quiet ((go_at_call 58; exact Calls.quiet_of_same (HHP.out _)))
              obtain ⟨DW1, hW_⟩ : ∃ W, W = wr.drewN nq := ⟨_, rfl⟩
              have chd_ : Chg g wr DW1 := by rw [hW_]; exact Chg.of_below (pw_below_drewN (Below.refl _ _) nq)
              rw [← hW_]
              replace BKg : Aside0 (DW1.heap[g]? = some (.cells #[.string s, .int .i64 j, .int .i64 q.line, .int .i64 q.col] 104 (0, 0))) := ⟨by rw [hW_]; exact BKg.out⟩
              replace BKh2 : Aside0 (DW1.heap[h2]? = some (.cells #[.int .i64 0, .string ⟨#[]⟩, .int .i64 0, .int .i64 0, .int .i64 0] 71 (0, 0))) := ⟨by rw [hW_]; exact BKh2.out⟩
              replace BKh4 : Aside0 (DW1.heap[h4]? = some (.cells #[.int .i64 0, .string ⟨#[]⟩, .int .i64 0, .int .i64 q.line, .int .i64 q.col] 71 (0, 0))) := ⟨by rw [hW_]; exact BKh4.out⟩
              clear hW_
              replace CH := Aside0.mk (CH.out.trans chd_)
              replace HG := Aside0.mk (GP.step HG.out chd_ HNg.out)
              replace Cg := cl_of BKg.out
              replace Ch2 := cl_of BKh2.out
              replace Ch4 := cl_of BKh4.out
              clear chd_
              go_wp2_with (first | ((with_reducible refine gate_store (t := 69) (p := 62) (v := .const (.int .i64 4)) rfl ?_); refine put_event (w1 := ?w1p_D2) (g := h4) (cs := #[.int .i64 4, .string ⟨#[]⟩, .int .i64 0, .int .i64 q.line, .int .i64 q.col]) (T := 71) ?hg (t := 69) (p := 62) (v := .const (.int .i64 4)) ?ha ?hn ?hr ?hk ?hb ?_; (case ha => rfl); (case hn => rfl); (case hg => rfl); (case hr => first | (go_simp; done) | (go_simp; rfl)); (case hk => exact (Chg.refl _ _).set _ _); (case hb => exact blk_put BKh4.out 0 _ rfl); intro DW2 ch_ hbox_; replace CH := Aside0.mk (Chg.own CH.out ch_ GEh4.out); replace HG := Aside0.mk (GP.step HG.out ch_ (Nat.le_trans HNw.out GEh4.out)); replace BKg := Aside0.mk (ch_.blk BKg.out NEh4.out); replace BKh4 := Aside0.mk hbox_; replace BKh2 := Aside0.mk (ch_.blk BKh2.out NEh2_h4.out); replace Cg := cl_of BKg.out; replace Ch2 := cl_of BKh2.out; replace Ch4 := cl_of BKh4.out; clear ch_ hbox_) | ((with_reducible refine gate_store (t := 9) (p := 63) (v := .tmp 61) rfl ?_); refine put_event (w1 := ?w1p_D3) (g := h4) (cs := #[.int .i64 4, .string Y, .int .i64 0, .int .i64 q.line, .int .i64 q.col]) (T := 71) ?hg (t := 9) (p := 63) (v := .tmp 61) ?ha ?hn ?hr ?hk ?hb ?_; (case ha => rfl); (case hn => rfl); (case hg => rfl); (case hr => first | (go_simp; done) | (go_simp; rfl)); (case hk => exact (Chg.refl _ _).set _ _); (case hb => exact blk_put BKh4.out 1 _ rfl); intro DW3 ch_ hbox_; replace CH := Aside0.mk (Chg.own CH.out ch_ GEh4.out); replace HG := Aside0.mk (GP.step HG.out ch_ (Nat.le_trans HNw.out GEh4.out)); replace BKg := Aside0.mk (ch_.blk BKg.out NEh4.out); replace BKh4 := Aside0.mk hbox_; replace BKh2 := Aside0.mk (ch_.blk BKh2.out NEh2_h4.out); replace Cg := cl_of BKg.out; replace Ch2 := cl_of BKh2.out; replace Ch4 := cl_of BKh4.out; clear ch_ hbox_))
              go_roundg k1_
              case measure => omega
              case rel =>
                refine ⟨k + 1, rfl, by omega, ⟨?_⟩, BKg, BKh2, CH, HG⟩
                rw [HFT.out, HO.out, if_pos HP.out, BKh4.out, HY.out]
                rfl
            | false =>
              have HP := Lib.hid hp
              have HHP := Aside0.mk (fun w => show Calls Tryd.prog 58 #[.string (s.extract j s.size), .string Y] w (fun e w' => e = .returned (.bool false) ∧ w' = w) from (show Lib.hasPrefix (s.extract j s.size).data.toList Y.data.toList = false by rw [hext, hY, bsOf_list]; exact hp) ▸ Tryd.strings_HasPrefix (s.extract j s.size) Y w)
              clear hrd hft ho hp hY hext
              have Cg := cl_of BKg.out
              have Ch2 := cl_of BKh2.out
              have Ch4 := cl_of BKh4.out
              go_wp2
              go_quiet ((go_at_call 58; exact Calls.quiet_of_same (HHP.out _)))
              obtain ⟨GW1, hW_⟩ : ∃ W, W = wr.drewN nq := ⟨_, rfl⟩
              have chd_ : Chg g wr GW1 := by rw [hW_]; exact Chg.of_below (pw_below_drewN (Below.refl _ _) nq)
              rw [← hW_]
              replace BKg : Aside0 (GW1.heap[g]? = some (.cells #[.string s, .int .i64 j, .int .i64 q.line, .int .i64 q.col] 104 (0, 0))) := ⟨by rw [hW_]; exact BKg.out⟩
              replace BKh2 : Aside0 (GW1.heap[h2]? = some (.cells #[.int .i64 0, .string ⟨#[]⟩, .int .i64 0, .int .i64 0, .int .i64 0] 71 (0, 0))) := ⟨by rw [hW_]; exact BKh2.out⟩
              replace BKh4 : Aside0 (GW1.heap[h4]? = some (.cells #[.int .i64 0, .string ⟨#[]⟩, .int .i64 0, .int .i64 q.line, .int .i64 q.col] 71 (0, 0))) := ⟨by rw [hW_]; exact BKh4.out⟩
              clear hW_
              replace CH := Aside0.mk (CH.out.trans chd_)
              replace HG := Aside0.mk (GP.step HG.out chd_ HNg.out)
              replace Cg := cl_of BKg.out
              replace Ch2 := cl_of BKh2.out
              replace Ch4 := cl_of BKh4.out
              clear chd_
              go_wp2
              go_roundg k1_
              case measure => omega
              case rel =>
                refine ⟨k + 1, rfl, by omega, ⟨?_⟩, BKg, BKh2, CH, HG⟩
                have e : ((marksL.take (k + 1)).find? (fun m => m.isPrefixOf (s.data.toList.drop j))) = none := by
                  rw [HFT.out, HO.out, HP.out]
                  rfl
                rw [e]
                exact BKh4.out

end Go.Proofs.YtgenlgfbjlclbaaDoor
