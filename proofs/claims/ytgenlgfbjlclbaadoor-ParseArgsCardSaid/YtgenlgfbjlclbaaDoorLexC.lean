/- The lexer's steps: value, blank. -/
import Derived.Test.YtgenlgfbjlclbaaDoorLexB
import Derived.Test.YtgenlgfbjlclbaaDoorShelf
namespace Go.Proofs.YtgenlgfbjlclbaaDoor
open Go.RowKit Go.Proofs.YtgenlgfbjlclbaaDoorW.PrintWords Go.Proofs.YtgenlgfbjlclbaaDoorW.PrintLast Go.Proofs.YtgenlgfbjlclbaaDoorW.PrintMore
set_option linter.unusedVariables false
set_option linter.unusedSimpArgs false

theorem valueL_cons (n : Int) (c : UInt8) (r : Bytes) : valueL n (c :: r) = if (9223372036854775807 - ((c.toNat : Int) - 48)) / 10 < n then none else valueL (n * 10 + ((c.toNat : Int) - 48)) r := rfl
def valV : Option Int → Value
  | some n => .tuple #[.int .i64 n, .bool true]
  | none => .tuple #[.int .i64 0, .bool false]
set_option maxRecDepth 100000 in
set_option maxHeartbeats 3200000 in
theorem value_calls (s : ByteArray) (w : World) (hs : s.size ≤ 65536) (hd : ∀ c, c ∈ s.data.toList → isDigit c = true) :
    Calls Tryd.prog 57 #[.string s] w fun e w' => e = .returned (valV (valueL 0 s.data.toList)) ∧ w' = w := by
  have HD := Aside0.mk hd
  clear hd
  go_enter Tryd.func57, Tryd.ntmps57
  go_wp2
  go_loopg [4, 9] s.size (fun kq v4 v9 w' => ∃ k : Nat, ∃ m : Int, v9 = .int .i64 k ∧ v4 = .int .i64 m ∧ kq + k = s.size ∧ Aside0 (valueL 0 s.data.toList = valueL m (s.data.toList.drop k)) ∧ 0 ≤ m ∧ m ≤ 9223372036854775807 ∧ w' = w)
  case atStart => exact ⟨0, 0, rfl, rfl, by omega, ⟨by simp⟩, by omega, by omega, rfl⟩
  case round =>
    obtain ⟨k, m, rfl, rfl, hk, HV, hm0, hm1, rfl⟩ := hrel
    cases gk with
    | zero =>
      have hge : decide ((k : Int) < (s.size : Int)) = false := by simp; omega
      have HE := Aside0.mk (show valueL 0 s.data.toList = some m by
        rw [HV.out, List.drop_of_length_le (by rw [size_toList]; omega)]
        rfl)
      go_wp2
      go_ret2
      refine ⟨?_, rfl⟩
      rw [HE.out]
      rfl
    | succ k1_ =>
      have hks : k < s.size := by omega
      have hlt : decide ((k : Int) < (s.size : Int)) = true := by simp; omega
      have hdr := drop_at s k hks
      have hmem : s[k]'hks ∈ s.data.toList := by
        have h : s[k]'hks ∈ s.data.toList.drop k := by rw [hdr]; exact List.mem_cons_self
        exact List.mem_of_mem_drop h
      have hdg := HD.out _ hmem
      rw [isDigit_nat] at hdg
      simp only [Bool.and_eq_true, decide_eq_true_eq] at hdg
      have hmod : (((s[k]'hks).toNat : Int) - 48) % 256 = ((s[k]'hks).toNat : Int) - 48 := by omega
      by_cases hb : (9223372036854775807 - (((s[k]'hks).toNat : Int) - 48) % 256) / 10 < m
      · have HE := Aside0.mk (show valueL 0 s.data.toList = none by rw [HV.out, hdr, valueL_cons, if_pos (by rw [← hmod]; exact hb)])
        have kb : decide ((9223372036854775807 - (((s[k]'hks).toNat : Int) - 48) % 256) / 10 < m) = true := decide_eq_true hb
        clear hdr hmem hdg hmod hb
        go_wp2
        go_ret2
        refine ⟨?_, rfl⟩
        rw [HE.out]
        rfl
      · have HE := Aside0.mk (show valueL 0 s.data.toList = valueL (m * 10 + (((s[k]'hks).toNat : Int) - 48) % 256) (s.data.toList.drop (k + 1)) by rw [HV.out, hdr, valueL_cons, if_neg (by rw [← hmod]; exact hb), hmod])
        have hb2 : m * 10 + (((s[k]'hks).toNat : Int) - 48) % 256 ≤ 9223372036854775807 := by omega
        have kb : decide ((9223372036854775807 - (((s[k]'hks).toNat : Int) - 48) % 256) / 10 < m) = false := decide_eq_false hb
        clear hdr hmem hdg hmod
        go_wp2
        go_roundg k1_
        case measure => omega
        case rel => exact ⟨k + 1, m * 10 + (((s[k]'hks).toNat : Int) - 48) % 256, rfl, rfl, by omega, HE, by omega, by omega, rfl⟩

theorem ext_drop (s : ByteArray) (j : Nat) : (s.extract j s.size).data.toList = s.data.toList.drop j := by
  rw [ByteArray.data_extract, Array.toList_extract]
  have h : s.data.toList.length = s.size := size_toList s
  simp only [List.extract_eq_take_drop]
  exact List.take_of_length_le (by rw [List.length_drop]; omega)
def lineL (l : Bytes) : Nat := (l.takeWhile (· != 10)).length
theorem lineL_le (l : Bytes) : lineL l ≤ l.length := (List.takeWhile_sublist _).length_le
theorem index_line : ∀ l : Bytes, (Lib.indexByte l 10 = -1 ∧ lineL l = l.length) ∨ Lib.indexByte l 10 = (lineL l : Int)
  | [] => .inl ⟨rfl, rfl⟩
  | c :: r => by
    rw [Lib.indexByte]
    by_cases h : c = 10
    · subst h
      exact .inr rfl
    · rw [if_neg (by simpa using h)]
      have hl : lineL (c :: r) = lineL r + 1 := by
        have hc : (c != 10) = true := by simpa using h
        rw [lineL, List.takeWhile_cons, hc]
        rfl
      rcases index_line r with ⟨h1, h2⟩ | h1
      · left
        rw [h1, if_pos (by decide), hl, h2]
        exact ⟨rfl, rfl⟩
      · right
        rw [h1, hl, if_neg (by simp)]
        rfl
theorem blank_line : ∀ (q : Pos) (l : Bytes), blankL true q l = blankL false (advs q (l.take (lineL l))) (l.drop (lineL l))
  | _, [] => rfl
  | q, c :: r => by
    rw [blankL]
    by_cases h : c = 10
    · subst h
      rw [if_pos rfl]
      rfl
    · have hl : lineL (c :: r) = lineL r + 1 := by
        have hc : (c != 10) = true := by simpa using h
        rw [lineL, List.takeWhile_cons, hc]
        rfl
      rw [if_neg h, blank_line (adv q c) r, hl]
      rfl
theorem blank_char (q : Pos) (c : UInt8) (r : Bytes) (h : isBlank c = true) : blankL false q (c :: r) = blankL false (adv q c) r := by rw [blankL, if_pos h]
theorem blank_stop (q : Pos) (c : UInt8) (r : Bytes) (h : isBlank c = false) (h2 : Lib.hasPrefix (c :: r) [47, 47] = false) : blankL false q (c :: r) = (q, c :: r) := by
  rw [blankL, if_neg (by simp [h]), if_neg]
  rintro ⟨rfl, h3⟩
  cases r with
  | nil => cases h3
  | cons a r =>
    obtain rfl : a = 47 := by simpa using h3
    simp [Lib.hasPrefix, List.isPrefixOf] at h2
theorem blank_comment (q : Pos) (l : Bytes) (h2 : Lib.hasPrefix l [47, 47] = true) : blankL false q l = blankL false (advs q (l.take (lineL l))) (l.drop (lineL l)) := by
  cases l with
  | nil => cases h2
  | cons c r =>
    cases r with
    | nil => simp [Lib.hasPrefix, List.isPrefixOf] at h2
    | cons a r =>
      have h3 : c = 47 ∧ a = 47 := by
        simp only [Lib.hasPrefix, List.isPrefixOf, Bool.and_eq_true, beq_iff_eq] at h2
        exact ⟨h2.1.symm, h2.2.1.symm⟩
      obtain ⟨rfl, rfl⟩ := h3
      have hl : lineL (47 :: 47 :: r) = lineL (47 :: r) + 1 := rfl
      rw [blankL, if_neg (by decide), if_pos ⟨rfl, rfl⟩, blank_line, hl]
      rfl
theorem isBlank_nat (c : UInt8) : isBlank c = (decide (c.toNat = 32) || decide (c.toNat = 9) || decide (c.toNat = 10) || decide (c.toNat = 13)) := by
  have h : ∀ n : UInt8, (c == n) = decide (c.toNat = n.toNat) := fun n => by
    by_cases e : c = n
    · subst e
      simp
    · rw [beq_eq_false_iff_ne.2 e, decide_eq_false (fun e2 => e (UInt8.toNat_inj.1 e2))]
  unfold isBlank
  rw [h, h, h, h]
  rfl
theorem lskip1 (g : Nat) (s : ByteArray) (i : Nat) (p : Pos) (w : World) (hb : w.heap[g]? = some (.cells #[.string s, .int .i64 i, .int .i64 p.line, .int .i64 p.col] 104 (0, 0))) (hin : i + 1 ≤ s.size) (hs : s.size ≤ 65536) (hp : PB p i) :
    Calls Tryd.prog 59 #[.pointer (some ⟨g, 0, none⟩), .int .i64 1] w fun e w' => e = .returned (.tuple #[]) ∧ Chg g w w' ∧ ∃ q, q = advs p ((s.data.toList.drop i).take 1) ∧ PB q (i + 1) ∧ w'.heap[g]? = some (.cells #[.string s, .int .i64 ((i + 1 : Nat) : Int), .int .i64 q.line, .int .i64 q.col] 104 (0, 0)) := lskip_calls g s i 1 p w hb hin hs hp

set_option maxRecDepth 100000 in
set_option maxHeartbeats 12800000 in
theorem blank_calls (g : Nat) (s : ByteArray) (i : Nat) (p : Pos) (w : World) (hb : w.heap[g]? = some (.cells #[.string s, .int .i64 i, .int .i64 p.line, .int .i64 p.col] 104 (0, 0))) (hin : i ≤ s.size) (hs : s.size ≤ 65536) (hp : PB p i) :
    Calls Tryd.prog 53 #[.pointer (some ⟨g, 0, none⟩)] w fun e w' => e = .returned (.tuple #[]) ∧ Chg g w w' ∧ ∃ j q, i ≤ j ∧ j ≤ s.size ∧ blankL false p (s.data.toList.drop i) = (q, s.data.toList.drop j) ∧ PB q j ∧ w'.heap[g]? = some (.cells #[.string s, .int .i64 j, .int .i64 q.line, .int .i64 q.col] 104 (0, 0)) := by
  have HBK := Aside0.mk hb
  have HP := Aside0.mk hp
  clear hb hp
  go_enter Tryd.func53, Tryd.ntmps53
  go_wp2
  go_loopg [2] (s.size - i) (fun kq v2 w' => ∃ j : Nat, ∃ q : Pos, kq + j = s.size ∧ i ≤ j ∧ Aside0 (blankL false p (s.data.toList.drop i) = blankL false q (s.data.toList.drop j)) ∧ Aside0 (PB q j) ∧ Aside0 (w'.heap[g]? = some (.cells #[.string s, .int .i64 j, .int .i64 q.line, .int .i64 q.col] 104 (0, 0))) ∧ Aside0 (Chg g w w'))
  case atStart => exact ⟨i, p, by omega, by omega, ⟨rfl⟩, HP, HBK, ⟨Chg.refl _ _⟩⟩
  case round =>
    clear HBK HP
    obtain ⟨j, q, hk, hij, HV, HPB, BKg, CH⟩ := hrel
    cases gk with
    | zero =>
      have hjs : j = s.size := by omega
      have HE := Aside0.mk (show blankL false p (s.data.toList.drop i) = (q, s.data.toList.drop j) by
        rw [HV.out, List.drop_of_length_le (by rw [size_toList]; omega)]
        rfl)
      have ht : decide ((j : Int) < (s.size : Int)) = false := by simp; omega
      have Cg := cl_of BKg.out
      go_wp2
      go_quiet (fail)
      obtain ⟨W1, hW_⟩ : ∃ W, W = wr.drewN nq := ⟨_, rfl⟩
      have chd_ : Chg g wr W1 := by rw [hW_]; exact Chg.of_below (pw_below_drewN (Below.refl _ _) nq)
      rw [← hW_]
      replace BKg : Aside0 (W1.heap[g]? = some (.cells #[.string s, .int .i64 j, .int .i64 q.line, .int .i64 q.col] 104 (0, 0))) := ⟨by rw [hW_]; exact BKg.out⟩
      clear hW_
      replace CH := Aside0.mk (CH.out.trans chd_)
      replace Cg := cl_of BKg.out
      clear chd_
      go_wp2

      go_end0
      exact ⟨rfl, CH.out, j, q, by omega, by omega, HE.out, HPB.out, BKg.out⟩
    | succ k1_ =>
      have hjs : j < s.size := by omega
      have ht : decide ((j : Int) < (s.size : Int)) = true := by simp; omega
      have hd := drop_at s j hjs
      have HD := Lib.hid hd
      have hjle : j ≤ s.size := by omega
      clear hd
      have Cg := cl_of BKg.out
      by_cases b32 : (s[j]'hjs).toNat = 32
      · have HBC := Lib.hid (show isBlank (s[j]'hjs) = true by rw [isBlank_nat, b32]; rfl)
        have kb32 : ((((s[j]'hjs).toNat : Nat) : Int) == 32) = true := by rw [b32]; rfl
        clear b32
        go_wp2
        go_quiet (fail)
        obtain ⟨W1, hW_⟩ : ∃ W, W = wr.drewN nq := ⟨_, rfl⟩
        have chd_ : Chg g wr W1 := by rw [hW_]; exact Chg.of_below (pw_below_drewN (Below.refl _ _) nq)
        rw [← hW_]
        replace BKg : Aside0 (W1.heap[g]? = some (.cells #[.string s, .int .i64 j, .int .i64 q.line, .int .i64 q.col] 104 (0, 0))) := ⟨by rw [hW_]; exact BKg.out⟩
        clear hW_
        replace CH := Aside0.mk (CH.out.trans chd_)
        replace Cg := cl_of BKg.out
        clear chd_
        go_wp2
        go_quiet (fail)
        obtain ⟨W2, hW_⟩ : ∃ W, W = W1.drewN nq := ⟨_, rfl⟩
        have chd_ : Chg g W1 W2 := by rw [hW_]; exact Chg.of_below (pw_below_drewN (Below.refl _ _) nq)
        rw [← hW_]
        replace BKg : Aside0 (W2.heap[g]? = some (.cells #[.string s, .int .i64 j, .int .i64 q.line, .int .i64 q.col] 104 (0, 0))) := ⟨by rw [hW_]; exact BKg.out⟩
        clear hW_
        replace CH := Aside0.mk (CH.out.trans chd_)
        replace Cg := cl_of BKg.out
        clear chd_
        go_wp2_with (first | (go_at_call 59; (with_reducible refine (lskip1 g s j q _ BKg.out (by omega) hs HPB.out).mono ?_); rintro e W3 ⟨rfl, ch_, q2, hq2_, hpb2_, bk_⟩; have HQ2 := Aside0.mk hq2_; have HPB2 := Aside0.mk hpb2_; replace CH := Aside0.mk (CH.out.trans ch_); replace BKg := Aside0.mk bk_; replace Cg := cl_of BKg.out; clear ch_ bk_ hq2_ hpb2_))
        go_roundg k1_
        case measure => omega
        case rel =>
          refine ⟨j + 1, q2, by omega, by omega, ⟨?_⟩, HPB2, BKg, CH⟩
          rw [HV.out, HD.out, blank_char _ _ _ HBC.out, HQ2.out, HD.out]
          rfl

      by_cases b9 : (s[j]'hjs).toNat = 9
      · have HBC := Lib.hid (show isBlank (s[j]'hjs) = true by rw [isBlank_nat, b9]; rfl)
        have kb32 : ((((s[j]'hjs).toNat : Nat) : Int) == 32) = false := beq_eq_false_iff_ne.2 (by omega)
        have kb9 : ((((s[j]'hjs).toNat : Nat) : Int) == 9) = true := by rw [b9]; rfl
        clear b32 b9
        go_wp2
        go_quiet (fail)
        obtain ⟨W1, hW_⟩ : ∃ W, W = wr.drewN nq := ⟨_, rfl⟩
        have chd_ : Chg g wr W1 := by rw [hW_]; exact Chg.of_below (pw_below_drewN (Below.refl _ _) nq)
        rw [← hW_]
        replace BKg : Aside0 (W1.heap[g]? = some (.cells #[.string s, .int .i64 j, .int .i64 q.line, .int .i64 q.col] 104 (0, 0))) := ⟨by rw [hW_]; exact BKg.out⟩
        clear hW_
        replace CH := Aside0.mk (CH.out.trans chd_)
        replace Cg := cl_of BKg.out
        clear chd_
        go_wp2
        go_quiet (fail)
        obtain ⟨W2, hW_⟩ : ∃ W, W = W1.drewN nq := ⟨_, rfl⟩
        have chd_ : Chg g W1 W2 := by rw [hW_]; exact Chg.of_below (pw_below_drewN (Below.refl _ _) nq)
        rw [← hW_]
        replace BKg : Aside0 (W2.heap[g]? = some (.cells #[.string s, .int .i64 j, .int .i64 q.line, .int .i64 q.col] 104 (0, 0))) := ⟨by rw [hW_]; exact BKg.out⟩
        clear hW_
        replace CH := Aside0.mk (CH.out.trans chd_)
        replace Cg := cl_of BKg.out
        clear chd_
        go_wp2_with (first | (go_at_call 59; (with_reducible refine (lskip1 g s j q _ BKg.out (by omega) hs HPB.out).mono ?_); rintro e W3 ⟨rfl, ch_, q2, hq2_, hpb2_, bk_⟩; have HQ2 := Aside0.mk hq2_; have HPB2 := Aside0.mk hpb2_; replace CH := Aside0.mk (CH.out.trans ch_); replace BKg := Aside0.mk bk_; replace Cg := cl_of BKg.out; clear ch_ bk_ hq2_ hpb2_))
        go_roundg k1_
        case measure => omega
        case rel =>
          refine ⟨j + 1, q2, by omega, by omega, ⟨?_⟩, HPB2, BKg, CH⟩
          rw [HV.out, HD.out, blank_char _ _ _ HBC.out, HQ2.out, HD.out]
          rfl

      by_cases b10 : (s[j]'hjs).toNat = 10
      · have HBC := Lib.hid (show isBlank (s[j]'hjs) = true by rw [isBlank_nat, b10]; rfl)
        have kb32 : ((((s[j]'hjs).toNat : Nat) : Int) == 32) = false := beq_eq_false_iff_ne.2 (by omega)
        have kb9 : ((((s[j]'hjs).toNat : Nat) : Int) == 9) = false := beq_eq_false_iff_ne.2 (by omega)
        have kb10 : ((((s[j]'hjs).toNat : Nat) : Int) == 10) = true := by rw [b10]; rfl
        clear b32 b9 b10
        go_wp2
        go_quiet (fail)
        obtain ⟨W1, hW_⟩ : ∃ W, W = wr.drewN nq := ⟨_, rfl⟩
        have chd_ : Chg g wr W1 := by rw [hW_]; exact Chg.of_below (pw_below_drewN (Below.refl _ _) nq)
        rw [← hW_]
        replace BKg : Aside0 (W1.heap[g]? = some (.cells #[.string s, .int .i64 j, .int .i64 q.line, .int .i64 q.col] 104 (0, 0))) := ⟨by rw [hW_]; exact BKg.out⟩
        clear hW_
        replace CH := Aside0.mk (CH.out.trans chd_)
        replace Cg := cl_of BKg.out
        clear chd_
        go_wp2
        go_quiet (fail)
        obtain ⟨W2, hW_⟩ : ∃ W, W = W1.drewN nq := ⟨_, rfl⟩
        have chd_ : Chg g W1 W2 := by rw [hW_]; exact Chg.of_below (pw_below_drewN (Below.refl _ _) nq)
        rw [← hW_]
        replace BKg : Aside0 (W2.heap[g]? = some (.cells #[.string s, .int .i64 j, .int .i64 q.line, .int .i64 q.col] 104 (0, 0))) := ⟨by rw [hW_]; exact BKg.out⟩
        clear hW_
        replace CH := Aside0.mk (CH.out.trans chd_)
        replace Cg := cl_of BKg.out
        clear chd_
        go_wp2_with (first | (go_at_call 59; (with_reducible refine (lskip1 g s j q _ BKg.out (by omega) hs HPB.out).mono ?_); rintro e W3 ⟨rfl, ch_, q2, hq2_, hpb2_, bk_⟩; have HQ2 := Aside0.mk hq2_; have HPB2 := Aside0.mk hpb2_; replace CH := Aside0.mk (CH.out.trans ch_); replace BKg := Aside0.mk bk_; replace Cg := cl_of BKg.out; clear ch_ bk_ hq2_ hpb2_))
        go_roundg k1_
        case measure => omega
        case rel =>
          refine ⟨j + 1, q2, by omega, by omega, ⟨?_⟩, HPB2, BKg, CH⟩
          rw [HV.out, HD.out, blank_char _ _ _ HBC.out, HQ2.out, HD.out]
          rfl

      by_cases b13 : (s[j]'hjs).toNat = 13
      · have HBC := Lib.hid (show isBlank (s[j]'hjs) = true by rw [isBlank_nat, b13]; rfl)
        have kb32 : ((((s[j]'hjs).toNat : Nat) : Int) == 32) = false := beq_eq_false_iff_ne.2 (by omega)
        have kb9 : ((((s[j]'hjs).toNat : Nat) : Int) == 9) = false := beq_eq_false_iff_ne.2 (by omega)
        have kb10 : ((((s[j]'hjs).toNat : Nat) : Int) == 10) = false := beq_eq_false_iff_ne.2 (by omega)
        have kb13 : ((((s[j]'hjs).toNat : Nat) : Int) == 13) = true := by rw [b13]; rfl
        clear b32 b9 b10 b13
        go_wp2
        go_quiet (fail)
        obtain ⟨W1, hW_⟩ : ∃ W, W = wr.drewN nq := ⟨_, rfl⟩
        have chd_ : Chg g wr W1 := by rw [hW_]; exact Chg.of_below (pw_below_drewN (Below.refl _ _) nq)
        rw [← hW_]
        replace BKg : Aside0 (W1.heap[g]? = some (.cells #[.string s, .int .i64 j, .int .i64 q.line, .int .i64 q.col] 104 (0, 0))) := ⟨by rw [hW_]; exact BKg.out⟩
        clear hW_
        replace CH := Aside0.mk (CH.out.trans chd_)
        replace Cg := cl_of BKg.out
        clear chd_
        go_wp2
        go_quiet (fail)
        obtain ⟨W2, hW_⟩ : ∃ W, W = W1.drewN nq := ⟨_, rfl⟩
        have chd_ : Chg g W1 W2 := by rw [hW_]; exact Chg.of_below (pw_below_drewN (Below.refl _ _) nq)
        rw [← hW_]
        replace BKg : Aside0 (W2.heap[g]? = some (.cells #[.string s, .int .i64 j, .int .i64 q.line, .int .i64 q.col] 104 (0, 0))) := ⟨by rw [hW_]; exact BKg.out⟩
        clear hW_
        replace CH := Aside0.mk (CH.out.trans chd_)
        replace Cg := cl_of BKg.out
        clear chd_
        go_wp2_with (first | (go_at_call 59; (with_reducible refine (lskip1 g s j q _ BKg.out (by omega) hs HPB.out).mono ?_); rintro e W3 ⟨rfl, ch_, q2, hq2_, hpb2_, bk_⟩; have HQ2 := Aside0.mk hq2_; have HPB2 := Aside0.mk hpb2_; replace CH := Aside0.mk (CH.out.trans ch_); replace BKg := Aside0.mk bk_; replace Cg := cl_of BKg.out; clear ch_ bk_ hq2_ hpb2_))
        go_roundg k1_
        case measure => omega
        case rel =>
          refine ⟨j + 1, q2, by omega, by omega, ⟨?_⟩, HPB2, BKg, CH⟩
          rw [HV.out, HD.out, blank_char _ _ _ HBC.out, HQ2.out, HD.out]
          rfl

      have HBC := Lib.hid (show isBlank (s[j]'hjs) = false by rw [isBlank_nat, decide_eq_false b32, decide_eq_false b9, decide_eq_false b10, decide_eq_false b13]; rfl)
      have kb32 : ((((s[j]'hjs).toNat : Nat) : Int) == 32) = false := beq_eq_false_iff_ne.2 (by omega)
      have kb9 : ((((s[j]'hjs).toNat : Nat) : Int) == 9) = false := beq_eq_false_iff_ne.2 (by omega)
      have kb10 : ((((s[j]'hjs).toNat : Nat) : Int) == 10) = false := beq_eq_false_iff_ne.2 (by omega)
      have kb13 : ((((s[j]'hjs).toNat : Nat) : Int) == 13) = false := beq_eq_false_iff_ne.2 (by omega)
      clear b32 b9 b10 b13
      have hext := ext_drop s j
      cases hpx : Lib.hasPrefix (s.data.toList.drop j) [47, 47] with
      | false =>
        have HHP := Aside0.mk (fun w => show Calls Tryd.prog 58 #[.string (s.extract j s.size), .string ⟨#[47, 47]⟩] w (fun e w' => e = .returned (.bool false) ∧ w' = w) from (show Lib.hasPrefix (s.extract j s.size).data.toList (⟨#[47, 47]⟩ : ByteArray).data.toList = false by rw [hext]; exact hpx) ▸ Tryd.strings_HasPrefix (s.extract j s.size) ⟨#[47, 47]⟩ w)
        have HS := Aside0.mk (show blankL false p (s.data.toList.drop i) = (q, s.data.toList.drop j) by
          rw [HV.out]
          rw [HD.out] at hpx ⊢
          exact blank_stop _ _ _ HBC.out hpx)
        clear hext hpx
        go_wp2
        go_quiet (fail)
        obtain ⟨W1, hW_⟩ : ∃ W, W = wr.drewN nq := ⟨_, rfl⟩
        have chd_ : Chg g wr W1 := by rw [hW_]; exact Chg.of_below (pw_below_drewN (Below.refl _ _) nq)
        rw [← hW_]
        replace BKg : Aside0 (W1.heap[g]? = some (.cells #[.string s, .int .i64 j, .int .i64 q.line, .int .i64 q.col] 104 (0, 0))) := ⟨by rw [hW_]; exact BKg.out⟩
        clear hW_
        replace CH := Aside0.mk (CH.out.trans chd_)
        replace Cg := cl_of BKg.out
        clear chd_
        go_wp2
        go_quiet (fail)
        obtain ⟨W2, hW_⟩ : ∃ W, W = W1.drewN nq := ⟨_, rfl⟩
        have chd_ : Chg g W1 W2 := by rw [hW_]; exact Chg.of_below (pw_below_drewN (Below.refl _ _) nq)
        rw [← hW_]
        replace BKg : Aside0 (W2.heap[g]? = some (.cells #[.string s, .int .i64 j, .int .i64 q.line, .int .i64 q.col] 104 (0, 0))) := ⟨by rw [hW_]; exact BKg.out⟩
        clear hW_
        replace CH := Aside0.mk (CH.out.trans chd_)
        replace Cg := cl_of BKg.out
        clear chd_
        go_wp2
        go_quiet ((go_at_call 58; exact Calls.quiet_of_same (HHP.out _)))
        obtain ⟨W3, hW_⟩ : ∃ W, W = W2.drewN nq := ⟨_, rfl⟩
        have chd_ : Chg g W2 W3 := by rw [hW_]; exact Chg.of_below (pw_below_drewN (Below.refl _ _) nq)
        rw [← hW_]
        replace BKg : Aside0 (W3.heap[g]? = some (.cells #[.string s, .int .i64 j, .int .i64 q.line, .int .i64 q.col] 104 (0, 0))) := ⟨by rw [hW_]; exact BKg.out⟩
        clear hW_
        replace CH := Aside0.mk (CH.out.trans chd_)
        replace Cg := cl_of BKg.out
        clear chd_
        go_wp2
        refine bodyPost_ret (results_none rfl _ _ _) rfl ?_
        exact ⟨rfl, CH.out, j, q, by omega, by omega, HS.out, HPB.out, BKg.out⟩

      | true =>
        have HPX := Lib.hid hpx
        have HHP := Aside0.mk (fun w => show Calls Tryd.prog 58 #[.string (s.extract j s.size), .string ⟨#[47, 47]⟩] w (fun e w' => e = .returned (.bool true) ∧ w' = w) from (show Lib.hasPrefix (s.extract j s.size).data.toList (⟨#[47, 47]⟩ : ByteArray).data.toList = true by rw [hext]; exact hpx) ▸ Tryd.strings_HasPrefix (s.extract j s.size) ⟨#[47, 47]⟩ w)
        have hle := lineL_le (s.data.toList.drop j)
        rw [List.length_drop, size_toList] at hle
        have h2 : 1 ≤ lineL (s.data.toList.drop j) := by
          have hne : ((s[j]'hjs) != 10) = true := by
            have h := HBC.out
            cases he : ((s[j]'hjs) != 10) with
            | true => rfl
            | false =>
              have : (s[j]'hjs) = 10 := by simpa using he
              rw [this] at h
              cases h
          rw [HD.out, lineL, List.takeWhile_cons, hne]
          simp
        obtain ⟨n_, hn_⟩ : ∃ n, n = lineL (s.data.toList.drop j) := ⟨_, rfl⟩
        rw [← hn_] at hle h2
        have HLN := Lib.hid hn_.symm
        have HNN := Lib.hid (show j + n_ ≤ s.size by omega)
        have HN2 := Lib.hid h2
        rcases index_line (s.data.toList.drop j) with ⟨h3, h4⟩ | h3
        · have HIX := Aside0.mk (fun w => show Calls Tryd.prog 71 #[.string (s.extract j s.size), .int .u8 10] w (fun e w' => e = .returned (.int .i64 (-1)) ∧ w' = w) from (show Lib.indexByte (s.extract j s.size).data.toList (Int.toNat 10).toUInt8 = -1 by rw [hext]; exact h3) ▸ Tryd.strings_IndexByte (s.extract j s.size) 10 w)
          have hwr : IntKind.i64.wrap ((s.size : Int) - (j : Int)) = (n_ : Int) := by
            rw [← hn_, List.length_drop, size_toList] at h4
            rw [i64_w]
            unfold wrap64
            omega
          clear hext hpx hle h2 hn_ h3 h4
          go_wp2
          go_quiet (fail)
          obtain ⟨W1, hW_⟩ : ∃ W, W = wr.drewN nq := ⟨_, rfl⟩
          have chd_ : Chg g wr W1 := by rw [hW_]; exact Chg.of_below (pw_below_drewN (Below.refl _ _) nq)
          rw [← hW_]
          replace BKg : Aside0 (W1.heap[g]? = some (.cells #[.string s, .int .i64 j, .int .i64 q.line, .int .i64 q.col] 104 (0, 0))) := ⟨by rw [hW_]; exact BKg.out⟩
          clear hW_
          replace CH := Aside0.mk (CH.out.trans chd_)
          replace Cg := cl_of BKg.out
          clear chd_
          go_wp2
          go_quiet (fail)
          obtain ⟨W2, hW_⟩ : ∃ W, W = W1.drewN nq := ⟨_, rfl⟩
          have chd_ : Chg g W1 W2 := by rw [hW_]; exact Chg.of_below (pw_below_drewN (Below.refl _ _) nq)
          rw [← hW_]
          replace BKg : Aside0 (W2.heap[g]? = some (.cells #[.string s, .int .i64 j, .int .i64 q.line, .int .i64 q.col] 104 (0, 0))) := ⟨by rw [hW_]; exact BKg.out⟩
          clear hW_
          replace CH := Aside0.mk (CH.out.trans chd_)
          replace Cg := cl_of BKg.out
          clear chd_
          go_wp2
          go_quiet ((go_at_call 58; exact Calls.quiet_of_same (HHP.out _)))
          obtain ⟨W3, hW_⟩ : ∃ W, W = W2.drewN nq := ⟨_, rfl⟩
          have chd_ : Chg g W2 W3 := by rw [hW_]; exact Chg.of_below (pw_below_drewN (Below.refl _ _) nq)
          rw [← hW_]
          replace BKg : Aside0 (W3.heap[g]? = some (.cells #[.string s, .int .i64 j, .int .i64 q.line, .int .i64 q.col] 104 (0, 0))) := ⟨by rw [hW_]; exact BKg.out⟩
          clear hW_
          replace CH := Aside0.mk (CH.out.trans chd_)
          replace Cg := cl_of BKg.out
          clear chd_
          go_wp2
          go_quiet ((go_at_call 71; exact Calls.quiet_of_same (HIX.out _)))
          obtain ⟨W4, hW_⟩ : ∃ W, W = W3.drewN nq := ⟨_, rfl⟩
          have chd_ : Chg g W3 W4 := by rw [hW_]; exact Chg.of_below (pw_below_drewN (Below.refl _ _) nq)
          rw [← hW_]
          replace BKg : Aside0 (W4.heap[g]? = some (.cells #[.string s, .int .i64 j, .int .i64 q.line, .int .i64 q.col] 104 (0, 0))) := ⟨by rw [hW_]; exact BKg.out⟩
          clear hW_
          replace CH := Aside0.mk (CH.out.trans chd_)
          replace Cg := cl_of BKg.out
          clear chd_
          go_wp2
          go_quiet (fail)
          obtain ⟨W5, hW_⟩ : ∃ W, W = W4.drewN nq := ⟨_, rfl⟩
          have chd_ : Chg g W4 W5 := by rw [hW_]; exact Chg.of_below (pw_below_drewN (Below.refl _ _) nq)
          rw [← hW_]
          replace BKg : Aside0 (W5.heap[g]? = some (.cells #[.string s, .int .i64 j, .int .i64 q.line, .int .i64 q.col] 104 (0, 0))) := ⟨by rw [hW_]; exact BKg.out⟩
          clear hW_
          replace CH := Aside0.mk (CH.out.trans chd_)
          replace Cg := cl_of BKg.out
          clear chd_
          go_wp2_with (first | (go_at_call 59; (with_reducible refine (lskip_calls g s j n_ q _ BKg.out HNN.out hs HPB.out).mono ?_); rintro e W6 ⟨rfl, ch_, q2, hq2_, hpb2_, bk_⟩; have HQ2 := Aside0.mk hq2_; have HPB2 := Aside0.mk hpb2_; replace CH := Aside0.mk (CH.out.trans ch_); replace BKg := Aside0.mk bk_; replace Cg := cl_of BKg.out; clear ch_ bk_ hq2_ hpb2_))
          have hnn := HNN.out
          have hn2 := HN2.out
          go_roundg (s.size - (j + n_))
          case measure => omega
          case rel =>
            refine ⟨j + n_, q2, by omega, by omega, ⟨?_⟩, HPB2, BKg, CH⟩
            rw [HV.out, blank_comment _ _ HPX.out, HQ2.out, HLN.out, List.drop_drop]

        · have HIX := Aside0.mk (fun w => show Calls Tryd.prog 71 #[.string (s.extract j s.size), .int .u8 10] w (fun e w' => e = .returned (.int .i64 (n_ : Int)) ∧ w' = w) from (show Lib.indexByte (s.extract j s.size).data.toList (Int.toNat 10).toUInt8 = (n_ : Int) by rw [hext, hn_]; exact h3) ▸ Tryd.strings_IndexByte (s.extract j s.size) 10 w)
          clear hext hpx hle h2 hn_ h3
          go_wp2
          go_quiet (fail)
          obtain ⟨W1, hW_⟩ : ∃ W, W = wr.drewN nq := ⟨_, rfl⟩
          have chd_ : Chg g wr W1 := by rw [hW_]; exact Chg.of_below (pw_below_drewN (Below.refl _ _) nq)
          rw [← hW_]
          replace BKg : Aside0 (W1.heap[g]? = some (.cells #[.string s, .int .i64 j, .int .i64 q.line, .int .i64 q.col] 104 (0, 0))) := ⟨by rw [hW_]; exact BKg.out⟩
          clear hW_
          replace CH := Aside0.mk (CH.out.trans chd_)
          replace Cg := cl_of BKg.out
          clear chd_
          go_wp2
          go_quiet (fail)
          obtain ⟨W2, hW_⟩ : ∃ W, W = W1.drewN nq := ⟨_, rfl⟩
          have chd_ : Chg g W1 W2 := by rw [hW_]; exact Chg.of_below (pw_below_drewN (Below.refl _ _) nq)
          rw [← hW_]
          replace BKg : Aside0 (W2.heap[g]? = some (.cells #[.string s, .int .i64 j, .int .i64 q.line, .int .i64 q.col] 104 (0, 0))) := ⟨by rw [hW_]; exact BKg.out⟩
          clear hW_
          replace CH := Aside0.mk (CH.out.trans chd_)
          replace Cg := cl_of BKg.out
          clear chd_
          go_wp2
          go_quiet ((go_at_call 58; exact Calls.quiet_of_same (HHP.out _)))
          obtain ⟨W3, hW_⟩ : ∃ W, W = W2.drewN nq := ⟨_, rfl⟩
          have chd_ : Chg g W2 W3 := by rw [hW_]; exact Chg.of_below (pw_below_drewN (Below.refl _ _) nq)
          rw [← hW_]
          replace BKg : Aside0 (W3.heap[g]? = some (.cells #[.string s, .int .i64 j, .int .i64 q.line, .int .i64 q.col] 104 (0, 0))) := ⟨by rw [hW_]; exact BKg.out⟩
          clear hW_
          replace CH := Aside0.mk (CH.out.trans chd_)
          replace Cg := cl_of BKg.out
          clear chd_
          go_wp2
          go_quiet ((go_at_call 71; exact Calls.quiet_of_same (HIX.out _)))
          obtain ⟨W4, hW_⟩ : ∃ W, W = W3.drewN nq := ⟨_, rfl⟩
          have chd_ : Chg g W3 W4 := by rw [hW_]; exact Chg.of_below (pw_below_drewN (Below.refl _ _) nq)
          rw [← hW_]
          replace BKg : Aside0 (W4.heap[g]? = some (.cells #[.string s, .int .i64 j, .int .i64 q.line, .int .i64 q.col] 104 (0, 0))) := ⟨by rw [hW_]; exact BKg.out⟩
          clear hW_
          replace CH := Aside0.mk (CH.out.trans chd_)
          replace Cg := cl_of BKg.out
          clear chd_
          go_wp2_with (first | (go_at_call 59; (with_reducible refine (lskip_calls g s j n_ q _ BKg.out HNN.out hs HPB.out).mono ?_); rintro e W5 ⟨rfl, ch_, q2, hq2_, hpb2_, bk_⟩; have HQ2 := Aside0.mk hq2_; have HPB2 := Aside0.mk hpb2_; replace CH := Aside0.mk (CH.out.trans ch_); replace BKg := Aside0.mk bk_; replace Cg := cl_of BKg.out; clear ch_ bk_ hq2_ hpb2_))
          have hnn := HNN.out
          have hn2 := HN2.out
          go_roundg (s.size - (j + n_))
          case measure => omega
          case rel =>
            refine ⟨j + n_, q2, by omega, by omega, ⟨?_⟩, HPB2, BKg, CH⟩
            rw [HV.out, blank_comment _ _ HPX.out, HQ2.out, HLN.out, List.drop_drop]

end Go.Proofs.YtgenlgfbjlclbaaDoor
