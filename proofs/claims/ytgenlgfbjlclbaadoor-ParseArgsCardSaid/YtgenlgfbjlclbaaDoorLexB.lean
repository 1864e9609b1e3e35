/- The lexer's steps: skip, run, value, blank. -/
import Derived.Test.YtgenlgfbjlclbaaDoorLexA
import Derived.Test.YtgenlgfbjlclbaaDoorFq
import Derived.Deep.QuietTactic
import Derived.BigQuiet
namespace Go.Proofs.YtgenlgfbjlclbaaDoor
open Go.RowKit Go.Proofs.YtgenlgfbjlclbaaDoorW.PrintWords Go.Proofs.YtgenlgfbjlclbaaDoorW.PrintLast Go.Proofs.YtgenlgfbjlclbaaDoorW.PrintMore
set_option linter.unusedVariables false
set_option linter.unusedSimpArgs false

/-- Where a place may be, so many bytes on. -/
structure PB (p : Pos) (i : Nat) : Prop where
  l0 : 1 ≤ p.line
  l1 : p.line ≤ i + 1
  c0 : 1 ≤ p.col
  c1 : p.col ≤ i + 1
theorem PB.adv {p : Pos} {i : Nat} (h : PB p i) (c : UInt8) : PB (adv p c) (i + 1) := by
  obtain ⟨h1, h2, h3, h4⟩ := h
  unfold Go.Proofs.YtgenlgfbjlclbaaDoor.adv
  split
  · exact ⟨by show (1 : Int) ≤ p.line + 1; omega, by show p.line + 1 ≤ ((i + 1 : Nat) : Int) + 1; omega, by show (1 : Int) ≤ 1; omega, by show (1 : Int) ≤ ((i + 1 : Nat) : Int) + 1; omega⟩
  · exact ⟨h1, by show p.line ≤ ((i + 1 : Nat) : Int) + 1; omega, by show (1 : Int) ≤ p.col + 1; omega, by show p.col + 1 ≤ ((i + 1 : Nat) : Int) + 1; omega⟩
theorem advs_append (p : Pos) : ∀ (a b : Bytes), advs p (a ++ b) = advs (advs p a) b := by
  intro a
  induction a generalizing p with
  | nil => intro b; rfl
  | cons c r ih => intro b; exact ih (adv p c) b
theorem PB.advs {p : Pos} {i : Nat} (h : PB p i) : ∀ (l : Bytes), PB (advs p l) (i + l.length) := by
  intro l
  induction l generalizing p i with
  | nil => exact h
  | cons c r ih =>
    have := ih (h.adv c)
    rw [show i + (c :: r).length = i + 1 + r.length by simp; omega]
    exact this
def byteAt (s : ByteArray) (j : Nat) : UInt8 := s.data.toList.getD j 0
theorem byteAt_get (s : ByteArray) (j : Nat) (h : j < s.size) : s[j]'h = byteAt s j := by
  have h2 : j < s.data.toList.length := by rw [size_toList]; exact h
  rw [byteAt, List.getD_eq_getElem?_getD, List.getElem?_eq_getElem h2]
  simp
  rfl
theorem advs_take (p : Pos) (s : ByteArray) (i k : Nat) (h : i + k < s.size) : advs p ((s.data.toList.drop i).take (k + 1)) = adv (advs p ((s.data.toList.drop i).take k)) (byteAt s (i + k)) := by
  have h2 : i + k < s.data.toList.length := by rw [size_toList]; exact h
  rw [List.take_add_one, advs_append]
  have : (s.data.toList.drop i)[k]? = some (byteAt s (i + k)) := by
    rw [List.getElem?_drop, byteAt, List.getD_eq_getElem?_getD, List.getElem?_eq_getElem h2]
    rfl
  rw [this]
  rfl

set_option maxRecDepth 100000 in
set_option maxHeartbeats 3200000 in
theorem lskip_calls (g : Nat) (s : ByteArray) (i n : Nat) (p : Pos) (w : World) (hb : w.heap[g]? = some (.cells #[.string s, .int .i64 i, .int .i64 p.line, .int .i64 p.col] 104 (0, 0))) (hin : i + n ≤ s.size) (hs : s.size ≤ 65536) (hp : PB p i) :
    Calls Tryd.prog 59 #[.pointer (some ⟨g, 0, none⟩), .int .i64 n] w fun e w' => e = .returned (.tuple #[]) ∧ Chg g w w' ∧ ∃ q, q = advs p ((s.data.toList.drop i).take n) ∧ PB q (i + n) ∧ w'.heap[g]? = some (.cells #[.string s, .int .i64 ((i + n : Nat) : Int), .int .i64 q.line, .int .i64 q.col] 104 (0, 0)) := by
  have HBK := Aside0.mk hb
  have HP := Aside0.mk hp
  clear hb hp
  go_enter Tryd.func59, Tryd.ntmps59
  go_wp2
  go_loopg [5] n (fun kq v5 w' => ∃ k : Nat, ∃ q : Pos, v5 = .int .i64 k ∧ kq + k = n ∧ Aside0 (w'.heap[g]? = some (.cells #[.string s, .int .i64 ((i + k : Nat) : Int), .int .i64 q.line, .int .i64 q.col] 104 (0, 0))) ∧ Aside0 (q = advs p ((s.data.toList.drop i).take k)) ∧ Aside0 (Chg g w w'))
  case atStart => exact ⟨0, p, rfl, by omega, by simpa using HBK, ⟨by simp [advs]⟩, ⟨Chg.refl _ _⟩⟩
  case round =>
    clear HBK
    obtain ⟨k, q, rfl, hk, BKg, HQ, CH⟩ := hrel
    have hlen : ((s.data.toList.drop i).take k).length = k := by rw [List.length_take, List.length_drop, size_toList]; omega
    have hpb : PB q (i + k) := by
      have h := HP.out.advs ((s.data.toList.drop i).take k)
      rw [hlen, ← HQ.out] at h
      exact h
    cases gk with
    | zero =>
      have hge : decide ((k : Int) < (n : Int)) = false := by simp; omega
      obtain rfl : k = n := by omega
      go_wp2
      go_end0
      exact ⟨rfl, CH.out, q, HQ.out, hpb, BKg.out⟩
    | succ k1_ =>
      have hlt : (k : Int) < (n : Int) := by omega
      obtain ⟨j, hj⟩ : ∃ j, j = i + k := ⟨_, rfl⟩
      rw [← hj] at BKg hpb
      have hjs : j < s.size := by omega
      have hat := advs_take p s i k (by omega)
      rw [← HQ.out, ← hj] at hat
      have hq1 := hpb.l0
      have hq2 := hpb.l1
      have hq3 := hpb.c0
      have hq4 := hpb.c1
      have hbs := byteAt_get s j hjs
      have HPB := Aside0.mk hpb
      have HAT := Aside0.mk hat
      have HJ := Lib.hid hj
      clear hpb hat hlen hj
      have Cg := cl_of BKg.out
      by_cases hc : byteAt s j = 10
      · have kc : (((s[j]'hjs).toNat : Int) == 10) = true := by rw [hbs, hc]; rfl
        have HC := Lib.hid hc
        clear hc hbs
        go_wp2_with (first | ((with_reducible refine gate_store (t := 3) (p := 15) (v := .tmp 12) rfl ?_); refine put_event (w1 := ?w1p_N1) (g := g) (cs := #[.string s, .int .i64 j, .int .i64 q.line, .int .i64 (q.col + 1)]) (T := 104) ?hg (t := 3) (p := 15) (v := .tmp 12) ?ha ?hn ?hr ?hk ?hb ?_; (case ha => rfl); (case hn => rfl); (case hg => rfl); (case hr => first | (go_simp; done) | (go_simp; rfl)); (case hk => exact (Chg.refl _ _).set _ _); (case hb => exact blk_put BKg.out 3 _ rfl); intro NW1 ch_ hbox_; replace CH := Aside0.mk (CH.out.trans ch_); replace BKg := Aside0.mk hbox_; replace Cg := cl_of BKg.out; clear ch_ hbox_))
        go_quiet (fail)
        obtain ⟨NW2, hW_⟩ : ∃ W, W = NW1.drewN nq := ⟨_, rfl⟩
        have chd_ : Chg g NW1 NW2 := by rw [hW_]; exact Chg.of_below (pw_below_drewN (Below.refl _ _) nq)
        rw [← hW_]
        replace BKg : Aside0 (NW2.heap[g]? = some (.cells #[.string s, .int .i64 j, .int .i64 q.line, .int .i64 (q.col + 1)] 104 (0, 0))) := ⟨by rw [hW_]; exact BKg.out⟩
        clear hW_
        replace CH := Aside0.mk (CH.out.trans chd_)
        replace Cg := cl_of BKg.out
        clear chd_
        go_wp2_with (first | ((with_reducible refine gate_store (t := 32) (p := 35) (v := .tmp 33) rfl ?_); refine put_event (w1 := ?w1p_N3) (g := g) (cs := #[.string s, .int .i64 j, .int .i64 (q.line + 1), .int .i64 1]) (T := 104) ?hg (t := 32) (p := 35) (v := .tmp 33) ?ha ?hn ?hr ?hk ?hb ?_; (case ha => rfl); (case hn => rfl); (case hg => rfl); (case hr => first | (go_simp; done) | (go_simp; rfl)); (case hk => exact ((Chg.refl _ _).set _ _).set _ _); (case hb => exact blk_put (blk_put BKg.out 2 _ rfl) 3 _ rfl); intro NW3 ch_ hbox_; replace CH := Aside0.mk (CH.out.trans ch_); replace BKg := Aside0.mk hbox_; replace Cg := cl_of BKg.out; clear ch_ hbox_) | ((with_reducible refine gate_store (t := 3) (p := 42) (v := .tmp 40) rfl ?_); refine put_event (w1 := ?w1p_N4) (g := g) (cs := #[.string s, .int .i64 ((j : Int) + 1), .int .i64 (q.line + 1), .int .i64 1]) (T := 104) ?hg (t := 3) (p := 42) (v := .tmp 40) ?ha ?hn ?hr ?hk ?hb ?_; (case ha => rfl); (case hn => rfl); (case hg => rfl); (case hr => first | (go_simp; done) | (go_simp; rfl)); (case hk => exact (Chg.refl _ _).set _ _); (case hb => exact blk_put BKg.out 1 _ rfl); intro NW4 ch_ hbox_; replace CH := Aside0.mk (CH.out.trans ch_); replace BKg := Aside0.mk hbox_; replace Cg := cl_of BKg.out; clear ch_ hbox_))
        go_roundg k1_
        case measure => omega
        case rel =>
          have hjj := HJ.out
          have hadv : adv q (byteAt s j) = ⟨q.line + 1, 1⟩ := by rw [HC.out]; rfl
          refine ⟨k + 1, ⟨q.line + 1, 1⟩, by rfl, by omega, ⟨?_⟩, ⟨?_⟩, CH⟩
          · rw [show ((i + (k + 1) : Nat) : Int) = (j : Int) + 1 by omega]
            exact BKg.out
          · rw [HAT.out, hadv]
      · have kc : (((s[j]'hjs).toNat : Int) == 10) = false := by
          rw [hbs]
          exact beq_eq_false_iff_ne.2 (fun e => hc (UInt8.toNat_inj.1 (by exact_mod_cast e)))
        have HC := Lib.hid hc
        clear hc hbs
        go_wp2_with (first | ((with_reducible refine gate_store (t := 3) (p := 15) (v := .tmp 12) rfl ?_); refine put_event (w1 := ?w1p_M1) (g := g) (cs := #[.string s, .int .i64 j, .int .i64 q.line, .int .i64 (q.col + 1)]) (T := 104) ?hg (t := 3) (p := 15) (v := .tmp 12) ?ha ?hn ?hr ?hk ?hb ?_; (case ha => rfl); (case hn => rfl); (case hg => rfl); (case hr => first | (go_simp; done) | (go_simp; rfl)); (case hk => exact (Chg.refl _ _).set _ _); (case hb => exact blk_put BKg.out 3 _ rfl); intro MW1 ch_ hbox_; replace CH := Aside0.mk (CH.out.trans ch_); replace BKg := Aside0.mk hbox_; replace Cg := cl_of BKg.out; clear ch_ hbox_))
        go_quiet (fail)
        obtain ⟨MW2, hW_⟩ : ∃ W, W = MW1.drewN nq := ⟨_, rfl⟩
        have chd_ : Chg g MW1 MW2 := by rw [hW_]; exact Chg.of_below (pw_below_drewN (Below.refl _ _) nq)
        rw [← hW_]
        replace BKg : Aside0 (MW2.heap[g]? = some (.cells #[.string s, .int .i64 j, .int .i64 q.line, .int .i64 (q.col + 1)] 104 (0, 0))) := ⟨by rw [hW_]; exact BKg.out⟩
        clear hW_
        replace CH := Aside0.mk (CH.out.trans chd_)
        replace Cg := cl_of BKg.out
        clear chd_
        go_wp2_with (first | ((with_reducible refine gate_store (t := 3) (p := 42) (v := .tmp 40) rfl ?_); refine put_event (w1 := ?w1p_M3) (g := g) (cs := #[.string s, .int .i64 ((j : Int) + 1), .int .i64 q.line, .int .i64 (q.col + 1)]) (T := 104) ?hg (t := 3) (p := 42) (v := .tmp 40) ?ha ?hn ?hr ?hk ?hb ?_; (case ha => rfl); (case hn => rfl); (case hg => rfl); (case hr => first | (go_simp; done) | (go_simp; rfl)); (case hk => exact (Chg.refl _ _).set _ _); (case hb => exact blk_put BKg.out 1 _ rfl); intro MW3 ch_ hbox_; replace CH := Aside0.mk (CH.out.trans ch_); replace BKg := Aside0.mk hbox_; replace Cg := cl_of BKg.out; clear ch_ hbox_))
        go_roundg k1_
        case measure => omega
        case rel =>
          have hjj := HJ.out
          have hadv : adv q (byteAt s j) = ⟨q.line, q.col + 1⟩ := by unfold adv; rw [if_neg HC.out]
          refine ⟨k + 1, ⟨q.line, q.col + 1⟩, by rfl, by omega, ⟨?_⟩, ⟨?_⟩, CH⟩
          · rw [show ((i + (k + 1) : Nat) : Int) = (j : Int) + 1 by omega]
            exact BKg.out
          · rw [HAT.out, hadv]

theorem runL_cons (name : Bool) (c : UInt8) (r : Bytes) : runL name (c :: r) = if (isDigit c || (name && isLetter c)) = true then c :: runL name r else [] := by
  rw [runL, List.takeWhile_cons]
  rfl
theorem drop_at (s : ByteArray) (j : Nat) (h : j < s.size) : s.data.toList.drop j = s[j]'h :: s.data.toList.drop (j + 1) := by
  have h2 : j < s.data.toList.length := by rw [size_toList]; exact h
  rw [List.drop_eq_getElem_cons h2]
  simp
  rfl
theorem runL_le (name : Bool) (l : Bytes) : (runL name l).length ≤ l.length := (List.takeWhile_sublist _).length_le

set_option maxRecDepth 100000 in
set_option maxHeartbeats 3200000 in
theorem lrun_calls (g : Nat) (s : ByteArray) (i : Nat) (p : Pos) (name : Bool) (w : World) (hb : w.heap[g]? = some (.cells #[.string s, .int .i64 i, .int .i64 p.line, .int .i64 p.col] 104 (0, 0))) (hin : i ≤ s.size) (hs : s.size ≤ 65536) :
    Calls Tryd.prog 55 #[.pointer (some ⟨g, 0, none⟩), .bool name] w fun e w' => e = .returned (.int .i64 (runL name (s.data.toList.drop i)).length) ∧ Chg g w w' ∧ w'.heap[g]? = some (.cells #[.string s, .int .i64 i, .int .i64 p.line, .int .i64 p.col] 104 (0, 0)) := by
  have HBK := Aside0.mk hb
  clear hb
  have hle := runL_le name (s.data.toList.drop i)
  rw [List.length_drop, size_toList] at hle
  obtain ⟨N, hN⟩ : ∃ N, N = (runL name (s.data.toList.drop i)).length := ⟨_, rfl⟩
  rw [← hN] at hle ⊢
  have HN := Aside0.mk hN
  clear hN
  go_enter Tryd.func55, Tryd.ntmps55
  go_wp2
  go_loopg [5] (s.size - i) (fun kq v5 w' => ∃ k : Nat, v5 = .int .i64 k ∧ kq + i + k = s.size ∧ Aside0 (N = k + (runL name (s.data.toList.drop (i + k))).length) ∧ Aside0 (w'.heap[g]? = some (.cells #[.string s, .int .i64 i, .int .i64 p.line, .int .i64 p.col] 104 (0, 0))) ∧ Aside0 (Chg g w w'))
  case atStart => exact ⟨0, rfl, by omega, ⟨by simpa using HN.out⟩, HBK, ⟨Chg.refl _ _⟩⟩
  case round =>
    clear HBK
    obtain ⟨k, rfl, hk, HK, BKg, CH⟩ := hrel
    obtain ⟨j, hj⟩ : ∃ j, j = i + k := ⟨_, rfl⟩
    rw [← hj] at HK
    have hji : ((i : Int) + (k : Int)) = (j : Int) := by omega
    cases gk with
    | zero =>
      have hjs : j = s.size := by omega
      have HK0 := Aside0.mk (show N = k by
        have h := HK.out
        rw [List.drop_of_length_le (by rw [size_toList]; omega)] at h
        exact h)
      have hwr : IntKind.i64.wrap ((i : Int) + (k : Int)) = (s.size : Int) := by rw [i64_w]; unfold wrap64; omega
      clear hj hjs hji hk
      have Cg := cl_of BKg.out
      go_wp2
      go_quiet (fail)
      obtain ⟨W1, hW_⟩ : ∃ W, W = wr.drewN nq := ⟨_, rfl⟩
      have chd_ : Chg g wr W1 := by rw [hW_]; exact Chg.of_below (pw_below_drewN (Below.refl _ _) nq)
      rw [← hW_]
      replace BKg : Aside0 (W1.heap[g]? = some (.cells #[.string s, .int .i64 i, .int .i64 p.line, .int .i64 p.col] 104 (0, 0))) := ⟨by rw [hW_]; exact BKg.out⟩
      clear hW_
      replace CH := Aside0.mk (CH.out.trans chd_)
      replace Cg := cl_of BKg.out
      clear chd_
      go_wp2
      go_ret
      refine ⟨?_, CH.out, BKg.out⟩
      rw [HK0.out]
      rfl
    | succ k1_ =>
      have hjs : j < s.size := by omega
      have ht : decide ((j : Int) < (s.size : Int)) = true := by simp; omega
      have hd := drop_at s j hjs
      have HD := Lib.hid hd
      have HJ := Lib.hid hj
      have hji0 : (0 : Int) ≤ (j : Int) := by omega
      have hjl : (j : Int) < (s.size : Int) := by omega
      have hwr : IntKind.i64.wrap ((i : Int) + (k : Int)) = (j : Int) := by rw [i64_w]; unfold wrap64; omega
      clear hd hj hji
      have Cg := cl_of BKg.out
      cases hdg : isDigit (s[j]'hjs) with
      | true =>
        have DGC := Aside0.mk (fun w => show Calls Tryd.prog 56 #[.int .u8 ((s[j]'hjs).toNat : Nat)] w (fun e w' => e = .returned (.bool true) ∧ w' = w) from hdg ▸ digit_calls (s[j]'hjs) w)
        have HC := Lib.hid (show runL name (s.data.toList.drop j) = (s[j]'hjs) :: runL name (s.data.toList.drop (j + 1)) by rw [HD.out, runL_cons, hdg]; rfl)
        clear hdg
        go_wp2
        go_quiet (first | (go_at_call 56; exact Calls.quiet_of_same (DGC.out _)))
        obtain ⟨W1, hW_⟩ : ∃ W, W = wr.drewN nq := ⟨_, rfl⟩
        have chd_ : Chg g wr W1 := by rw [hW_]; exact Chg.of_below (pw_below_drewN (Below.refl _ _) nq)
        rw [← hW_]
        replace BKg : Aside0 (W1.heap[g]? = some (.cells #[.string s, .int .i64 i, .int .i64 p.line, .int .i64 p.col] 104 (0, 0))) := ⟨by rw [hW_]; exact BKg.out⟩
        clear hW_
        replace CH := Aside0.mk (CH.out.trans chd_)
        replace Cg := cl_of BKg.out
        clear chd_
        go_wp2
        go_roundg k1_
        case measure => omega
        case rel =>
          have hjj := HJ.out
          clear hwr
          refine ⟨k + 1, by rfl, by omega, ⟨?_⟩, BKg, CH⟩
          have h := HK.out
          rw [HC.out, List.length_cons] at h
          rw [show i + (k + 1) = j + 1 by omega]
          omega
      | false =>
        have DGC := Aside0.mk (fun w => show Calls Tryd.prog 56 #[.int .u8 ((s[j]'hjs).toNat : Nat)] w (fun e w' => e = .returned (.bool false) ∧ w' = w) from hdg ▸ digit_calls (s[j]'hjs) w)
        cases name with
        | false =>
          have HC := Aside0.mk (show N = k by
            have h := HK.out
            rw [HD.out, runL_cons, hdg] at h
            exact h)
          clear hdg
          go_wp2
          go_quiet (first | (go_at_call 56; exact Calls.quiet_of_same (DGC.out _)))
          obtain ⟨W1, hW_⟩ : ∃ W, W = wr.drewN nq := ⟨_, rfl⟩
          have chd_ : Chg g wr W1 := by rw [hW_]; exact Chg.of_below (pw_below_drewN (Below.refl _ _) nq)
          rw [← hW_]
          replace BKg : Aside0 (W1.heap[g]? = some (.cells #[.string s, .int .i64 i, .int .i64 p.line, .int .i64 p.col] 104 (0, 0))) := ⟨by rw [hW_]; exact BKg.out⟩
          clear hW_
          replace CH := Aside0.mk (CH.out.trans chd_)
          replace Cg := cl_of BKg.out
          clear chd_
          go_wp2
          go_ret
          refine ⟨?_, CH.out, BKg.out⟩
          rw [HC.out]
          rfl
        | true =>
          cases hlt : isLetter (s[j]'hjs) with
          | true =>
            have LTC := Aside0.mk (fun w => show Calls Tryd.prog 54 #[.int .u8 ((s[j]'hjs).toNat : Nat)] w (fun e w' => e = .returned (.bool true) ∧ w' = w) from hlt ▸ letter_calls (s[j]'hjs) w)
            have HC := Lib.hid (show runL true (s.data.toList.drop j) = (s[j]'hjs) :: runL true (s.data.toList.drop (j + 1)) by rw [HD.out, runL_cons, hdg, hlt]; rfl)
            clear hdg hlt
            go_wp2
            go_quiet (first | (go_at_call 56; exact Calls.quiet_of_same (DGC.out _)) | (go_at_call 54; exact Calls.quiet_of_same (LTC.out _)))
            obtain ⟨W1, hW_⟩ : ∃ W, W = wr.drewN nq := ⟨_, rfl⟩
            have chd_ : Chg g wr W1 := by rw [hW_]; exact Chg.of_below (pw_below_drewN (Below.refl _ _) nq)
            rw [← hW_]
            replace BKg : Aside0 (W1.heap[g]? = some (.cells #[.string s, .int .i64 i, .int .i64 p.line, .int .i64 p.col] 104 (0, 0))) := ⟨by rw [hW_]; exact BKg.out⟩
            clear hW_
            replace CH := Aside0.mk (CH.out.trans chd_)
            replace Cg := cl_of BKg.out
            clear chd_
            go_wp2
            go_roundg k1_
            case measure => omega
            case rel =>
              have hjj := HJ.out
              clear hwr
              refine ⟨k + 1, by rfl, by omega, ⟨?_⟩, BKg, CH⟩
              have h := HK.out
              rw [HC.out, List.length_cons] at h
              rw [show i + (k + 1) = j + 1 by omega]
              omega
          | false =>
            have LTC := Aside0.mk (fun w => show Calls Tryd.prog 54 #[.int .u8 ((s[j]'hjs).toNat : Nat)] w (fun e w' => e = .returned (.bool false) ∧ w' = w) from hlt ▸ letter_calls (s[j]'hjs) w)
            have HC := Aside0.mk (show N = k by
              have h := HK.out
              rw [HD.out, runL_cons, hdg, hlt] at h
              exact h)
            clear hdg hlt
            go_wp2
            go_quiet (first | (go_at_call 56; exact Calls.quiet_of_same (DGC.out _)) | (go_at_call 54; exact Calls.quiet_of_same (LTC.out _)))
            obtain ⟨W1, hW_⟩ : ∃ W, W = wr.drewN nq := ⟨_, rfl⟩
            have chd_ : Chg g wr W1 := by rw [hW_]; exact Chg.of_below (pw_below_drewN (Below.refl _ _) nq)
            rw [← hW_]
            replace BKg : Aside0 (W1.heap[g]? = some (.cells #[.string s, .int .i64 i, .int .i64 p.line, .int .i64 p.col] 104 (0, 0))) := ⟨by rw [hW_]; exact BKg.out⟩
            clear hW_
            replace CH := Aside0.mk (CH.out.trans chd_)
            replace Cg := cl_of BKg.out
            clear chd_
            go_wp2
            go_ret
            refine ⟨?_, CH.out, BKg.out⟩
            rw [HC.out]
            rfl
end Go.Proofs.YtgenlgfbjlclbaaDoor
