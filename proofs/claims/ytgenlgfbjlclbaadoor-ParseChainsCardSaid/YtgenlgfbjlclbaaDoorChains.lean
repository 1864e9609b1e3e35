/- ParseChains: what it computes. -/
import Derived.Test.YtgenlgfbjlclbaaDoorLawKit
import Derived.Test.YtgenlgfbjlclbaaDoorChainsLaw
import Derived.WalkSpells
namespace Go.Proofs.YtgenlgfbjlclbaaDoor
open Go.RowKit Go.Proofs.YtgenlgfbjlclbaaDoorW.PrintWords Go.Proofs.YtgenlgfbjlclbaaDoorW.PrintLast Go.Proofs.YtgenlgfbjlclbaaDoorW.PrintMore
set_option linter.unusedVariables false
set_option linter.unusedSimpArgs false

theorem chain_does {n : Nat} {l : Bool} {S : Stmt} (h : Chain n l S) : S.does = 4 := by cases n <;> exact h.1
theorem chain_thens {n : Nat} {l : Bool} {S : Stmt} (h : Chain n l S) : S.thens.length = 1 := by cases n <;> exact h.2.1
theorem chain_es {n : Nat} {l : Bool} {S : Stmt} (h : Chain n l S) : S.es.length = 1 := by cases n <;> exact h.2.2.1
theorem stmt_first {W W' : World} (hb : Below W.heap.size W W') {A : Option Addr} {S : Stmt} {sr : List Stmt} {n : Nat} (h : kStmt.C W A (n + 1) (S :: sr)) (h1 : S.does = 4) (h2 : S.thens.length = 1) (h3 : S.es.length = 1) :
    ∃ ad A4 c4 A5 c5 A6 c6, A = some ad ∧ (W'.cell? ad = some (.int .i64 4) ∧ W'.cell? ⟨ad.block, ad.off + 1, none⟩ = some (.int .i64 S.pos.line) ∧ W'.cell? ⟨ad.block, ad.off + 2, none⟩ = some (.int .i64 S.pos.col) ∧ W'.cell? ⟨ad.block, ad.off + 3, none⟩ = some (.string S.name) ∧ W'.cell? ⟨ad.block, ad.off + 4, none⟩ = some (.slice A4 1 c4) ∧ W'.cell? ⟨ad.block, ad.off + 5, none⟩ = some (.slice A5 1 c5) ∧ W'.cell? ⟨ad.block, ad.off + 6, none⟩ = some (.slice A6 S.elses.length c6)) ∧ kStmt.C W A6 S.elses.length S.elses := by
  obtain ⟨ad, A4, c4, A5, c5, A6, c6, hA, s0, s1, s2, s3, s4, s5, s6, _, _, _, _, _, hE⟩ := atStmt h 0 (by decide) (by omega)
  have r2 : rdStmt (S :: sr) 0 = S := rfl
  have z2 : ad.add (Int.toNat 0 * 7) = ad := Addr.add_zero' ad
  rw [z2, r2] at s0 s1 s2 s3 s4 s5 s6
  rw [r2] at hE
  rw [h1] at s0
  rw [h3] at s4
  rw [h2] at s5
  exact ⟨ad, A4, c4, A5, c5, A6, c6, hA, ⟨cell_later hb s0, cell_later hb s1, cell_later hb s2, cell_later hb s3, cell_later hb s4, cell_later hb s5, cell_later hb s6⟩, hE⟩
theorem stmt_does {W W' : World} (hb : Below W.heap.size W W') {A : Option Addr} {S : Stmt} {sr : List Stmt} {n : Nat} (h : kStmt.C W A (n + 1) (S :: sr)) : ∃ ad, A = some ad ∧ W'.cell? ad = some (.int .i64 S.does) := by
  obtain ⟨ad, A4, c4, A5, c5, A6, c6, hA, s0, _⟩ := atStmt h 0 (by decide) (by omega)
  have z2 : ad.add (Int.toNat 0 * 7) = ad := Addr.add_zero' ad
  rw [z2] at s0
  exact ⟨ad, hA, cell_later hb s0⟩
theorem prog_body {W : World} {pr : Prog} {A0 A1 : Option Addr} {n0 c0 n1 c1 : Nat} {F : Fun} {fr : List Fun} {S : Stmt} (h : kProg.K W pr [.slice A0 n0 c0, .slice A1 n1 c1]) (hf : pr.funcs = F :: fr) (hb : F.body = [S]) (h1 : S.does = 4) (h2 : S.thens.length = 1) (h3 : S.es.length = 1) :
    ∃ ad1 ad2 d2 A4 c4 A5 c5 A6 c6, A1 = some ad1 ∧ W.cell? ⟨ad1.block, ad1.off + 2, none⟩ = some (.slice (some ad2) 1 d2) ∧ (W.cell? ad2 = some (.int .i64 4) ∧ W.cell? ⟨ad2.block, ad2.off + 1, none⟩ = some (.int .i64 S.pos.line) ∧ W.cell? ⟨ad2.block, ad2.off + 2, none⟩ = some (.int .i64 S.pos.col) ∧ W.cell? ⟨ad2.block, ad2.off + 3, none⟩ = some (.string S.name) ∧ W.cell? ⟨ad2.block, ad2.off + 4, none⟩ = some (.slice A4 1 c4) ∧ W.cell? ⟨ad2.block, ad2.off + 5, none⟩ = some (.slice A5 1 c5) ∧ W.cell? ⟨ad2.block, ad2.off + 6, none⟩ = some (.slice A6 S.elses.length c6)) ∧ kStmt.C W A6 S.elses.length S.elses := by
  obtain ⟨B0, e0, B1, e1, hcs, _, _, hl, hC⟩ := kProg_open h
  simp only [List.cons.injEq, Value.slice.injEq, and_true] at hcs
  obtain ⟨_, rfl, hn1, rfl⟩ := hcs
  have hh : ((0 : Nat) : Int) < (pr.funcs.length : Int) := by rw [hf]; simp
  obtain ⟨ad1, P1, q1, P2, q2, hA, f0, f1, f2, f3, f4, _, _, _, hB⟩ := atFun hC 0 (by decide) hh
  have r1 : rdFun pr.funcs 0 = F := by rw [hf]; rfl
  have z1 : ad1.add (Int.toNat 0 * 5) = ad1 := Addr.add_zero' ad1
  rw [z1, r1, hb] at f2
  rw [r1, hb] at hB
  obtain ⟨ad2, A4, c4, A5, c5, A6, c6, rfl, hs, hE⟩ := stmt_first (Below.refl _ _) hB h1 h2 h3
  exact ⟨ad1, ad2, q2, A4, c4, A5, c5, A6, c6, hA, f2, hs, hE⟩
def chB (j : Nat) : ByteArray := bsOf ([102, 117, 110, 99, 32, 102, 40, 41, 32, 123, 32, 105, 102, 32, 97, 32, 61, 61, 32, 48, 32, 123, 32, 120, 32, 61, 32, 48, 59, 32, 125] ++ rep j [32, 101, 108, 115, 101, 32, 105, 102, 32, 97, 32, 61, 61, 32, 49, 32, 123, 32, 120, 32, 61, 32, 49, 59, 32, 125] [])
theorem ba_ext {a b : ByteArray} (h : a.data.toList = b.data.toList) : a = b := ByteArray.ext (Array.toList_inj.1 h)
theorem ba_app (a b : ByteArray) : (a ++ b).data.toList = a.data.toList ++ b.data.toList := by rw [ByteArray.data_append, Array.toList_append]
theorem chB_more (j : Nat) : chB j ++ ⟨#[32, 101, 108, 115, 101, 32, 105, 102, 32, 97, 32, 61, 61, 32, 49, 32, 123, 32, 120, 32, 61, 32, 49, 59, 32, 125]⟩ = chB (j + 1) := by
  apply ba_ext
  rw [ba_app]
  show ([102, 117, 110, 99, 32, 102, 40, 41, 32, 123, 32, 105, 102, 32, 97, 32, 61, 61, 32, 48, 32, 123, 32, 120, 32, 61, 32, 48, 59, 32, 125] ++ rep j [32, 101, 108, 115, 101, 32, 105, 102, 32, 97, 32, 61, 61, 32, 49, 32, 123, 32, 120, 32, 61, 32, 49, 59, 32, 125] []) ++ [32, 101, 108, 115, 101, 32, 105, 102, 32, 97, 32, 61, 61, 32, 49, 32, 123, 32, 120, 32, 61, 32, 49, 59, 32, 125] = [102, 117, 110, 99, 32, 102, 40, 41, 32, 123, 32, 105, 102, 32, 97, 32, 61, 61, 32, 48, 32, 123, 32, 120, 32, 61, 32, 48, 59, 32, 125] ++ rep (j + 1) [32, 101, 108, 115, 101, 32, 105, 102, 32, 97, 32, 61, 61, 32, 49, 32, 123, 32, 120, 32, 61, 32, 49, 59, 32, 125] []
  rw [List.append_assoc, rep_app, List.nil_append, rep_snoc, List.append_nil]
theorem chB_size (j : Nat) : (chB j).size = 31 + j * 26 := by
  show (([102, 117, 110, 99, 32, 102, 40, 41, 32, 123, 32, 105, 102, 32, 97, 32, 61, 61, 32, 48, 32, 123, 32, 120, 32, 61, 32, 48, 59, 32, 125] : Bytes) ++ rep j ([32, 101, 108, 115, 101, 32, 105, 102, 32, 97, 32, 61, 61, 32, 49, 32, 123, 32, 120, 32, 61, 32, 49, 59, 32, 125] : Bytes) []).toArray.size = _
  rw [List.size_toArray, List.length_append, rep_len]
  rfl
theorem chain_text0 (n : Nat) : (chB n ++ ⟨#[32, 125]⟩ : ByteArray).data.toList = chainT n false := by
  rw [ba_app, chainT]
  show ([102, 117, 110, 99, 32, 102, 40, 41, 32, 123, 32, 105, 102, 32, 97, 32, 61, 61, 32, 48, 32, 123, 32, 120, 32, 61, 32, 48, 59, 32, 125] ++ rep n [32, 101, 108, 115, 101, 32, 105, 102, 32, 97, 32, 61, 61, 32, 49, 32, 123, 32, 120, 32, 61, 32, 49, 59, 32, 125] []) ++ [32, 125] = [102, 117, 110, 99, 32, 102, 40, 41, 32, 123, 32, 105, 102, 32, 97, 32, 61, 61, 32, 48, 32, 123, 32, 120, 32, 61, 32, 48, 59, 32, 125] ++ rep n [32, 101, 108, 115, 101, 32, 105, 102, 32, 97, 32, 61, 61, 32, 49, 32, 123, 32, 120, 32, 61, 32, 49, 59, 32, 125] ([] ++ [32, 125])
  rw [List.append_assoc, rep_app]
theorem chain_text1 (n : Nat) : (chB n ++ ⟨#[32, 101, 108, 115, 101, 32, 123, 32, 120, 32, 61, 32, 50, 59, 32, 125]⟩ ++ ⟨#[32, 125]⟩ : ByteArray).data.toList = chainT n true := by
  rw [ba_app, ba_app, chainT]
  show (([102, 117, 110, 99, 32, 102, 40, 41, 32, 123, 32, 105, 102, 32, 97, 32, 61, 61, 32, 48, 32, 123, 32, 120, 32, 61, 32, 48, 59, 32, 125] ++ rep n [32, 101, 108, 115, 101, 32, 105, 102, 32, 97, 32, 61, 61, 32, 49, 32, 123, 32, 120, 32, 61, 32, 49, 59, 32, 125] []) ++ [32, 101, 108, 115, 101, 32, 123, 32, 120, 32, 61, 32, 50, 59, 32, 125]) ++ [32, 125] = [102, 117, 110, 99, 32, 102, 40, 41, 32, 123, 32, 105, 102, 32, 97, 32, 61, 61, 32, 48, 32, 123, 32, 120, 32, 61, 32, 48, 59, 32, 125] ++ rep n [32, 101, 108, 115, 101, 32, 105, 102, 32, 97, 32, 61, 61, 32, 49, 32, 123, 32, 120, 32, 61, 32, 49, 59, 32, 125] ([32, 101, 108, 115, 101, 32, 123, 32, 120, 32, 61, 32, 50, 59, 32, 125] ++ [32, 125])
  rw [List.append_assoc, List.append_assoc, rep_app, List.nil_append]
set_option maxRecDepth 100000 in
set_option maxHeartbeats 12800000 in
theorem chains_calls {ga : GA} {N : Nat} (n0 : Int) (last : Bool) (w : World) (hG : GP ga N w) :
    Calls Tryd.prog 5 #[.int .i64 n0, .bool last] w fun e w' => e = .returned (.bool true) ∧ Below w.heap.size w w' := by
  have FR := Aside0.mk (Fq.start (w := w) (fun k => w.heap.size ≤ k) (fun _ h => h))
  have C := FR.out.c0
  have hz : zFault.e = 0 ∧ zFault.pos.line = 0 ∧ zFault.pos.col = 0 := ⟨rfl, rfl, rfl⟩
  obtain ⟨n, hn, hn63⟩ := and_pick n0 63 (by decide) (by decide)
  obtain ⟨F, S, hp, hb, hch⟩ := chains_law n last (by omega)
  have HP0 := Lib.hid hp
  have HB := Lib.hid hb
  have HCH := Lib.hid hch
  clear hp hb hch
  go_enter Tryd.func5, Tryd.ntmps5
  go_wp2_with (first | (go_at_call 9; (with_reducible refine (FR.out.bc (head_calls _ (hG.below FR.out.bl))).mono ?_); rintro e AW1 ⟨rfl, f_⟩; replace FR := Aside0.mk f_; replace C := f_.c0; clear f_))
  go_loopg [5, 6] n (fun kq v5 v6 w' => ∃ j : Nat, v6 = .int .i64 ((j : Int) + 1) ∧ v5 = .string (chB j) ∧ kq + j = n ∧ Aside0 (Fq (fun k => w.heap.size ≤ k) w [] [] w'))
  case atStart => exact ⟨0, by rfl, by rfl, by omega, FR⟩
  case round =>
    clear FR C
    obtain ⟨j, rfl, rfl, hj, FR⟩ := hrel
    have C := FR.out.c0
    have hs1 := chB_size j
    cases gk with
    | zero =>
      obtain rfl : j = n := by omega
      have hge : ¬ ((j : Int) + 1 ≤ (j : Int)) := by omega
      cases last with
      | false =>
        have HP := Lib.hid (show parseF 900000 (chB j ++ ⟨#[32, 125]⟩ : ByteArray).data.toList = some (⟨[], [F]⟩, zFault) by rw [chain_text0]; exact HP0.out)
        clear HP0
        obtain ⟨n, rfl⟩ : ∃ n, n = j := ⟨j, rfl⟩
        go_wp2_with (first | (go_at_call 10; (with_reducible refine (FR.out.pc (program_calls 900000 (by decide) _ _ (hG.below FR.out.bl) _ _ HP.out)).mono ?_); rintro e BW1 ⟨A0, c0, A1, c1, ok1, rfl, f_⟩; replace FR := Aside0.mk f_; replace C := f_.c0; clear f_) | ((with_reducible refine gate_dst (N := 7) rfl ?_); refine FR.out.boxE (N := 7) #[.slice none 0 0, .slice none 0 0] 30 (by rfl) (by rfl) ?hr ?_; (case hr => first | (go_simp; done) | (go_simp; rfl)); intro b7 BW2 f_; replace FR := Aside0.mk f_; replace C := f_.c1; clear f_) | ((with_reducible refine gate_dst (N := 8) rfl ?_); refine FR.out.boxE (N := 8) #[.int .i64 0, .int .i64 0, .int .i64 0] 34 (by rfl) (by rfl) ?hr ?_; (case hr => first | (go_simp; done) | (go_simp; rfl)); intro b8 BW3 f_; replace FR := Aside0.mk f_; replace C := f_.c2; clear f_) | ((with_reducible refine gate_store (t := 30) (p := 7) (v := .tmp 29) rfl ?_); refine FR.out.s2 [.slice A0 0 c0, .slice A1 1 c1] (by rfl) (by rfl) ?hr (by rfl) ?_; (case hr => first | (go_simp; done) | (go_simp; rfl)); intro BW4 f_; replace FR := Aside0.mk f_; replace C := f_.c2; clear f_) | ((with_reducible refine gate_store (t := 34) (p := 8) (v := .tmp 30) rfl ?_); refine FR.out.s1 [.int .i64 0, .int .i64 0, .int .i64 0] (by rfl) (by rfl) ?hr (by rfl) ?_; (case hr => first | (go_simp; done) | (go_simp; rfl)); intro BW5 f_; replace FR := Aside0.mk f_; replace C := f_.c2; clear f_; obtain ⟨ad1, ad2, d2, A4, c4, A5, c5, A6, c6, rfl, g1, g2, hEl⟩ := prog_body FR.out.n1 rfl HB.out (chain_does HCH.out) (chain_thens HCH.out) (chain_es HCH.out); have HEL := Lib.hid hEl; clear hEl; have F0 := FR; replace FR := Aside0.mk (Fq.start (w := BW5) (fun k => BW5.heap.size ≤ k) (fun _ h => h))) | ((with_reducible refine gate_dst (N := 9) rfl ?_); refine FR.out.boxE (N := 9) #[.int .i64 0, .int .i64 0, .int .i64 0, .string ⟨#[]⟩, .slice none 0 0, .slice none 0 0, .slice none 0 0] 45 (by rfl) (by rfl) ?hr ?_; (case hr => first | (go_simp; done) | (go_simp; rfl)); intro b9 BW6 f_; replace FR := Aside0.mk f_; replace C := f_.c1; clear f_) | ((with_reducible refine gate_store (t := 45) (p := 9) (v := .tmp 49) rfl ?_); refine FR.out.s1 [.int .i64 4, .int .i64 S.pos.line, .int .i64 S.pos.col, .string S.name, .slice A4 1 c4, .slice A5 1 c5, .slice A6 S.elses.length c6] (by rfl) (by rfl) ?hr (by rfl) ?_; (case hr => first | (go_simp; done) | (go_simp; rfl)); intro BW7 f_; replace FR := Aside0.mk f_; replace C := f_.c1; clear f_))
        go_loopg [10] n (fun kq v10 w' => ∃ (i : Nat) (S : Stmt) (x1 x2 : Int) (x3 : ByteArray) (A4 : Option Addr) (c4 : Nat) (A5 : Option Addr) (c5 : Nat) (A6 : Option Addr) (c6 : Nat), v10 = .int .i64 i ∧ kq + i = n ∧ RowKit.Hid (Chain kq false S) ∧ RowKit.Hid (kStmt.C BW5 A6 S.elses.length S.elses) ∧ Aside0 (Fq (fun k => BW5.heap.size ≤ k) BW5 [⟨b9, #[.int .i64 4, .int .i64 x1, .int .i64 x2, .string x3, .slice A4 1 c4, .slice A5 1 c5, .slice A6 S.elses.length c6], 45⟩] [] w'))
        case atStart => exact ⟨0, S, _, _, _, A4, c4, A5, c5, A6, c6, rfl, by omega, HCH, HEL, FR⟩
        case round =>
          clear FR C g1 g2 HCH HEL HP HB
          obtain ⟨i, S2, x1, x2, x3, A4, c4, A5, c5, A6, c6, rfl, hi, HCH, HEL, FR⟩ := hrel
          have C := FR.out.c1
          cases gk with
          | zero =>
            obtain rfl : i = n := by omega
            obtain ⟨_, _, _, he⟩ := HCH.out
            have he : S2.elses = [] := he
            have hln : S2.elses.length = 0 := by rw [he]; rfl
            rw [hln] at C FR
            clear he hln
            go_wp2
            go_ret
            exact ⟨rfl, (F0.out.below FR.out.bl).bl⟩
          | succ k2_ =>
            have hle : (i : Int) ≤ (n : Int) := by omega
            have hne : ((i : Int) == (n : Int)) = false := beq_eq_false_iff_ne.2 (by omega)
            obtain ⟨_, _, _, T, he, hT⟩ := HCH.out
            have hel := HEL.out
            rw [he] at hel
            have hln : S2.elses.length = 1 := by rw [he]; rfl
            rw [hln] at C FR
            obtain ⟨ad, B4, e4, B5, e5, B6, e6, rfl, gg, hB⟩ := stmt_first FR.out.bl hel (chain_does hT) (chain_thens hT) (chain_es hT)
            have HT := Lib.hid hT
            have HB2 := Lib.hid hB
            clear hel he hT hB hln
            go_wp2_with (first | ((with_reducible refine gate_store (t := 45) (p := 9) (v := .tmp 80) rfl ?_); refine FR.out.s1 [.int .i64 4, .int .i64 T.pos.line, .int .i64 T.pos.col, .string T.name, .slice B4 1 e4, .slice B5 1 e5, .slice B6 T.elses.length e6] (by rfl) (by rfl) ?hr (by rfl) ?_; (case hr => first | (go_simp; done) | (go_simp; rfl)); intro BqW1 f_; replace FR := Aside0.mk f_; replace C := f_.c1; clear f_))
            go_roundg k2_
            case measure => omega
            case rel => exact ⟨i + 1, T, _, _, _, B4, e4, B5, e5, B6, e6, by rfl, by omega, HT, HB2, FR⟩

      | true =>
        have HP := Lib.hid (show parseF 900000 (chB j ++ ⟨#[32, 101, 108, 115, 101, 32, 123, 32, 120, 32, 61, 32, 50, 59, 32, 125]⟩ ++ ⟨#[32, 125]⟩ : ByteArray).data.toList = some (⟨[], [F]⟩, zFault) by rw [chain_text1]; exact HP0.out)
        clear HP0
        obtain ⟨n, rfl⟩ : ∃ n, n = j := ⟨j, rfl⟩
        go_wp2_with (first | (go_at_call 10; (with_reducible refine (FR.out.pc (program_calls 900000 (by decide) _ _ (hG.below FR.out.bl) _ _ HP.out)).mono ?_); rintro e DW1 ⟨A0, c0, A1, c1, ok1, rfl, f_⟩; replace FR := Aside0.mk f_; replace C := f_.c0; clear f_) | ((with_reducible refine gate_dst (N := 7) rfl ?_); refine FR.out.boxE (N := 7) #[.slice none 0 0, .slice none 0 0] 30 (by rfl) (by rfl) ?hr ?_; (case hr => first | (go_simp; done) | (go_simp; rfl)); intro b7 DW2 f_; replace FR := Aside0.mk f_; replace C := f_.c1; clear f_) | ((with_reducible refine gate_dst (N := 8) rfl ?_); refine FR.out.boxE (N := 8) #[.int .i64 0, .int .i64 0, .int .i64 0] 34 (by rfl) (by rfl) ?hr ?_; (case hr => first | (go_simp; done) | (go_simp; rfl)); intro b8 DW3 f_; replace FR := Aside0.mk f_; replace C := f_.c2; clear f_) | ((with_reducible refine gate_store (t := 30) (p := 7) (v := .tmp 29) rfl ?_); refine FR.out.s2 [.slice A0 0 c0, .slice A1 1 c1] (by rfl) (by rfl) ?hr (by rfl) ?_; (case hr => first | (go_simp; done) | (go_simp; rfl)); intro DW4 f_; replace FR := Aside0.mk f_; replace C := f_.c2; clear f_) | ((with_reducible refine gate_store (t := 34) (p := 8) (v := .tmp 30) rfl ?_); refine FR.out.s1 [.int .i64 0, .int .i64 0, .int .i64 0] (by rfl) (by rfl) ?hr (by rfl) ?_; (case hr => first | (go_simp; done) | (go_simp; rfl)); intro DW5 f_; replace FR := Aside0.mk f_; replace C := f_.c2; clear f_; obtain ⟨ad1, ad2, d2, A4, c4, A5, c5, A6, c6, rfl, g1, g2, hEl⟩ := prog_body FR.out.n1 rfl HB.out (chain_does HCH.out) (chain_thens HCH.out) (chain_es HCH.out); have HEL := Lib.hid hEl; clear hEl; have F0 := FR; replace FR := Aside0.mk (Fq.start (w := DW5) (fun k => DW5.heap.size ≤ k) (fun _ h => h))) | ((with_reducible refine gate_dst (N := 9) rfl ?_); refine FR.out.boxE (N := 9) #[.int .i64 0, .int .i64 0, .int .i64 0, .string ⟨#[]⟩, .slice none 0 0, .slice none 0 0, .slice none 0 0] 45 (by rfl) (by rfl) ?hr ?_; (case hr => first | (go_simp; done) | (go_simp; rfl)); intro b9 DW6 f_; replace FR := Aside0.mk f_; replace C := f_.c1; clear f_) | ((with_reducible refine gate_store (t := 45) (p := 9) (v := .tmp 49) rfl ?_); refine FR.out.s1 [.int .i64 4, .int .i64 S.pos.line, .int .i64 S.pos.col, .string S.name, .slice A4 1 c4, .slice A5 1 c5, .slice A6 S.elses.length c6] (by rfl) (by rfl) ?hr (by rfl) ?_; (case hr => first | (go_simp; done) | (go_simp; rfl)); intro DW7 f_; replace FR := Aside0.mk f_; replace C := f_.c1; clear f_))
        go_loopg [10] n (fun kq v10 w' => ∃ (i : Nat) (S : Stmt) (x1 x2 : Int) (x3 : ByteArray) (A4 : Option Addr) (c4 : Nat) (A5 : Option Addr) (c5 : Nat) (A6 : Option Addr) (c6 : Nat), v10 = .int .i64 i ∧ kq + i = n ∧ RowKit.Hid (Chain kq true S) ∧ RowKit.Hid (kStmt.C DW5 A6 S.elses.length S.elses) ∧ Aside0 (Fq (fun k => DW5.heap.size ≤ k) DW5 [⟨b9, #[.int .i64 4, .int .i64 x1, .int .i64 x2, .string x3, .slice A4 1 c4, .slice A5 1 c5, .slice A6 S.elses.length c6], 45⟩] [] w'))
        case atStart => exact ⟨0, S, _, _, _, A4, c4, A5, c5, A6, c6, rfl, by omega, HCH, HEL, FR⟩
        case round =>
          clear FR C g1 g2 HCH HEL HP HB
          obtain ⟨i, S2, x1, x2, x3, A4, c4, A5, c5, A6, c6, rfl, hi, HCH, HEL, FR⟩ := hrel
          have C := FR.out.c1
          cases gk with
          | zero =>
            obtain rfl : i = n := by omega
            obtain ⟨_, _, _, he⟩ := HCH.out
            obtain ⟨T, he, hT2⟩ : ∃ T, S2.elses = [T] ∧ T.does = 2 := he
            have hel := HEL.out
            rw [he] at hel
            have hln : S2.elses.length = 1 := by rw [he]; rfl
            rw [hln] at C FR
            obtain ⟨ad, rfl, gg⟩ := stmt_does FR.out.bl hel
            rw [hT2] at gg
            clear hel he hln
            go_wp2
            go_ret
            exact ⟨rfl, (F0.out.below FR.out.bl).bl⟩
          | succ k2_ =>
            have hle : (i : Int) ≤ (n : Int) := by omega
            have hne : ((i : Int) == (n : Int)) = false := beq_eq_false_iff_ne.2 (by omega)
            obtain ⟨_, _, _, T, he, hT⟩ := HCH.out
            have hel := HEL.out
            rw [he] at hel
            have hln : S2.elses.length = 1 := by rw [he]; rfl
            rw [hln] at C FR
            obtain ⟨ad, B4, e4, B5, e5, B6, e6, rfl, gg, hB⟩ := stmt_first FR.out.bl hel (chain_does hT) (chain_thens hT) (chain_es hT)
            have HT := Lib.hid hT
            have HB2 := Lib.hid hB
            clear hel he hT hB hln
            go_wp2_with (first | ((with_reducible refine gate_store (t := 45) (p := 9) (v := .tmp 80) rfl ?_); refine FR.out.s1 [.int .i64 4, .int .i64 T.pos.line, .int .i64 T.pos.col, .string T.name, .slice B4 1 e4, .slice B5 1 e5, .slice B6 T.elses.length e6] (by rfl) (by rfl) ?hr (by rfl) ?_; (case hr => first | (go_simp; done) | (go_simp; rfl)); intro DqW1 f_; replace FR := Aside0.mk f_; replace C := f_.c1; clear f_))
            go_roundg k2_
            case measure => omega
            case rel => exact ⟨i + 1, T, _, _, _, B4, e4, B5, e5, B6, e6, by rfl, by omega, HT, HB2, FR⟩

    | succ k1_ =>
      have hlt : (j : Int) + 1 ≤ (n : Int) := by omega
      have hbm := chB_more j
      go_wp2
      go_roundg k1_
      case measure => omega
      case rel => exact ⟨j + 1, by rfl, rfl, by omega, FR⟩
end Go.Proofs.YtgenlgfbjlclbaaDoor
