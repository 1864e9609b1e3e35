/- ParseArgs: what it computes. -/
import Derived.Test.YtgenlgfbjlclbaaDoorLawKit
import Derived.Test.YtgenlgfbjlclbaaDoorArgsLaw
namespace Go.Proofs.YtgenlgfbjlclbaaDoor
open Go.RowKit Go.Proofs.YtgenlgfbjlclbaaDoorW.PrintWords Go.Proofs.YtgenlgfbjlclbaaDoorW.PrintLast Go.Proofs.YtgenlgfbjlclbaaDoorW.PrintMore
set_option linter.unusedVariables false
set_option linter.unusedSimpArgs false

def nmU (k : Nat) : UInt8 := UInt8.ofNat (97 + k)
def nmS (i : Int) : ByteArray := ⟨#[110, nmL i]⟩
theorem byte_cell {w : World} {g : Nat} {x : Int} (h : (Kd.int .u8).C w (some ⟨g, 0, none⟩) 1 [x]) : w.cell? ⟨g, 0, none⟩ = some (.int .u8 x) := by
  obtain ⟨ad, c, e, _, hK, hc⟩ := Kd.C_get h 0 0 (by decide) (by decide)
  injection e with e
  subst e
  obtain rfl := hK
  exact hc 0 _ rfl
theorem name_conv {w : World} {g : Nat} {k : Nat} (h : (Kd.int .u8).C w (some ⟨g, 0, none⟩) 1 [((97 + k : Nat) : Int)]) : (convert 79 9 (.slice (some ⟨g, 0, none⟩) 1 1)).run Tryd.prog w = .ok (.string ⟨#[nmU k]⟩) w := by
  have hc := byte_cell h
  exact run_convert_bytes_arg w 79 5 Tryd.underlying79 Tryd.underlying5 g 0 1 1 [((97 + k : Nat) : Int)] rfl (fun i hi => by
    obtain rfl : i = 0 := by omega
    exact hc) 9 Tryd.underlying9
set_option maxRecDepth 100000 in
theorem nm_calls (i : Int) (w : World) : Calls Tryd.prog 11 #[.int .i64 i] w fun e w' => e = .returned (.string (nmS i)) ∧ Below w.heap.size w w' := by
  obtain ⟨hk, hk7⟩ := and_seven i
  have hnm : nmS i = ⟨#[110, nmU (bits BinOp.and IntKind.i64 i 7).toNat]⟩ := rfl
  generalize (bits BinOp.and IntKind.i64 i 7).toNat = k at hk hk7 hnm
  have hu1 : IntKind.u8.wrap (k : Int) = (k : Int) := by rw [IntKind.wrap_u8]; omega
  have hu2 : IntKind.u8.wrap (97 + (k : Int)) = ((97 + k : Nat) : Int) := by rw [IntKind.wrap_u8]; omega
  have HNM := Lib.hid hnm
  clear hnm
  go_enter Tryd.func11, Tryd.ntmps11
  go_wp2_with (first | ((with_reducible refine gate_dst (N := 7) rfl ?_); refine lit1_event ?hg (N := 7) ?hd (Kd.int .u8) 5 ((97 + k : Nat) : Int) [.int .u8 ((97 + k : Nat) : Int)] ?hK ?hr ?_; (case hd => rfl); (case hg => rfl); (case hK => exact rfl); (case hr => first | (go_simp; done) | (go_simp; rfl)); intro g1 AW hc_ hb_; have hconv := name_conv hc_; have HB := Lib.hid hb_; clear hb_ hc_))
  go_ret
  rw [HNM.out]
  exact ⟨rfl, HB.out⟩
theorem prog_args {W : World} {pr : Prog} {A0 A1 : Option Addr} {n0 c0 n1 c1 : Nat} {F : Fun} {fr : List Fun} {S : Stmt} {E : Expr} (h : kProg.K W pr [.slice A0 n0 c0, .slice A1 n1 c1]) (hf : pr.funcs = F :: fr) (hb : F.body = [S]) (he : S.es = [E]) :
    ∃ ad1 ad2 ad3 d1 d2 d3 P1 A6 c6, A1 = some ad1 ∧ W.cell? ⟨ad1.block, ad1.off + 1, none⟩ = some (.slice P1 F.params.length d1) ∧ W.cell? ⟨ad1.block, ad1.off + 2, none⟩ = some (.slice (some ad2) 1 d2) ∧ W.cell? ⟨ad2.block, ad2.off + 4, none⟩ = some (.slice (some ad3) 1 d3) ∧ W.cell? ⟨ad3.block, ad3.off + 6, none⟩ = some (.slice A6 E.kids.length c6) := by
  obtain ⟨ad1, ad2, ad3, d2, d3, A6, c6, hA, h1, h2, h3, _⟩ := prog_first h hf hb he
  rw [hb] at h1
  rw [he] at h2
  obtain ⟨B0, e0, B1, e1, hcs, _, _, hl, hC⟩ := kProg_open h
  simp only [List.cons.injEq, Value.slice.injEq, and_true] at hcs
  obtain ⟨_, rfl, hn1, rfl⟩ := hcs
  have hh : ((0 : Nat) : Int) < (pr.funcs.length : Int) := by rw [hf]; simp
  obtain ⟨ad, P1, q1, P2, q2, hA', f0, f1, _⟩ := atFun hC 0 (by decide) hh
  rw [hA] at hA'
  obtain rfl := Option.some.inj hA'
  have r1 : rdFun pr.funcs 0 = F := by rw [hf]; rfl
  have z1 : ad1.add (Int.toNat 0 * 5) = ad1 := Addr.add_zero' ad1
  rw [z1, r1] at f1
  exact ⟨ad1, ad2, ad3, q1, d2, d3, P1, A6, c6, hA, f1, h1, h2, h3.2.2.2.2.2.2⟩
theorem ba_ext {a b : ByteArray} (h : a.data.toList = b.data.toList) : a = b := ByteArray.ext (Array.toList_inj.1 h)
theorem ba_app (a b : ByteArray) : (a ++ b).data.toList = a.data.toList ++ b.data.toList := by rw [ByteArray.data_append, Array.toList_append]
theorem nmS_list (j : Nat) : (nmS j).data.toList = nmB j := rfl
theorem as_more0 : bsOf (asB 0) ++ ⟨#[49]⟩ = bsOf (asB 1) := rfl
theorem as_more (j : Nat) (hj : j ≠ 0) : bsOf (asB j) ++ ⟨#[44]⟩ ++ ⟨#[49]⟩ = bsOf (asB (j + 1)) := by
  apply ba_ext
  rw [ba_app, ba_app, bsOf_list, bsOf_list, asB, asB, sepF_snoc, if_neg (by omega), List.append_assoc]
theorem ps_more0 (i : Int) (hi : i = 0) : bsOf (psB 0) ++ nmS i = bsOf (psB 1) := by subst hi; rfl
theorem ps_more (j : Nat) (hj : j ≠ 0) : bsOf (psB j) ++ ⟨#[44, 32]⟩ ++ nmS j = bsOf (psB (j + 1)) := by
  apply ba_ext
  rw [ba_app, ba_app, bsOf_list, bsOf_list, nmS_list, psB, psB, sepF_snoc, if_neg (by omega), List.append_assoc, Nat.zero_add]
theorem gs_more (j : Nat) : bsOf (gsB j) ++ ⟨#[118, 97, 114, 32]⟩ ++ nmS j ++ ⟨#[91, 55, 93, 59]⟩ = bsOf (gsB (j + 1)) := by
  apply ba_ext
  rw [ba_app, ba_app, ba_app, bsOf_list, bsOf_list, nmS_list, gsB, gsB, sepF_snoc, ite_self, List.nil_append, List.append_assoc, List.append_assoc, Nat.zero_add]
  rfl
theorem args_text (n m : Nat) : (bsOf (gsB m) ++ ⟨#[102, 117, 110, 99, 32, 102, 40]⟩ ++ bsOf (psB m) ++ ⟨#[41, 32, 123, 32, 103, 40]⟩ ++ bsOf (asB n) ++ ⟨#[41, 59, 32, 125]⟩ : ByteArray).data.toList = argsT n m := by
  rw [ba_app, ba_app, ba_app, ba_app, ba_app, bsOf_list, bsOf_list, bsOf_list, argsT]
  simp only [List.append_assoc]
theorem as_size (j : Nat) (hj : j ≤ 32) : (bsOf (asB j)).size ≤ 64 := by
  have h3 := sepF_len ([44] : Bytes) (fun _ => [49]) 1 1 (Nat.le_refl _) (fun _ => Nat.le_refl _) j 0
  show (asB j).toArray.size ≤ 64
  rw [List.size_toArray]
  unfold asB
  omega
theorem ps_size (j : Nat) (hj : j ≤ 32) : (bsOf (psB j)).size ≤ 128 := by
  have h3 := sepF_len ([44, 32] : Bytes) nmB 2 2 (Nat.le_refl _) (fun _ => Nat.le_refl _) j 0
  show (psB j).toArray.size ≤ 128
  rw [List.size_toArray]
  unfold psB
  omega
theorem gs_size (j : Nat) (hj : j ≤ 32) : (bsOf (gsB j)).size ≤ 320 := by
  have h3 := sepF_len ([] : Bytes) gB 0 10 (Nat.le_refl _) (fun _ => Nat.le_refl _) j 0
  show (gsB j).toArray.size ≤ 320
  rw [List.size_toArray]
  unfold gsB
  omega
theorem nm_size (i : Int) : (nmS i).size = 2 := rfl
set_option maxRecDepth 100000 in
set_option maxHeartbeats 12800000 in
theorem args_calls {ga : GA} {N : Nat} (n0 m0 : Int) (w : World) (hG : GP ga N w) :
    Calls Tryd.prog 6 #[.int .i64 n0, .int .i64 m0] w fun e w' => e = .returned (.bool true) ∧ Below w.heap.size w w' := by
  have FR := Aside0.mk (Fq.start (w := w) (fun k => w.heap.size ≤ k) (fun _ h => h))
  have C := FR.out.c0
  have hz : zFault.e = 0 ∧ zFault.pos.line = 0 ∧ zFault.pos.col = 0 := ⟨rfl, rfl, rfl⟩
  obtain ⟨n, hn, hn31⟩ := and_pick n0 31 (by decide) (by decide)
  obtain ⟨m, hm, hm31⟩ := and_pick m0 31 (by decide) (by decide)
  obtain ⟨gs, F, S, E, hp, hgs, hpm, hb, he, hk⟩ := args_law n m (by omega) (by omega)
  have HP0 := Lib.hid hp
  have HPM := Lib.hid hpm
  have HB := Lib.hid hb
  have HE := Lib.hid he
  have HK := Lib.hid hk
  clear hp hb he hk hpm
  go_enter Tryd.func6, Tryd.ntmps6
  go_wp2_with (first | (go_at_call 9; (with_reducible refine (FR.out.bc (head_calls _ (hG.below FR.out.bl))).mono ?_); rintro e AW1 ⟨rfl, f_⟩; replace FR := Aside0.mk f_; replace C := f_.c0; clear f_))
  go_loopg [5, 6] n (fun kq v5 v6 w' => ∃ j : Nat, v6 = .int .i64 (j : Int) ∧ v5 = .string (bsOf (asB j)) ∧ kq + j = n ∧ Aside0 (Fq (fun k => w.heap.size ≤ k) w [] [] w'))
  case atStart => exact ⟨0, by rfl, by rfl, by omega, FR⟩
  case round =>
    clear FR C
    obtain ⟨j, rfl, rfl, hj, FR⟩ := hrel
    have C := FR.out.c0
    have hs1 := as_size j (by omega)
    cases gk with
    | zero =>
      obtain rfl : j = n := by omega
      obtain ⟨n, rfl⟩ : ∃ n, n = j := ⟨j, rfl⟩
      have hge : ¬ ((n : Int) < (n : Int)) := by omega
      go_wp2
      go_loopg [7, 8, 9] m (fun kq v7 v8 v9 w' => ∃ j : Nat, v9 = .int .i64 (j : Int) ∧ v7 = .string (bsOf (psB j)) ∧ v8 = .string (bsOf (gsB j)) ∧ kq + j = m ∧ Aside0 (Fq (fun k => w.heap.size ≤ k) w [] [] w'))
      case atStart => exact ⟨0, by rfl, by rfl, by rfl, by omega, FR⟩
      case round =>
        clear FR C
        obtain ⟨j, rfl, rfl, rfl, hj, FR⟩ := hrel
        have C := FR.out.c0
        have hs2 := ps_size j (by omega)
        have hs3 := gs_size j (by omega)
        have hs4 := nm_size j
        cases gk with
        | zero =>
          obtain rfl : j = m := by omega
          obtain ⟨m, rfl⟩ : ∃ m, m = j := ⟨j, rfl⟩
          have hge : ¬ ((m : Int) < (m : Int)) := by omega
          have HP := Lib.hid (show parseF 900000 (bsOf (gsB m) ++ ⟨#[102, 117, 110, 99, 32, 102, 40]⟩ ++ bsOf (psB m) ++ ⟨#[41, 32, 123, 32, 103, 40]⟩ ++ bsOf (asB n) ++ ⟨#[41, 59, 32, 125]⟩ : ByteArray).data.toList = some (⟨gs, [F]⟩, zFault) by rw [args_text]; exact HP0.out)
          clear HP0
          go_wp2_with (first | (go_at_call 10; (with_reducible refine (FR.out.pc (program_calls 900000 (by decide) _ _ (hG.below FR.out.bl) _ _ HP.out)).mono ?_); rintro e BW1 ⟨A0, c0, A1, c1, ok1, rfl, f_⟩; replace FR := Aside0.mk f_; replace C := f_.c0; clear f_) | ((with_reducible refine gate_dst (N := 10) rfl ?_); refine FR.out.boxE (N := 10) #[.slice none 0 0, .slice none 0 0] 30 (by rfl) (by rfl) ?hr ?_; (case hr => first | (go_simp; done) | (go_simp; rfl)); intro b10 BW2 f_; replace FR := Aside0.mk f_; replace C := f_.c1; clear f_) | ((with_reducible refine gate_dst (N := 11) rfl ?_); refine FR.out.boxE (N := 11) #[.int .i64 0, .int .i64 0, .int .i64 0] 34 (by rfl) (by rfl) ?hr ?_; (case hr => first | (go_simp; done) | (go_simp; rfl)); intro b11 BW3 f_; replace FR := Aside0.mk f_; replace C := f_.c2; clear f_) | ((with_reducible refine gate_store (t := 30) (p := 10) (v := .tmp 58) rfl ?_); refine FR.out.s2 [.slice A0 m c0, .slice A1 1 c1] (by rfl) (by rfl) ?hr (by rfl) ?_; (case hr => first | (go_simp; done) | (go_simp; rfl)); intro BW4 f_; replace FR := Aside0.mk f_; replace C := f_.c2; clear f_) | ((with_reducible refine gate_store (t := 34) (p := 11) (v := .tmp 59) rfl ?_); refine FR.out.s1 [.int .i64 0, .int .i64 0, .int .i64 0] (by rfl) (by rfl) ?hr (by rfl) ?_; (case hr => first | (go_simp; done) | (go_simp; rfl)); intro BW5 f_; replace FR := Aside0.mk f_; replace C := f_.c2; clear f_; obtain ⟨ad1, ad2, ad3, d1, d2, d3, P1, A6, c6, rfl, g0, g1, g2, g3⟩ := prog_args FR.out.n1 rfl HB.out HE.out; rw [HK.out] at g3; rw [HPM.out] at g0))
          go_ret
          exact ⟨rfl, FR.out.bl⟩
        | succ k2_ =>
          have hlt : (j : Int) < (m : Int) := by omega
          have hm3 := gs_more j
          by_cases h0 : j = 0
          · subst h0
            have hng : ¬ ((0 : Int) < ((0 : Nat) : Int)) := by decide
            have hm1 := ps_more0 ((0 : Nat) : Int) rfl
            go_wp2_with (first | (go_at_call 11; (with_reducible refine (FR.out.bc (nm_calls _ _)).mono ?_); rintro e RW1 ⟨rfl, f_⟩; replace FR := Aside0.mk f_; replace C := f_.c0; clear f_) | (go_at_call 11; (with_reducible refine (FR.out.bc (nm_calls _ _)).mono ?_); rintro e RW2 ⟨rfl, f_⟩; replace FR := Aside0.mk f_; replace C := f_.c0; clear f_))
            go_roundg k2_
            case measure => omega
            case rel => exact ⟨1, by rfl, rfl, rfl, by omega, FR⟩
          · have hng : (0 : Int) < (j : Int) := by omega
            have hm1 := ps_more j h0
            go_wp2_with (first | (go_at_call 11; (with_reducible refine (FR.out.bc (nm_calls _ _)).mono ?_); rintro e RW1 ⟨rfl, f_⟩; replace FR := Aside0.mk f_; replace C := f_.c0; clear f_) | (go_at_call 11; (with_reducible refine (FR.out.bc (nm_calls _ _)).mono ?_); rintro e RW2 ⟨rfl, f_⟩; replace FR := Aside0.mk f_; replace C := f_.c0; clear f_))
            go_roundg k2_
            case measure => omega
            case rel => exact ⟨j + 1, by rfl, rfl, rfl, by omega, FR⟩
    | succ k1_ =>
      have hlt : (j : Int) < (n : Int) := by omega
      by_cases h0 : j = 0
      · subst h0
        have hng : ¬ ((0 : Int) < ((0 : Nat) : Int)) := by decide
        have hm1 := as_more0
        go_wp2
        go_roundg k1_
        case measure => omega
        case rel => exact ⟨1, by rfl, rfl, by omega, FR⟩
      · have hng : (0 : Int) < (j : Int) := by omega
        have hm1 := as_more j h0
        go_wp2
        go_roundg k1_
        case measure => omega
        case rel => exact ⟨j + 1, by rfl, rfl, by omega, FR⟩
end Go.Proofs.YtgenlgfbjlclbaaDoor
