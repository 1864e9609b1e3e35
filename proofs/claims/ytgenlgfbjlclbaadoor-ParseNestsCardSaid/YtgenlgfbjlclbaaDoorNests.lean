/- ParseNests: what it computes. -/
import Derived.Test.YtgenlgfbjlclbaaDoorLawKit
import Derived.Test.YtgenlgfbjlclbaaDoorNestsLaw
namespace Go.Proofs.YtgenlgfbjlclbaaDoor
open Go.RowKit Go.Proofs.YtgenlgfbjlclbaaDoorW.PrintWords Go.Proofs.YtgenlgfbjlclbaaDoorW.PrintLast Go.Proofs.YtgenlgfbjlclbaaDoorW.PrintMore
set_option linter.unusedVariables false
set_option linter.unusedSimpArgs false

def openL : List Bytes := [[40], [45], [33], [105, 102, 32, 97, 32, 123], [119, 104, 105, 108, 101, 32, 97, 32, 123]]
def shutL : List Bytes := [[41], [], [], [125], [125]]
def repB (j : Nat) (o : Bytes) : ByteArray := bsOf (rep j o [])
theorem ba_ext {a b : ByteArray} (h : a.data.toList = b.data.toList) : a = b := ByteArray.ext (Array.toList_inj.1 h)
theorem ba_app (a b : ByteArray) : (a ++ b).data.toList = a.data.toList ++ b.data.toList := by rw [ByteArray.data_append, Array.toList_append]
theorem repB_more (j : Nat) (o : Bytes) : repB j o ++ bsOf o = repB (j + 1) o := by
  apply ba_ext
  rw [ba_app]
  show rep j o [] ++ o = rep (j + 1) o []
  rw [rep_app, List.nil_append, rep_snoc, List.append_nil]
theorem repB_size (j : Nat) (o : Bytes) : (repB j o).size = j * o.length := by
  show (rep j o []).toArray.size = _
  rw [List.size_toArray, rep_len]
  simp
theorem nest_ret (k n : Nat) (hk : k < 3) : (⟨#[102, 117, 110, 99, 32, 102, 40, 41, 32, 123, 32, 114, 101, 116, 117, 114, 110, 32]⟩ ++ repB n (openB k) ++ ⟨#[49]⟩ ++ repB n (shutB k) ++ ⟨#[59, 32, 125]⟩ : ByteArray).data.toList = nestT k n := by
  rw [ba_app, ba_app, ba_app, ba_app, nestT, if_pos hk]
  show ((([102, 117, 110, 99, 32, 102, 40, 41, 32, 123, 32, 114, 101, 116, 117, 114, 110, 32] ++ rep n (openB k) []) ++ [49]) ++ rep n (shutB k) []) ++ [59, 32, 125] = _
  simp only [List.append_assoc, rep_app, List.nil_append, List.cons_append]
theorem nest_blk (k n : Nat) (hk : ¬ k < 3) : (⟨#[102, 117, 110, 99, 32, 102, 40, 41, 32, 123, 32]⟩ ++ repB n (openB k) ++ repB n (shutB k) ++ ⟨#[32, 125]⟩ : ByteArray).data.toList = nestT k n := by
  rw [ba_app, ba_app, ba_app, nestT, if_neg hk]
  show (([102, 117, 110, 99, 32, 102, 40, 41, 32, 123, 32] ++ rep n (openB k) []) ++ rep n (shutB k) []) ++ [32, 125] = _
  simp only [List.append_assoc, rep_app, List.nil_append, List.cons_append]
set_option maxRecDepth 100000 in
set_option maxHeartbeats 12800000 in
theorem nests_calls {ga : GA} {N : Nat} (kind n0 : Int) (w : World) (hG : GP ga N w) :
    Calls Tryd.prog 4 #[.int .i64 kind, .int .i64 n0] w fun e w' => e = .returned (.bool true) ∧ Below w.heap.size w w' := by
  have FR := Aside0.mk (Fq.start (w := w) (fun k => w.heap.size ≤ k) (fun _ h => h))
  have C := FR.out.c0
  have hz : zFault.e = 0 ∧ zFault.pos.line = 0 ∧ zFault.pos.col = 0 := ⟨rfl, rfl, rfl⟩
  obtain ⟨k, hk, hk5⟩ := u64_pick kind 5 (by decide) (by decide)
  obtain ⟨n, hn, hn255⟩ := and_pick n0 255 (by decide) (by decide)
  have hlaw := nests_law k n (by omega) (by omega)
  have HLAW := Lib.hid hlaw
  obtain ⟨O, hO⟩ : ∃ O, O = rdS (strs openL) k := ⟨_, rfl⟩
  obtain ⟨S, hS⟩ : ∃ S, S = rdS (strs shutL) k := ⟨_, rfl⟩
  have hO2 : O = bsOf (openB k) := by rw [hO, rdS_strs openL k (by show k < 5; omega)]; rfl
  have hS2 : S = bsOf (shutB k) := by rw [hS, rdS_strs shutL k (by show k < 5; omega)]; rfl
  have hl1 : (openB k).length ≤ 9 := by
    have : ∀ k, k < 5 → (openB k).length ≤ 9 := by decide
    exact this k (by omega)
  have hl2 : (shutB k).length ≤ 1 := by
    have : ∀ k, k < 5 → (shutB k).length ≤ 1 := by decide
    exact this k (by omega)
  have hos : O.size ≤ 9 := by rw [hO2]; show (openB k).toArray.size ≤ 9; rw [List.size_toArray]; exact hl1
  have hss : S.size ≤ 1 := by rw [hS2]; show (shutB k).toArray.size ≤ 1; rw [List.size_toArray]; exact hl2
  have HO := Lib.hid hO
  have HS := Lib.hid hS
  have HO2 := Lib.hid hO2
  have HS2 := Lib.hid hS2
  have HL1 := Lib.hid hl1
  have HL2 := Lib.hid hl2
  have hk0 : (0 : Int) ≤ (k : Int) := by omega
  clear hlaw hO hS hO2 hS2 hl1 hl2
  go_enter Tryd.func4, Tryd.ntmps4
  go_wp2_with (first | (go_at_call 9; (with_reducible refine (FR.out.bc (head_calls _ (hG.below FR.out.bl))).mono ?_); rintro e AW1 ⟨rfl, f_⟩; replace FR := Aside0.mk f_; replace C := f_.c0; clear f_) | ((with_reducible refine gate_dst (N := 19) rfl ?_); refine FR.out.lit0E Kd.string 9 (N := 19) (strs openL) 5 (by rfl) [.string ⟨#[40]⟩, .string ⟨#[45]⟩, .string ⟨#[33]⟩, .string ⟨#[105, 102, 32, 97, 32, 123]⟩, .string ⟨#[119, 104, 105, 108, 101, 32, 97, 32, 123]⟩] (by rfl) (by rfl) ?hr ?hp (by decide) ?_; (case hr => first | (go_simp; done) | (go_simp; rfl)); (case hp => exact reps_flat (fun x => [Value.string x]) (fun _ _ _ => rfl) (fun _ => rfl) (strs openL)); intro Ao cAo AW2 okAo f_; replace FR := Aside0.mk f_; replace C := f_.c0; clear f_) | ((with_reducible refine gate_dst (N := 20) rfl ?_); refine FR.out.lit0E Kd.string 9 (N := 20) (strs shutL) 5 (by rfl) [.string ⟨#[41]⟩, .string ⟨#[]⟩, .string ⟨#[]⟩, .string ⟨#[125]⟩, .string ⟨#[125]⟩] (by rfl) (by rfl) ?hr ?hp (by decide) ?_; (case hr => first | (go_simp; done) | (go_simp; rfl)); (case hp => exact reps_flat (fun x => [Value.string x]) (fun _ _ _ => rfl) (fun _ => rfl) (strs shutL)); intro As cAs AW3 okAs f_; replace FR := Aside0.mk f_; replace C := f_.c0; clear f_))
  go_loopg [8, 9, 10] n (fun kq v8 v9 v10 w' => ∃ j : Nat, v10 = .int .i64 j ∧ v8 = .string (repB j (openB k)) ∧ v9 = .string (repB j (shutB k)) ∧ kq + j = n ∧ Aside0 (Fq (fun k => w.heap.size ≤ k) w [] [⟨okAs, fun W => 5 ≤ cAs ∧ Kd.string.C W As 5 (strs shutL)⟩, ⟨okAo, fun W => 5 ≤ cAo ∧ Kd.string.C W Ao 5 (strs openL)⟩] w'))
  case atStart => exact ⟨0, rfl, rfl, rfl, by omega, FR⟩
  case round =>
    clear FR C
    obtain ⟨j, rfl, rfl, rfl, hj, FR⟩ := hrel
    have C := FR.out.c0
    have hs1 : (repB j (openB k)).size ≤ 2304 := by
      rw [repB_size]
      have := Nat.mul_le_mul (show j ≤ 256 by omega) HL1.out
      omega
    have hs2 : (repB j (shutB k)).size ≤ 256 := by
      rw [repB_size]
      have := Nat.mul_le_mul (show j ≤ 256 by omega) HL2.out
      omega
    cases gk with
    | zero =>
      obtain rfl : j = n := by omega
      have hge : ¬ ((j : Int) < (j : Int)) := by omega
      by_cases hk3 : k < 3
      · have kk : decide ((3 : Int) ≤ (k : Int)) = false := decide_eq_false (by omega)
        have hl := HLAW.out
        rw [if_pos hk3] at hl
        by_cases hd : 2 + j ≤ 200
        · obtain ⟨F, hp⟩ := hl.1 hd
          have kd : decide ((200 : Int) < 2 + (j : Int)) = false := decide_eq_false (by omega)
          have HP := Lib.hid (show parseF 900000 (⟨#[102, 117, 110, 99, 32, 102, 40, 41, 32, 123, 32, 114, 101, 116, 117, 114, 110, 32]⟩ ++ repB j (openB k) ++ ⟨#[49]⟩ ++ repB j (shutB k) ++ ⟨#[59, 32, 125]⟩ : ByteArray).data.toList = some (⟨[], [F]⟩, zFault) by rw [nest_ret k j hk3]; exact hp)
          clear hl hp hd hk3
          go_wp2_with (first | (go_at_call 10; (with_reducible refine (FR.out.pc (program_calls 900000 (by decide) _ _ (hG.below FR.out.bl) _ _ HP.out)).mono ?_); rintro e BW1 ⟨A0, c0, A1, c1, ok1, rfl, f_⟩; replace FR := Aside0.mk f_; replace C := f_.c0; clear f_) | ((with_reducible refine gate_dst (N := 13) rfl ?_); refine FR.out.boxE (N := 13) #[.slice none 0 0, .slice none 0 0] 30 (by rfl) (by rfl) ?hr ?_; (case hr => first | (go_simp; done) | (go_simp; rfl)); intro b13 BW2 f_; replace FR := Aside0.mk f_; replace C := f_.c1; clear f_) | ((with_reducible refine gate_dst (N := 14) rfl ?_); refine FR.out.boxE (N := 14) #[.int .i64 0, .int .i64 0, .int .i64 0] 34 (by rfl) (by rfl) ?hr ?_; (case hr => first | (go_simp; done) | (go_simp; rfl)); intro b14 BW3 f_; replace FR := Aside0.mk f_; replace C := f_.c2; clear f_) | ((with_reducible refine gate_store (t := 30) (p := 13) (v := .tmp 62) rfl ?_); refine FR.out.s2 [.slice A0 0 c0, .slice A1 1 c1] (by rfl) (by rfl) ?hr (by rfl) ?_; (case hr => first | (go_simp; done) | (go_simp; rfl)); intro BW4 f_; replace FR := Aside0.mk f_; replace C := f_.c2; clear f_) | ((with_reducible refine gate_store (t := 34) (p := 14) (v := .tmp 63) rfl ?_); refine FR.out.s1 [.int .i64 0, .int .i64 0, .int .i64 0] (by rfl) (by rfl) ?hr (by rfl) ?_; (case hr => first | (go_simp; done) | (go_simp; rfl)); intro BW5 f_; replace FR := Aside0.mk f_; replace C := f_.c2; clear f_))
          go_ret
          exact ⟨rfl, FR.out.bl⟩
        · obtain ⟨f, hp, hf⟩ := hl.2 (by omega)
          have kd : decide ((200 : Int) < 2 + (j : Int)) = true := decide_eq_true (by omega)
          have HP := Lib.hid (show parseF 900000 (⟨#[102, 117, 110, 99, 32, 102, 40, 41, 32, 123, 32, 114, 101, 116, 117, 114, 110, 32]⟩ ++ repB j (openB k) ++ ⟨#[49]⟩ ++ repB j (shutB k) ++ ⟨#[59, 32, 125]⟩ : ByteArray).data.toList = some (⟨[], []⟩, f) by rw [nest_ret k j hk3]; exact hp)
          clear hl hp hd hk3
          go_wp2_with (first | (go_at_call 10; (with_reducible refine (FR.out.pc (program_calls 900000 (by decide) _ _ (hG.below FR.out.bl) _ _ HP.out)).mono ?_); rintro e CW1 ⟨A0, c0, A1, c1, ok1, rfl, f_⟩; replace FR := Aside0.mk f_; replace C := f_.c0; clear f_) | ((with_reducible refine gate_dst (N := 13) rfl ?_); refine FR.out.boxE (N := 13) #[.slice none 0 0, .slice none 0 0] 30 (by rfl) (by rfl) ?hr ?_; (case hr => first | (go_simp; done) | (go_simp; rfl)); intro b13 CW2 f_; replace FR := Aside0.mk f_; replace C := f_.c1; clear f_) | ((with_reducible refine gate_dst (N := 14) rfl ?_); refine FR.out.boxE (N := 14) #[.int .i64 0, .int .i64 0, .int .i64 0] 34 (by rfl) (by rfl) ?hr ?_; (case hr => first | (go_simp; done) | (go_simp; rfl)); intro b14 CW3 f_; replace FR := Aside0.mk f_; replace C := f_.c2; clear f_) | ((with_reducible refine gate_store (t := 30) (p := 13) (v := .tmp 62) rfl ?_); refine FR.out.s2 [.slice A0 0 c0, .slice A1 0 c1] (by rfl) (by rfl) ?hr (by rfl) ?_; (case hr => first | (go_simp; done) | (go_simp; rfl)); intro CW4 f_; replace FR := Aside0.mk f_; replace C := f_.c2; clear f_) | ((with_reducible refine gate_store (t := 34) (p := 14) (v := .tmp 63) rfl ?_); refine FR.out.s1 [.int .i64 13, .int .i64 f.pos.line, .int .i64 f.pos.col] (by rfl) (by rfl) ?hr (by rfl) ?_; (case hr => first | (go_simp; done) | (go_simp; rfl)); intro CW5 f_; replace FR := Aside0.mk f_; replace C := f_.c2; clear f_))
          go_ret
          exact ⟨rfl, FR.out.bl⟩
      · have kk : decide ((3 : Int) ≤ (k : Int)) = true := decide_eq_true (by omega)
        have hl := HLAW.out
        rw [if_neg hk3] at hl
        by_cases hd : 1 + j ≤ 200
        · obtain ⟨F, hp⟩ := hl.1 hd
          have kd : decide ((200 : Int) < 1 + (j : Int)) = false := decide_eq_false (by omega)
          have HP := Lib.hid (show parseF 900000 (⟨#[102, 117, 110, 99, 32, 102, 40, 41, 32, 123, 32]⟩ ++ repB j (openB k) ++ repB j (shutB k) ++ ⟨#[32, 125]⟩ : ByteArray).data.toList = some (⟨[], [F]⟩, zFault) by rw [nest_blk k j hk3]; exact hp)
          clear hl hp hd hk3
          go_wp2_with (first | (go_at_call 10; (with_reducible refine (FR.out.pc (program_calls 900000 (by decide) _ _ (hG.below FR.out.bl) _ _ HP.out)).mono ?_); rintro e DW1 ⟨A0, c0, A1, c1, ok1, rfl, f_⟩; replace FR := Aside0.mk f_; replace C := f_.c0; clear f_) | ((with_reducible refine gate_dst (N := 13) rfl ?_); refine FR.out.boxE (N := 13) #[.slice none 0 0, .slice none 0 0] 30 (by rfl) (by rfl) ?hr ?_; (case hr => first | (go_simp; done) | (go_simp; rfl)); intro b13 DW2 f_; replace FR := Aside0.mk f_; replace C := f_.c1; clear f_) | ((with_reducible refine gate_dst (N := 14) rfl ?_); refine FR.out.boxE (N := 14) #[.int .i64 0, .int .i64 0, .int .i64 0] 34 (by rfl) (by rfl) ?hr ?_; (case hr => first | (go_simp; done) | (go_simp; rfl)); intro b14 DW3 f_; replace FR := Aside0.mk f_; replace C := f_.c2; clear f_) | ((with_reducible refine gate_store (t := 30) (p := 13) (v := .tmp 62) rfl ?_); refine FR.out.s2 [.slice A0 0 c0, .slice A1 1 c1] (by rfl) (by rfl) ?hr (by rfl) ?_; (case hr => first | (go_simp; done) | (go_simp; rfl)); intro DW4 f_; replace FR := Aside0.mk f_; replace C := f_.c2; clear f_) | ((with_reducible refine gate_store (t := 34) (p := 14) (v := .tmp 63) rfl ?_); refine FR.out.s1 [.int .i64 0, .int .i64 0, .int .i64 0] (by rfl) (by rfl) ?hr (by rfl) ?_; (case hr => first | (go_simp; done) | (go_simp; rfl)); intro DW5 f_; replace FR := Aside0.mk f_; replace C := f_.c2; clear f_))
          go_ret
          exact ⟨rfl, FR.out.bl⟩
        · obtain ⟨f, hp, hf⟩ := hl.2 (by omega)
          have kd : decide ((200 : Int) < 1 + (j : Int)) = true := decide_eq_true (by omega)
          have HP := Lib.hid (show parseF 900000 (⟨#[102, 117, 110, 99, 32, 102, 40, 41, 32, 123, 32]⟩ ++ repB j (openB k) ++ repB j (shutB k) ++ ⟨#[32, 125]⟩ : ByteArray).data.toList = some (⟨[], []⟩, f) by rw [nest_blk k j hk3]; exact hp)
          clear hl hp hd hk3
          go_wp2_with (first | (go_at_call 10; (with_reducible refine (FR.out.pc (program_calls 900000 (by decide) _ _ (hG.below FR.out.bl) _ _ HP.out)).mono ?_); rintro e EW1 ⟨A0, c0, A1, c1, ok1, rfl, f_⟩; replace FR := Aside0.mk f_; replace C := f_.c0; clear f_) | ((with_reducible refine gate_dst (N := 13) rfl ?_); refine FR.out.boxE (N := 13) #[.slice none 0 0, .slice none 0 0] 30 (by rfl) (by rfl) ?hr ?_; (case hr => first | (go_simp; done) | (go_simp; rfl)); intro b13 EW2 f_; replace FR := Aside0.mk f_; replace C := f_.c1; clear f_) | ((with_reducible refine gate_dst (N := 14) rfl ?_); refine FR.out.boxE (N := 14) #[.int .i64 0, .int .i64 0, .int .i64 0] 34 (by rfl) (by rfl) ?hr ?_; (case hr => first | (go_simp; done) | (go_simp; rfl)); intro b14 EW3 f_; replace FR := Aside0.mk f_; replace C := f_.c2; clear f_) | ((with_reducible refine gate_store (t := 30) (p := 13) (v := .tmp 62) rfl ?_); refine FR.out.s2 [.slice A0 0 c0, .slice A1 0 c1] (by rfl) (by rfl) ?hr (by rfl) ?_; (case hr => first | (go_simp; done) | (go_simp; rfl)); intro EW4 f_; replace FR := Aside0.mk f_; replace C := f_.c2; clear f_) | ((with_reducible refine gate_store (t := 34) (p := 14) (v := .tmp 63) rfl ?_); refine FR.out.s1 [.int .i64 13, .int .i64 f.pos.line, .int .i64 f.pos.col] (by rfl) (by rfl) ?hr (by rfl) ?_; (case hr => first | (go_simp; done) | (go_simp; rfl)); intro EW5 f_; replace FR := Aside0.mk f_; replace C := f_.c2; clear f_))
          go_ret
          exact ⟨rfl, FR.out.bl⟩
    | succ k1_ =>
      have hlt : (j : Int) < (n : Int) := by omega
      obtain ⟨ad1, hA1, f1⟩ := strAt (FR.out.n2).2 k (by omega) (by omega)
      obtain ⟨ad2, hA2, f2⟩ := strAt (FR.out.n1).2 k (by omega) (by omega)
      obtain rfl := hA1
      obtain rfl := hA2
      rw [Int.toNat_natCast, ← HO.out] at f1
      rw [Int.toNat_natCast, ← HS.out] at f2
      have hm1 : repB j (openB k) ++ O = repB (j + 1) (openB k) := by rw [HO2.out]; exact repB_more _ _
      have hm2 : repB j (shutB k) ++ S = repB (j + 1) (shutB k) := by rw [HS2.out]; exact repB_more _ _
      go_wp2
      go_roundg k1_
      case measure => omega
      case rel => exact ⟨j + 1, by rfl, rfl, rfl, by omega, FR⟩
end Go.Proofs.YtgenlgfbjlclbaaDoor
