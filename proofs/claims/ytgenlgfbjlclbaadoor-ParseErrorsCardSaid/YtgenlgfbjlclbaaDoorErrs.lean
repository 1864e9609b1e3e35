/- ParseErrors: what it computes. -/
import Derived.Test.YtgenlgfbjlclbaaDoorLawKit
namespace Go.Proofs.YtgenlgfbjlclbaaDoor
open Go.RowKit Go.Proofs.YtgenlgfbjlclbaaDoorW.PrintWords Go.Proofs.YtgenlgfbjlclbaaDoorW.PrintLast Go.Proofs.YtgenlgfbjlclbaaDoorW.PrintMore
set_option linter.unusedVariables false
set_option linter.unusedSimpArgs false

abbrev kRow : Kd (ByteArray × Int × Int) := Kd.pair Kd.string (Kd.pair (Kd.int .i64) (Kd.int .i64))
def rowCells (x : ByteArray × Int × Int) : List Value := [.string x.1, .int .i64 x.2.1, .int .i64 x.2.2]
theorem kRow_mk (w : World) (x : ByteArray × Int × Int) : kRow.K w x (rowCells x) := ⟨[.string x.1], [.int .i64 x.2.1, .int .i64 x.2.2], rfl, rfl, ⟨[.int .i64 x.2.1], [.int .i64 x.2.2], rfl, rfl, rfl⟩⟩
def rowsB : List (Bytes × Int × Int) := [([102, 117, 110, 99], 5, 12), ([102, 117, 110, 99, 32, 102], 7, 12), ([102, 117, 110, 99, 32, 102, 40, 41], 9, 12), ([102, 117, 110, 99, 32, 102, 40, 97, 32, 98, 41, 32, 123, 125], 10, 12), ([102, 117, 110, 99, 32, 102, 40, 97, 44, 41, 32, 123, 125], 10, 12), ([102, 117, 110, 99, 32, 102, 40, 41, 32, 123, 32, 114, 101, 116, 117, 114, 110, 59, 32, 125], 18, 12), ([102, 117, 110, 99, 32, 102, 40, 41, 32, 123, 32, 97, 59, 32, 125], 13, 12), ([102, 117, 110, 99, 32, 102, 40, 41, 32, 123, 32, 49, 32, 61, 32, 50, 59, 32, 125], 14, 12), ([102, 117, 110, 99, 32, 102, 40, 41, 32, 123, 32, 108, 101, 116, 32, 49, 32, 61, 32, 50, 59, 32, 125], 16, 12), ([102, 117, 110, 99, 32, 102, 40, 41, 32, 123, 32, 105, 102, 32, 97, 32, 98, 59, 32, 125], 17, 12), ([102, 117, 110, 99, 32, 102, 40, 41, 32, 123, 32, 103, 40, 97, 32, 98, 41, 59, 32, 125], 16, 12), ([102, 117, 110, 99, 32, 102, 40, 41, 32, 123, 32, 114, 101, 116, 117, 114, 110, 32, 49, 32, 60, 32, 50, 32, 60, 32, 51, 59, 32, 125], 25, 12), ([118, 97, 114, 32, 97, 91, 48, 93, 59], 7, 31), ([118, 97, 114, 32, 97, 91, 52, 48, 57, 55, 93, 59], 7, 31), ([118, 97, 114, 32, 97, 91, 98, 93, 59], 7, 12), ([97], 1, 12), ([102, 117, 110, 99, 32, 102, 40, 41, 32, 123, 32, 114, 101, 116, 117, 114, 110, 32, 40, 49, 59, 32, 125], 21, 12), ([102, 117, 110, 99, 32, 102, 40, 41, 32, 123, 32, 120, 32, 61, 32, 49, 32, 125], 18, 12), ([102, 117, 110, 99, 32, 102, 40, 41, 32, 123, 32, 114, 101, 116, 117, 114, 110, 32, 97, 91, 49, 59, 32, 125], 22, 12), ([102, 117, 110, 99, 32, 102, 40, 41, 32, 123, 32, 36, 32, 125], 12, 10)]
def rowsL : List (ByteArray × Int × Int) := rowsB.map fun x => (⟨x.1.toArray⟩, x.2.1, x.2.2)

theorem atRow {w : World} {A : Option Addr} {n : Nat} {xs : List (ByteArray × Int × Int)} (h : Kd.C kRow w A n xs) (i : Int) (h0 : 0 ≤ i) (h1 : i < n) : ∃ ad, A = some ad ∧ w.cell? (ad.add (i.toNat * 3)) = some (.string (xs.getD i.toNat (⟨#[]⟩, 0, 0)).1) ∧ w.cell? ⟨(ad.add (i.toNat * 3)).block, (ad.add (i.toNat * 3)).off + 1, none⟩ = some (.int .i64 (xs.getD i.toNat (⟨#[]⟩, 0, 0)).2.1) ∧ w.cell? ⟨(ad.add (i.toNat * 3)).block, (ad.add (i.toNat * 3)).off + 2, none⟩ = some (.int .i64 (xs.getD i.toNat (⟨#[]⟩, 0, 0)).2.2) := by
  obtain ⟨ad, c, e, _, hK, hc0⟩ := Kd.C_get h (⟨#[]⟩, 0, 0) i h0 h1
  have hc : ∀ j u, c[j]? = some u → w.cell? (ad.add (i.toNat * 3 + j)) = some u := hc0
  obtain ⟨_, _, rfl, rfl, ⟨_, _, rfl, rfl, rfl⟩⟩ := hK
  exact ⟨ad, e, hc 0 _ rfl, by rw [← add_field _ _ 1 (by omega)]; exact hc 1 _ rfl, by rw [← add_field _ _ 2 (by omega)]; exact hc 2 _ rfl⟩
theorem u64_pick (n m : Int) (h0 : 0 < m) (h1 : m ≤ 1000) : ∃ k : Nat, wrap64 ((IntKind.u64.wrap n).tmod m) = (k : Int) ∧ (k : Int) < m := by
  have hu : 0 ≤ IntKind.u64.wrap n := by rw [IntKind.wrap_u64]; exact Int.emod_nonneg _ (by decide)
  have h2 := Int.emod_nonneg (IntKind.u64.wrap n) (show m ≠ 0 by omega)
  have h3 := Int.emod_lt_of_pos (IntKind.u64.wrap n) h0
  rw [Int.tmod_eq_emod_of_nonneg hu]
  exact ⟨((IntKind.u64.wrap n) % m).toNat, by unfold wrap64; omega, by omega⟩

def blank (j : Nat) : ByteArray := bsOf (List.replicate j 32)
theorem blank_more (j : Nat) : blank j ++ ⟨#[32]⟩ = blank (j + 1) := by
  have : (blank j ++ ⟨#[32]⟩ : ByteArray).data.toList = (blank (j + 1)).data.toList := by
    rw [ByteArray.data_append, Array.toList_append]
    show List.replicate j 32 ++ [32] = List.replicate (j + 1) 32
    exact (List.replicate_succ' ..).symm
  exact ByteArray.ext (Array.toList_inj.1 this)
set_option maxRecDepth 100000 in
set_option maxHeartbeats 12800000 in
theorem errs_calls {ga : GA} {N : Nat} (which pad : Int) (w : World) (hG : GP ga N w) (hlaw : ∀ k j : Nat, k < 20 → j < 16 → ∃ e1 q1, (e1 = (rowsL.getD k (⟨#[]⟩, 0, 0)).2.2 ∧ q1 = (rowsL.getD k (⟨#[]⟩, 0, 0)).2.1 + j) ∧ parseF 100 (blank j ++ (rowsL.getD k (⟨#[]⟩, 0, 0)).1).data.toList = some (⟨[], []⟩, ⟨e1, 1, q1⟩) ∧ parseF 100 (⟨#[118, 97, 114, 32, 111, 107, 59, 10]⟩ ++ blank j ++ (rowsL.getD k (⟨#[]⟩, 0, 0)).1).data.toList = some (⟨[], []⟩, ⟨e1, 2, q1⟩)) :
    Calls Tryd.prog 3 #[.int .i64 which, .int .i64 pad] w fun e w' => e = .returned (.bool true) ∧ Below w.heap.size w w' := by
  have FR := Aside0.mk (Fq.start (w := w) (fun k => w.heap.size ≤ k) (fun _ h => h))
  have C := FR.out.c0
  obtain ⟨k, hk, hk20⟩ := u64_pick which 20 (by decide) (by decide)
  obtain ⟨p, hp, hp16⟩ := and_pick pad 15 (by decide) (by decide)
  obtain ⟨e1, q1, ⟨he1, hq1⟩, hp1, hp2⟩ := hlaw k p (by omega) (by omega)
  obtain ⟨X, hX⟩ : ∃ X, X = rowsL.getD k (⟨#[]⟩, 0, 0) := ⟨_, rfl⟩
  rw [← hX] at he1 hq1 hp1 hp2
  have HXX := Lib.hid hX
  have HP1 := Lib.hid hp1
  have HP2 := Lib.hid hp2
  have hsz : X.1.size ≤ 100 := by
    have : ∀ k, k < 20 → (rowsL.getD k (⟨#[]⟩, 0, 0)).1.size ≤ 100 := by decide +kernel
    rw [hX]; exact this k (by omega)
  have hcol : 0 ≤ X.2.1 ∧ X.2.1 ≤ 100 := by
    have : ∀ k, k < 20 → 0 ≤ (rowsL.getD k (⟨#[]⟩, 0, 0)).2.1 ∧ (rowsL.getD k (⟨#[]⟩, 0, 0)).2.1 ≤ 100 := by decide +kernel
    rw [hX]; exact this k (by omega)
  have kq : wrap64 (X.2.1 + (p : Int)) = q1 := by rw [hq1]; unfold wrap64; omega
  subst he1
  clear hX hp1 hp2 hlaw hq1 hcol
  have hk0 : (0 : Int) ≤ (k : Int) := by omega
  go_enter Tryd.func3, Tryd.ntmps3
  go_wp2_with (first | (go_at_call 9; (with_reducible refine (FR.out.bc (head_calls _ (hG.below FR.out.bl))).mono ?_); rintro e AW1 ⟨rfl, f_⟩; replace FR := Aside0.mk f_; replace C := f_.c0; clear f_) | ((with_reducible refine gate_dst (N := 36) rfl ?_); refine FR.out.lit0E kRow 24 (N := 36) rowsL 20 (by rfl) [.string ⟨#[102, 117, 110, 99]⟩, .int .i64 5, .int .i64 12, .string ⟨#[102, 117, 110, 99, 32, 102]⟩, .int .i64 7, .int .i64 12, .string ⟨#[102, 117, 110, 99, 32, 102, 40, 41]⟩, .int .i64 9, .int .i64 12, .string ⟨#[102, 117, 110, 99, 32, 102, 40, 97, 32, 98, 41, 32, 123, 125]⟩, .int .i64 10, .int .i64 12, .string ⟨#[102, 117, 110, 99, 32, 102, 40, 97, 44, 41, 32, 123, 125]⟩, .int .i64 10, .int .i64 12, .string ⟨#[102, 117, 110, 99, 32, 102, 40, 41, 32, 123, 32, 114, 101, 116, 117, 114, 110, 59, 32, 125]⟩, .int .i64 18, .int .i64 12, .string ⟨#[102, 117, 110, 99, 32, 102, 40, 41, 32, 123, 32, 97, 59, 32, 125]⟩, .int .i64 13, .int .i64 12, .string ⟨#[102, 117, 110, 99, 32, 102, 40, 41, 32, 123, 32, 49, 32, 61, 32, 50, 59, 32, 125]⟩, .int .i64 14, .int .i64 12, .string ⟨#[102, 117, 110, 99, 32, 102, 40, 41, 32, 123, 32, 108, 101, 116, 32, 49, 32, 61, 32, 50, 59, 32, 125]⟩, .int .i64 16, .int .i64 12, .string ⟨#[102, 117, 110, 99, 32, 102, 40, 41, 32, 123, 32, 105, 102, 32, 97, 32, 98, 59, 32, 125]⟩, .int .i64 17, .int .i64 12, .string ⟨#[102, 117, 110, 99, 32, 102, 40, 41, 32, 123, 32, 103, 40, 97, 32, 98, 41, 59, 32, 125]⟩, .int .i64 16, .int .i64 12, .string ⟨#[102, 117, 110, 99, 32, 102, 40, 41, 32, 123, 32, 114, 101, 116, 117, 114, 110, 32, 49, 32, 60, 32, 50, 32, 60, 32, 51, 59, 32, 125]⟩, .int .i64 25, .int .i64 12, .string ⟨#[118, 97, 114, 32, 97, 91, 48, 93, 59]⟩, .int .i64 7, .int .i64 31, .string ⟨#[118, 97, 114, 32, 97, 91, 52, 48, 57, 55, 93, 59]⟩, .int .i64 7, .int .i64 31, .string ⟨#[118, 97, 114, 32, 97, 91, 98, 93, 59]⟩, .int .i64 7, .int .i64 12, .string ⟨#[97]⟩, .int .i64 1, .int .i64 12, .string ⟨#[102, 117, 110, 99, 32, 102, 40, 41, 32, 123, 32, 114, 101, 116, 117, 114, 110, 32, 40, 49, 59, 32, 125]⟩, .int .i64 21, .int .i64 12, .string ⟨#[102, 117, 110, 99, 32, 102, 40, 41, 32, 123, 32, 120, 32, 61, 32, 49, 32, 125]⟩, .int .i64 18, .int .i64 12, .string ⟨#[102, 117, 110, 99, 32, 102, 40, 41, 32, 123, 32, 114, 101, 116, 117, 114, 110, 32, 97, 91, 49, 59, 32, 125]⟩, .int .i64 22, .int .i64 12, .string ⟨#[102, 117, 110, 99, 32, 102, 40, 41, 32, 123, 32, 36, 32, 125]⟩, .int .i64 12, .int .i64 10] (by rfl) (by rfl) ?hr ?hp (by decide) ?_; (case hr => first | (go_simp; done) | (go_simp; rfl)); (case hp => exact reps_flat rowCells (fun x W _ => kRow_mk W x) (fun _ => rfl) rowsL); intro A c AW2 okl f_; replace FR := Aside0.mk f_; replace C := f_.c0; clear f_; obtain ⟨ad, hA_, e0, e1, e2⟩ := atRow (FR.out.n1).2 k (by omega) (by omega); obtain rfl := hA_; rw [Int.toNat_natCast, ← HXX.out] at e0 e1 e2) | ((with_reducible refine gate_dst (N := 6) rfl ?_); refine FR.out.varE (W1 := ?_) (N := 6) #[.string X.1, .int .i64 X.2.1, .int .i64 X.2.2] 24 (by rfl) (by rfl) (by rfl) (by rfl) ?hr ?hs ?_; (case hr => first | (go_simp; done) | (go_simp; rfl)); (case hs => first | (go_simp; done) | (go_simp; rfl)); intro b6 AW3 f_; replace FR := Aside0.mk f_; replace C := f_.c1; clear f_))
  clear e0 e1 e2 hk
  go_loopg [7, 8] p (fun kq v7 v8 w' => ∃ j : Nat, v8 = .int .i64 j ∧ v7 = .string (blank j) ∧ kq + j = p ∧ Aside0 (Fq (fun k => w.heap.size ≤ k) w [⟨b6, #[.string X.1, .int .i64 X.2.1, .int .i64 X.2.2], 24⟩] [⟨okl, fun W => 20 ≤ c ∧ kRow.C W (some ad) 20 rowsL⟩] w'))
  case atStart => exact ⟨0, rfl, rfl, by omega, FR⟩
  case round =>
    clear FR C
    obtain ⟨j, rfl, rfl, hj, FR⟩ := hrel
    have C := FR.out.c1
    have hbs : (blank j).size = j := by simp [blank, bsOf, ByteArray.size]
    cases gk with
    | zero =>
      obtain rfl : j = p := by omega
      have hge : ¬ ((j : Int) < (j : Int)) := by omega
      go_wp2_with (first | (go_at_call 10; (with_reducible refine (FR.out.pc (program_calls 100 (by decide) _ _ (hG.below FR.out.bl) _ _ HP1.out)).mono ?_); rintro e BW1 ⟨A0, c0, A1, c1, ok1, rfl, f_⟩; replace FR := Aside0.mk f_; replace C := f_.c1; clear f_) | ((with_reducible refine gate_dst (N := 9) rfl ?_); refine FR.out.boxE (N := 9) #[.slice none 0 0, .slice none 0 0] 30 (by rfl) (by rfl) ?hr ?_; (case hr => first | (go_simp; done) | (go_simp; rfl)); intro b9 BW2 f_; replace FR := Aside0.mk f_; replace C := f_.c2; clear f_) | ((with_reducible refine gate_dst (N := 10) rfl ?_); refine FR.out.boxE (N := 10) #[.int .i64 0, .int .i64 0, .int .i64 0] 34 (by rfl) (by rfl) ?hr ?_; (case hr => first | (go_simp; done) | (go_simp; rfl)); intro b10 BW3 f_; replace FR := Aside0.mk f_; replace C := f_.c3; clear f_) | ((with_reducible refine gate_store (t := 30) (p := 9) (v := .tmp 58) rfl ?_); refine FR.out.s2 [.slice A0 0 c0, .slice A1 0 c1] (by rfl) (by rfl) ?hr (by rfl) ?_; (case hr => first | (go_simp; done) | (go_simp; rfl)); intro BW4 f_; replace FR := Aside0.mk f_; replace C := f_.c3; clear f_) | ((with_reducible refine gate_store (t := 34) (p := 10) (v := .tmp 59) rfl ?_); refine FR.out.s1 [.int .i64 X.2.2, .int .i64 1, .int .i64 q1] (by rfl) (by rfl) ?hr (by rfl) ?_; (case hr => first | (go_simp; done) | (go_simp; rfl)); intro BW5 f_; replace FR := Aside0.mk f_; replace C := f_.c3; clear f_) | (go_at_call 10; (with_reducible refine (FR.out.pc (program_calls 100 (by decide) _ _ (hG.below FR.out.bl) _ _ HP2.out)).mono ?_); rintro e BW6 ⟨A0, c0, A1, c1, ok1, rfl, f_⟩; replace FR := Aside0.mk f_; replace C := f_.c3; clear f_) | ((with_reducible refine gate_dst (N := 11) rfl ?_); refine FR.out.boxE (N := 11) #[.slice none 0 0, .slice none 0 0] 30 (by rfl) (by rfl) ?hr ?_; (case hr => first | (go_simp; done) | (go_simp; rfl)); intro b11 BW7 f_; replace FR := Aside0.mk f_; replace C := f_.c4; clear f_) | ((with_reducible refine gate_dst (N := 12) rfl ?_); refine FR.out.boxE (N := 12) #[.int .i64 0, .int .i64 0, .int .i64 0] 34 (by rfl) (by rfl) ?hr ?_; (case hr => first | (go_simp; done) | (go_simp; rfl)); intro b12 BW8 f_; replace FR := Aside0.mk f_; replace C := f_.c5; clear f_) | ((with_reducible refine gate_store (t := 30) (p := 11) (v := .tmp 67) rfl ?_); refine FR.out.s2 [.slice A0 0 c0, .slice A1 0 c1] (by rfl) (by rfl) ?hr (by rfl) ?_; (case hr => first | (go_simp; done) | (go_simp; rfl)); intro BW9 f_; replace FR := Aside0.mk f_; replace C := f_.c5; clear f_) | ((with_reducible refine gate_store (t := 34) (p := 12) (v := .tmp 68) rfl ?_); refine FR.out.s1 [.int .i64 X.2.2, .int .i64 2, .int .i64 q1] (by rfl) (by rfl) ?hr (by rfl) ?_; (case hr => first | (go_simp; done) | (go_simp; rfl)); intro BW10 f_; replace FR := Aside0.mk f_; replace C := f_.c5; clear f_))
      go_ret
      exact ⟨rfl, FR.out.bl⟩
    | succ k1_ =>
      have hlt : (j : Int) < (p : Int) := by omega
      have hbm := blank_more j
      go_wp2
      go_roundg k1_
      case measure => omega
      case rel => exact ⟨j + 1, by rfl, rfl, by omega, FR⟩
end Go.Proofs.YtgenlgfbjlclbaaDoor
