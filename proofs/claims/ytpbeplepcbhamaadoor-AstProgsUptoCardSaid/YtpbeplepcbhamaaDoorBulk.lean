/- How long the texts are: bounds by the bulk of what came in. -/
import Derived.Test.YtpbeplepcbhamaaDoorReadB
import Derived.Test.YtpbeplepcbhamaaDoorPlainLaw
import Derived.Lib.ItoaLen
namespace Go.Proofs.YtpbeplepcbhamaaDoor
open Go.RowKit Go.Proofs.YtpbeplepcbhamaaDoorW.PrintWords Go.Proofs.YtpbeplepcbhamaaDoorW.PrintLast Go.Proofs.YtpbeplepcbhamaaDoorW.PrintMore
set_option linter.unusedVariables false
set_option linter.unusedSimpArgs false

theorem slims_mkB {m : Nat} : ∀ {l : List Expr}, (∀ y, y ∈ l → Slim m y) → Slims m l
  | [], _ => by simp [Slims]
  | x :: r, h => by
    rw [Slims]
    exact ⟨h x (by simp), slims_mkB (fun y hy => h y (by simp [hy]))⟩
theorem slim_mkB {m : Nat} {x : Expr} (h : x.kids.length ≤ m) (hk : ∀ y, y ∈ x.kids → Slim m y) : Slim m x := by
  cases x
  rw [Slim]
  exact ⟨h, slims_mkB hk⟩
theorem few_slimB {m : Nat} (hm : 6 ≤ m) (n : Nat) : ∀ (x : Expr), SizeOf.sizeOf x ≤ n → ∀ d, fewE x d = true → Slim m x := by
  induction n with
  | zero =>
    intro x hx
    cases x
    simp at hx
  | succ n ih =>
    intro x hx d h
    rw [fewE_eq] at h
    simp only [Bool.and_eq_true, decide_eq_true_eq, List.all_eq_true] at h
    exact slim_mkB (by omega) (fun y hy => ih y (by have := kid_size hy; omega) (d + 1) (h.2.2.2 y hy))
theorem join_len (sep : List UInt8) (ls : List (List UInt8)) : (Lib.join ls sep).length ≤ (ls.map List.length).sum + sep.length * ls.length := by
  cases ls with
  | nil => simp [Lib.join_nil]
  | cons a r =>
    rw [Lib.join_cons, Lib.joinTail, List.length_append, List.map_cons, List.sum_cons, List.length_cons]
    have : ∀ r : List (List UInt8), ((r.map (sep ++ ·)).flatten).length = (r.map List.length).sum + sep.length * r.length := by
      intro r
      induction r with
      | nil => simp
      | cons b r ih =>
        rw [List.map_cons, List.flatten_cons, List.length_append, List.length_append, ih, List.map_cons, List.sum_cons, List.length_cons, Nat.mul_add, Nat.mul_one]
        omega
    rw [this r, Nat.mul_add]
    omega
theorem bE_pos (x : Expr) : 1 ≤ bE x := by
  rw [bE_eq]
  omega
theorem kids_le : ∀ (xs : List Expr), xs.length ≤ bsum bE xs
  | [] => Nat.zero_le _
  | x :: r => by
    have := bE_pos x
    have := kids_le r
    rw [List.length_cons, bsum]
    omega
theorem sum_len (q : Nat) : ∀ (xs : List Expr), (∀ y, y ∈ xs → (etext y).length ≤ q * bE y) → ((etexts xs).map List.length).sum ≤ q * bsum bE xs
  | [], _ => by simp [etexts, bsum]
  | x :: r, h => by
    rw [etexts, List.map_cons, List.sum_cons, bsum, Nat.mul_add]
    have h1 := h x (by simp)
    have h2 := sum_len q r (fun y hy => h y (by simp [hy]))
    omega
theorem etext_step (x : Expr) (q : Nat) (hq : 32 ≤ q) (hw : Wf64 x.num) (hk : ∀ y, y ∈ x.kids → (etext y).length ≤ q * bE y) : (etext x).length ≤ 2 * q * bE x := by
  have hS := sum_len q x.kids hk
  have hJ := join_len [44, 32] (etexts x.kids)
  have hL : (etexts x.kids).length = x.kids.length := by rw [etexts_map, List.length_map]
  have hKL := kids_le x.kids
  rw [hL] at hJ
  have each : ∀ l, l ∈ etexts x.kids → l.length ≤ q * bsum bE x.kids := by
    intro l hl
    rw [etexts_map] at hl
    obtain ⟨y, hy, rfl⟩ := List.mem_map.1 hl
    exact Nat.le_trans (hk y hy) (Nat.mul_le_mul_left _ (bsum_mem bE _ y hy))
  have hh : ((etexts x.kids).headD []).length ≤ q * bsum bE x.kids := by
    cases he : etexts x.kids with
    | nil => simp
    | cons a r => exact each a (by rw [he]; simp)
  have hl : ((etexts x.kids).getLastD []).length ≤ q * bsum bE x.kids := by
    rw [List.getLastD_eq_getLast?]
    cases he : (etexts x.kids).getLast? with
    | none => simp
    | some a => exact each a (List.mem_of_getLast? he)
  have hi := Lib.itoa_length_le x.num hw.1 hw.2
  have hsg := signOf_size x.op
  have e : 2 * q * bE x = 2 * q + 2 * (q * x.name.size) + 2 * (q * bsum bE x.kids) := by rw [bE_eq, Nat.mul_add, Nat.mul_add, Nat.mul_one, Nat.mul_assoc, Nat.mul_assoc]
  have hn : x.name.size ≤ q * x.name.size := Nat.le_mul_of_pos_left _ (by omega)
  have hb : bsum bE x.kids ≤ q * bsum bE x.kids := Nat.le_mul_of_pos_left _ (by omega)
  have hb2 : 2 * x.kids.length ≤ q * bsum bE x.kids := by
    have : 2 * x.kids.length ≤ 2 * bsum bE x.kids := by omega
    exact Nat.le_trans this (Nat.mul_le_mul_right _ (by omega))
  simp only [List.length_cons, List.length_nil] at hJ
  rw [e, etext_eq]
  repeat' split
  all_goals (try simp only [List.length_append, List.length_cons, List.length_nil, size_toList])
  all_goals omega
/-- An expression that Few lets by. -/
theorem etext_len (k : Nat) : ∀ (x : Expr), wE x → fewE x (8 - (k : Int)) = true → (etext x).length ≤ 2 * (32 * 2 ^ k) * bE x := by
  induction k with
  | zero =>
    intro x hw hf
    rw [fewE_eq] at hf
    simp only [Bool.and_eq_true, decide_eq_true_eq, List.all_eq_true] at hf
    refine etext_step x (32 * 2 ^ 0) (by decide) ((wE_eq x).1 hw).1 (fun y hy => ?_)
    have := hf.2.2.2 y hy
    rw [fewE_eq] at this
    simp at this
  | succ k ih =>
    intro x hw hf
    rw [fewE_eq] at hf
    simp only [Bool.and_eq_true, decide_eq_true_eq, List.all_eq_true] at hf
    refine etext_step x (32 * 2 ^ (k + 1)) (by have := Nat.one_le_two_pow (n := k + 1); omega) ((wE_eq x).1 hw).1 (fun y hy => ?_)
    have h := ih y (((wE_eq x).1 hw).2 y hy) (by have := hf.2.2.2 y hy; rw [show (8 : Int) - (k : Int) = 8 - ((k + 1 : Nat) : Int) + 1 by omega]; exact this)
    rw [show 32 * 2 ^ (k + 1) = 2 * (32 * 2 ^ k) by rw [Nat.pow_succ]; omega]
    exact h
theorem etext_len0 (x : Expr) (hw : wE x) (hf : fewE x 0 = true) : (etext x).length ≤ 16384 * bE x := etext_len 8 x hw hf
end Go.Proofs.YtpbeplepcbhamaaDoor
