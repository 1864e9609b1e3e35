/- How long statements' texts are; what the walks of AstLines ask of a statement, from the bulk. -/
import Derived.Test.YtpbeplepcbhamaaDoorBulk
namespace Go.Proofs.YtpbeplepcbhamaaDoor
open Go.RowKit Go.Proofs.YtpbeplepcbhamaaDoorW.PrintWords Go.Proofs.YtpbeplepcbhamaaDoorW.PrintLast Go.Proofs.YtpbeplepcbhamaaDoorW.PrintMore
set_option linter.unusedVariables false
set_option linter.unusedSimpArgs false

theorem fit_of (k : Nat) : ∀ (x : Expr), k ≤ 8 → wE x → fewE x (8 - (k : Int)) = true → bE x ≤ 1048576 → Fit 140737488355328 x := by
  have mk : ∀ (x : Expr), (etext x).length ≤ 140737488355328 → (∀ y, y ∈ x.kids → Fit 140737488355328 y) → Fit 140737488355328 x := by
    intro x h1 h2
    have hs : ∀ l : List Expr, (∀ y, y ∈ l → Fit 140737488355328 y) → Fits 140737488355328 l := by
      intro l
      induction l with
      | nil => intro _; rw [Fits]; trivial
      | cons a r ih =>
        intro h
        rw [Fits]
        exact ⟨h a (by simp), ih (fun y hy => h y (by simp [hy]))⟩
    cases x
    rw [Fit]
    exact ⟨h1, hs _ h2⟩
  have len : ∀ (k : Nat) (x : Expr), k ≤ 8 → wE x → fewE x (8 - (k : Int)) = true → bE x ≤ 1048576 → (etext x).length ≤ 140737488355328 := by
    intro k x hk hw hf hb
    have h1 := etext_len k x hw hf
    have h2 : 2 ^ k ≤ 2 ^ 8 := Nat.pow_le_pow_right (by decide) hk
    have h3 : 2 * (32 * 2 ^ k) ≤ 16384 := by omega
    have h4 := Nat.mul_le_mul h3 hb
    omega
  induction k with
  | zero =>
    intro x hk hw hf hb
    refine mk x (len 0 x hk hw hf hb) (fun y hy => ?_)
    rw [fewE_eq] at hf
    simp only [Bool.and_eq_true, decide_eq_true_eq, List.all_eq_true] at hf
    have := hf.2.2.2 y hy
    rw [fewE_eq] at this
    simp at this
  | succ k ih =>
    intro x hk hw hf hb
    refine mk x (len (k + 1) x hk hw hf hb) (fun y hy => ?_)
    rw [fewE_eq] at hf
    simp only [Bool.and_eq_true, decide_eq_true_eq, List.all_eq_true] at hf
    have hy' := bsum_mem bE _ y hy
    rw [bE_eq] at hb
    exact ih y (by omega) (((wE_eq x).1 hw).2 y hy) (by have := hf.2.2.2 y hy; rw [show (8 : Int) - (k : Int) = 8 - ((k + 1 : Nat) : Int) + 1 by omega]; exact this) (by omega)
theorem namesFit_of (n : Nat) : ∀ (x : Expr), SizeOf.sizeOf x ≤ n → ∀ d, fewE x d = true → NamesFit x := by
  have mk : ∀ (x : Expr), x.name.size ≤ 9223372036854775807 → (∀ y, y ∈ x.kids → NamesFit y) → NamesFit x := by
    intro x h1 h2
    have hs : ∀ l : List Expr, (∀ y, y ∈ l → NamesFit y) → NamesFits l := by
      intro l
      induction l with
      | nil => intro _; rw [NamesFits]; trivial
      | cons a r ih =>
        intro h
        rw [NamesFits]
        exact ⟨h a (by simp), ih (fun y hy => h y (by simp [hy]))⟩
    cases x
    rw [NamesFit]
    exact ⟨h1, hs _ h2⟩
  induction n with
  | zero =>
    intro x hx
    cases x
    simp at hx
  | succ n ih =>
    intro x hx d hf
    rw [fewE_eq] at hf
    simp only [Bool.and_eq_true, decide_eq_true_eq, List.all_eq_true] at hf
    exact mk x (by omega) (fun y hy => ih y (by have := kid_size hy; omega) (d + 1) (hf.2.2.2 y hy))

theorem atL_len (es : List Expr) (hw : ∀ y, y ∈ es → wE y) (hf : es.all (fewE · 0) = true) (i : Int) (h0 : 0 ≤ i) : (atL es i).length ≤ 16384 * bsum bE es + 1 := by
  rw [atL]
  split
  · rename_i hi
    have hm := rdExpr_mem es i h0 hi
    have h1 := etext_len0 _ (hw _ hm) (List.all_eq_true.1 hf _ hm)
    have h2 := Nat.mul_le_mul_left 16384 (bsum_mem bE es _ hm)
    omega
  · simp
theorem few_parts {s : Stmt} {k : Int} (h : fewSt s k = true) : s.name.size ≤ 40 ∧ s.es.length ≤ 3 ∧ s.es.all (fewE · 0) = true ∧ (k + 1 ≤ 6 ∧ s.thens.length ≤ 8 ∧ ∀ t, t ∈ s.thens → fewSt t (k + 1) = true) ∧ (k + 1 ≤ 6 ∧ s.elses.length ≤ 8 ∧ ∀ t, t ∈ s.elses → fewSt t (k + 1) = true) := by
  rw [fewSt_eq, fewSs_eq, fewSs_eq] at h
  simp only [Bool.and_eq_true, decide_eq_true_eq] at h
  obtain ⟨h1, h2, ⟨h3, h4, h5⟩, ⟨h6, h7, h8⟩, h9⟩ := h
  exact ⟨h1, h2, h9, ⟨h3, h4, List.all_eq_true.1 h5⟩, ⟨h6, h7, List.all_eq_true.1 h8⟩⟩
theorem slines_len (q d : Nat) : ∀ (xs : List Stmt), (∀ t, t ∈ xs → (stext t d).length ≤ q * bS t) → (slines xs d).length ≤ q * bsum bS xs
  | [], _ => by simp [slines, bsum]
  | s :: r, h => by
    rw [slines, List.length_append, bsum, Nat.mul_add]
    have h1 := h s (by simp)
    have h2 := slines_len q d r (fun t ht => h t (by simp [ht]))
    omega
theorem stext_len (m : Nat) : ∀ (s : Stmt), SizeOf.sizeOf s ≤ m → wS s → ∀ (k : Int) (d : Nat), fewSt s k = true → (d : Int) ≤ k + 10 → (stext s d).length ≤ 40000 * bS s := by
  induction m with
  | zero =>
    intro s hs
    cases s
    simp at hs
  | succ m ih =>
    intro s hs hw k d hf hd
    obtain ⟨hn, he3, he, ⟨hk, hT8, hT⟩, ⟨_, hE8, hE⟩⟩ := few_parts hf
    obtain ⟨hwe, hwT, hwE⟩ := (wS_eq s).1 hw
    have h0 := atL_len s.es hwe he 0 (by decide)
    have h1 := atL_len s.es hwe he 1 (by decide)
    have hLT := slines_len 40000 (d + 1) s.thens (fun t ht => ih t (by have := kid_stmt (Or.inl ht : t ∈ s.thens ∨ t ∈ s.elses); omega) (hwT t ht) (k + 1) (d + 1) (hT t ht) (by omega))
    have hLE := slines_len 40000 (d + 1) s.elses (fun t ht => ih t (by have := kid_stmt (Or.inr ht : t ∈ s.thens ∨ t ∈ s.elses); omega) (hwE t ht) (k + 1) (d + 1) (hE t ht) (by omega))
    have ht := tabs_length d
    have hd' : d ≤ 20 := by omega
    rw [bS_eq, stext_eq]
    repeat' split
    all_goals simp only [List.length_append, List.length_cons, List.length_nil, size_toList, ht]
    all_goals omega
/-- What the walks ask of a statement. -/
theorem sfit_of (m : Nat) : ∀ (s : Stmt), SizeOf.sizeOf s ≤ m → wS s → ∀ (k : Int) (d : Nat), fewSt s k = true → (d : Int) ≤ k + 10 → bS s ≤ 1048576 → SFit s d := by
  have mks : ∀ (d : Nat) (l : List Stmt), (∀ y, y ∈ l → SFit y d) → SFits l d := by
    intro d l
    induction l with
    | nil => intro _; rw [SFits]; trivial
    | cons a r ih =>
      intro h
      rw [SFits]
      exact ⟨h a (by simp), ih (fun y hy => h y (by simp [hy]))⟩
  have mk : ∀ (s : Stmt) (d : Nat), (stext s d).length ≤ 140737488355328 → d ≤ 1000000 → (∀ e, e ∈ s.es → Fit 140737488355328 e ∧ Slim 8000000000000 e) → (∀ y, y ∈ s.thens → SFit y (d + 1)) → (∀ y, y ∈ s.elses → SFit y (d + 1)) → SFit s d := by
    intro s d h1 h2 h3 h4 h5
    cases s
    rw [SFit]
    exact ⟨h1, h2, h3, mks _ _ h4, mks _ _ h5⟩
  induction m with
  | zero =>
    intro s hs
    cases s
    simp at hs
  | succ m ih =>
    intro s hs hw k d hf hd hb
    have hl := stext_len _ s (Nat.le_refl _) hw k d hf hd
    obtain ⟨hn, he3, he, ⟨hk, hT8, hT⟩, ⟨_, hE8, hE⟩⟩ := few_parts hf
    obtain ⟨hwe, hwT, hwE⟩ := (wS_eq s).1 hw
    have hb' := hb
    rw [bS_eq] at hb'
    refine mk s d (by omega) (by omega) (fun e hm => ?_) (fun t ht => ?_) (fun t ht => ?_)
    · have := bsum_mem bE _ e hm
      have hfe := List.all_eq_true.1 he e hm
      exact ⟨fit_of 8 e (Nat.le_refl _) (hwe e hm) hfe (by omega), few_slimB (by decide) _ e (Nat.le_refl _) 0 hfe⟩
    · have := bsum_mem bS _ t ht
      exact ih t (by have := kid_stmt (Or.inl ht : t ∈ s.thens ∨ t ∈ s.elses); omega) (hwT t ht) (k + 1) (d + 1) (hT t ht) (by omega) (by omega)
    · have := bsum_mem bS _ t ht
      exact ih t (by have := kid_stmt (Or.inr ht : t ∈ s.thens ∨ t ∈ s.elses); omega) (hwE t ht) (k + 1) (d + 1) (hE t ht) (by omega) (by omega)
theorem pfit_of (m : Nat) : ∀ (s : Stmt), SizeOf.sizeOf s ≤ m → wS s → ∀ (k : Int), 0 ≤ k → fewSt s k = true → bS s ≤ 1048576 → PFit s := by
  have mks : ∀ (l : List Stmt), (∀ y, y ∈ l → PFit y) → PFits l := by
    intro l
    induction l with
    | nil => intro _; rw [PFits]; trivial
    | cons a r ih =>
      intro h
      rw [PFits]
      exact ⟨h a (by simp), ih (fun y hy => h y (by simp [hy]))⟩
  have mk : ∀ (s : Stmt), SFit s 0 → s.name.size ≤ 9223372036854775807 → (∀ e, e ∈ s.es → NamesFit e) → s.thens.length ≤ 1000 → s.elses.length ≤ 1000 → (∀ y, y ∈ s.thens → PFit y) → (∀ y, y ∈ s.elses → PFit y) → PFit s := by
    intro s h1 h2 h3 h4 h5 h6 h7
    cases s
    rw [PFit]
    exact ⟨h1, h2, h3, h4, h5, mks _ h6, mks _ h7⟩
  induction m with
  | zero =>
    intro s hs
    cases s
    simp at hs
  | succ m ih =>
    intro s hs hw k h0 hf hb
    have hb' := hb
    rw [bS_eq] at hb'
    obtain ⟨hn, he3, he, ⟨hk, hT8, hT⟩, ⟨_, hE8, hE⟩⟩ := few_parts hf
    obtain ⟨hwe, hwT, hwE⟩ := (wS_eq s).1 hw
    refine mk s (sfit_of _ s (Nat.le_refl _) hw k 0 hf (by omega) hb) (by omega) (fun e hm => namesFit_of _ e (Nat.le_refl _) 0 (List.all_eq_true.1 he e hm)) (by omega) (by omega) (fun t ht => ?_) (fun t ht => ?_)
    · have := bsum_mem bS _ t ht
      exact ih t (by have := kid_stmt (Or.inl ht : t ∈ s.thens ∨ t ∈ s.elses); omega) (hwT t ht) (k + 1) (by omega) (hT t ht) (by omega)
    · have := bsum_mem bS _ t ht
      exact ih t (by have := kid_stmt (Or.inr ht : t ∈ s.thens ∨ t ∈ s.elses); omega) (hwE t ht) (k + 1) (by omega) (hE t ht) (by omega)
theorem cnt_bulk (m : Nat) : ∀ (s : Stmt), SizeOf.sizeOf s ≤ m → cnt s ≤ 3 * bS s := by
  induction m with
  | zero =>
    intro s hs
    cases s
    simp at hs
  | succ m ih =>
    intro s hs
    have each : ∀ xs : List Stmt, (∀ t, t ∈ xs → cnt t ≤ 3 * bS t) → cnts xs ≤ 3 * bsum bS xs := by
      intro xs
      induction xs with
      | nil => intro _; simp [cnts, bsum]
      | cons a r ihl =>
        intro h
        rw [cnts, bsum]
        have h1 := h a (by simp)
        have h2 := ihl (fun t ht => h t (by simp [ht]))
        omega
    have h1 := each s.thens (fun t ht => ih t (by have := kid_stmt (Or.inl ht : t ∈ s.thens ∨ t ∈ s.elses); omega))
    have h2 := each s.elses (fun t ht => ih t (by have := kid_stmt (Or.inr ht : t ∈ s.thens ∨ t ∈ s.elses); omega))
    rw [cnt_eq, bS_eq]
    split <;> split <;> omega
end Go.Proofs.YtpbeplepcbhamaaDoor
