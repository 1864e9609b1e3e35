/- The plain law of AstLines: a plain statement's text has as many lines as count says, and its tabs. -/
import Derived.Test.YtpbeplepcbhamaaDoorLines
import Derived.Lib.ItoaMem
namespace Go.Proofs.YtpbeplepcbhamaaDoor
open Go.RowKit Go.Proofs.YtpbeplepcbhamaaDoorW.PrintWords Go.Proofs.YtpbeplepcbhamaaDoorW.PrintLast Go.Proofs.YtpbeplepcbhamaaDoorW.PrintMore
set_option linter.unusedVariables false
set_option linter.unusedSimpArgs false

/-- No new line, no tab. -/
def clean (l : List UInt8) : Prop := ∀ c, c ∈ l → okB c = true
theorem clean_nil : clean [] := fun c h => by simp at h
theorem clean_add {a b : List UInt8} (h : clean a) (k : clean b) : clean (a ++ b) := fun c hc => by
  rcases List.mem_append.1 hc with hc | hc
  · exact h c hc
  · exact k c hc
theorem clean_of {l : List UInt8} (h : l.all okB = true) : clean l := fun c hc => List.all_eq_true.1 h c hc
theorem ok_ne {c : UInt8} (h : okB c = true) : ¬ (c.toNat : Int) = 10 ∧ ¬ (c.toNat : Int) = 9 := by
  constructor
  · intro e
    rw [okB_ten e] at h
    cases h
  · intro e
    rw [okB_nine e] at h
    cases h
theorem clean_name {s : ByteArray} (h : okName s = true) : clean s.data.toList := clean_of h
theorem clean_sign (o : Int) : clean (signOf o).data.toList := by
  unfold signOf
  split
  · exact clean_nil
  · rename_i h
    have hall : ∀ i : Fin 15, ((sgn i).data.toList.all okB) = true := by decide
    exact clean_of (hall ⟨o.toNat, by omega⟩)
theorem clean_join {ls : List (List UInt8)} {sep : List UInt8} (hs : clean sep) (h : ∀ l, l ∈ ls → clean l) : clean (Lib.join ls sep) := by
  cases ls with
  | nil => exact clean_nil
  | cons a r =>
    rw [Lib.join_cons]
    refine clean_add (h a (by simp)) (fun c hc => ?_)
    rw [Lib.joinTail, List.mem_flatten] at hc
    obtain ⟨l, hl, hc⟩ := hc
    obtain ⟨b, hb, rfl⟩ := List.mem_map.1 hl
    exact clean_add hs (h b (by simp [hb])) c hc
theorem clean_digits (n : Nat) : ∀ u, u ≤ n → clean (Lib.decDigits u) := by
  have dig : ∀ i : Fin 10, okB (UInt8.ofNat (48 + i)) = true := by decide
  induction n with
  | zero =>
    intro u hu
    rw [Lib.decDigits, dif_pos (by omega)]
    exact clean_of (by simpa using dig ⟨u, by omega⟩)
  | succ n ih =>
    intro u hu
    rw [Lib.decDigits]
    split
    · rename_i h
      exact clean_of (by simpa using dig ⟨u, h⟩)
    · exact clean_add (ih (u / 10) (by omega)) (clean_of (by simpa using dig ⟨u % 10, by omega⟩))
theorem clean_itoa (x : Int) : clean (Lib.itoa x) := by
  rw [Lib.itoa]
  split
  · exact clean_add (a := [45]) (clean_of (by decide)) (clean_digits _ _ (Nat.le_refl _))
  · exact clean_digits _ _ (Nat.le_refl _)
/-- The text of an expression whose names are clean. -/
theorem clean_etext (n : Nat) : ∀ (x : Expr), SizeOf.sizeOf x ≤ n → namesE x = true → clean (etext x) := by
  induction n with
  | zero =>
    intro x hx
    cases x
    simp at hx
  | succ n ih =>
    intro x hx h
    rw [namesE_eq, Bool.and_eq_true, List.all_eq_true] at h
    have hk : ∀ l, l ∈ etexts x.kids → clean l := by
      intro l hl
      rw [etexts_map] at hl
      obtain ⟨y, hy, rfl⟩ := List.mem_map.1 hl
      exact ih y (by have := kid_size hy; omega) (h.2 y hy)
    have hN := clean_name h.1
    have hd : clean ((etexts x.kids).headD []) := by
      cases he : etexts x.kids with
      | nil => exact clean_nil
      | cons a r => exact hk a (by rw [he]; simp)
    have hl : clean ((etexts x.kids).getLastD []) := by
      rw [List.getLastD_eq_getLast?]
      cases he : (etexts x.kids).getLast? with
      | none => exact clean_nil
      | some a => exact hk a (List.mem_of_getLast? he)
    rw [etext_eq]
    have C : ∀ l : List UInt8, l.all okB = true → clean l := fun l h => clean_of h
    split
    · exact clean_itoa _
    split
    · split
      · exact C _ (by decide)
      · exact C _ (by decide)
    split
    · exact hN
    split
    · exact clean_add (clean_add (clean_add hN (C _ (by decide))) (clean_join (C _ (by decide)) hk)) (C _ (by decide))
    split
    · exact C _ (by decide)
    split
    · exact clean_add (clean_add (clean_add hN (C _ (by decide))) hd) (C _ (by decide))
    split
    · exact clean_add (C _ (by decide)) hd
    split
    · exact clean_add (clean_add (clean_add (clean_add (C _ (by decide)) hd) (C _ (by decide))) hl) (C _ (by decide))
    split
    · exact clean_add (clean_add (clean_add (clean_add (C _ (by decide)) hd) (C _ (by decide))) hl) (C _ (by decide))
    · exact clean_add (clean_add (clean_add (clean_add (clean_add (clean_add (C _ (by decide)) hd) (C _ (by decide))) (clean_sign _)) (C _ (by decide))) hl) (C _ (by decide))
theorem clean_at {es : List Expr} (h : es.all namesE = true) (i : Int) (h0 : 0 ≤ i) : clean (atL es i) := by
  rw [atL]
  split
  · rename_i hi
    exact clean_etext _ _ (Nat.le_refl _) (List.all_eq_true.1 h _ (rdExpr_mem es i h0 hi))
  · exact clean_of (by decide)

/-- The look over clean text within a line. -/
theorem scan_mid (D : Int) (b : List UInt8) : ∀ (r : List UInt8) (l t : Int), clean b → scan D (b ++ r) l false t = scan D r l false t := by
  induction b with
  | nil => intro r l t _; rfl
  | cons c b ih =>
    intro r l t h
    obtain ⟨h1, h2⟩ := ok_ne (h c (by simp))
    rw [List.cons_append, scan, if_neg (fun h => by cases h.1), if_neg (fun h => by cases h.1), if_neg h1]
    exact ih r l t (fun c hc => h c (by simp [hc]))
/-- .. from where it begins, behind its tabs. -/
theorem scan_body (D : Int) (b r : List UInt8) (l t : Int) (hb : clean b) (hn : b ≠ []) (ht : D ≤ t) : scan D (b ++ r) l true t = scan D r l false t := by
  cases b with
  | nil => exact absurd rfl hn
  | cons c b =>
    obtain ⟨h1, h2⟩ := ok_ne (hb c (by simp))
    rw [List.cons_append, scan, if_neg (fun h => h2 h.2), if_neg (fun h => by omega), if_neg h1]
    exact scan_mid D b r l t (fun c hc => hb c (by simp [hc]))
theorem scan_tabs (D : Int) (k : Nat) : ∀ (r : List UInt8) (l t : Int), scan D (tabs k ++ r) l true t = scan D r l true (t + k) := by
  induction k with
  | zero => intro r l t; simp [tabs, Lib.repeatL]
  | succ k ih =>
    intro r l t
    have e : tabs (k + 1) = 9 :: tabs k := rfl
    rw [e, List.cons_append, scan, if_pos ⟨rfl, rfl⟩, ih, show t + 1 + (k : Int) = t + ((k + 1 : Nat) : Int) by omega]
theorem scan_end (D : Int) (r : List UInt8) (l t : Int) : scan D (10 :: r) l false t = scan D r (l + 1) true 0 := by
  rw [scan, if_neg (fun h => by cases h.1), if_neg (fun h => by cases h.1), if_pos (by decide)]
/-- One line. -/
theorem scan_line (D : Int) (k : Nat) (b r : List UInt8) (l : Int) (hb : clean b) (hn : b ≠ []) (hk : D ≤ k) : scan D (tabs k ++ (b ++ 10 :: r)) l true 0 = scan D r (l + 1) true 0 := by
  rw [scan_tabs, scan_body D b _ l _ hb hn (by omega), scan_end]

theorem scan_list (D : Int) (d : Nat) : ∀ (xs : List Stmt), (∀ s, s ∈ xs → ∀ r l, scan D (stext s d ++ r) l true 0 = scan D r (l + cnt s) true 0) → ∀ r l, scan D (slines xs d ++ r) l true 0 = scan D r (l + cnts xs) true 0
  | [], _, r, l => by simp [slines, cnts]
  | s :: xs, h, r, l => by
    rw [slines, List.append_assoc, h s (by simp), scan_list D d xs (fun t ht => h t (by simp [ht])), cnts, Int.natCast_add, Int.add_assoc]
theorem plain_parts {s : Stmt} (h : plainS s = true) : okName s.name = true ∧ s.es.all namesE = true ∧ (∀ t, t ∈ s.thens → plainS t = true) ∧ (∀ t, t ∈ s.elses → plainS t = true) := by
  rw [plainS_eq, Bool.and_eq_true, Bool.and_eq_true, List.all_eq_true (l := s.thens ++ s.elses)] at h
  exact ⟨h.1, h.2.1, fun t ht => h.2.2 t (List.mem_append.2 (Or.inl ht)), fun t ht => h.2.2 t (List.mem_append.2 (Or.inr ht))⟩
/-- THE PLAIN LAW: a plain statement's text, looked at. -/
theorem scan_text (m : Nat) : ∀ (s : Stmt), SizeOf.sizeOf s ≤ m → plainS s = true → ∀ (d : Nat) (D : Int), D ≤ d → ∀ r l, scan D (stext s d ++ r) l true 0 = scan D r (l + cnt s) true 0 := by
  induction m with
  | zero =>
    intro s hs
    cases s
    simp at hs
  | succ m ih =>
    intro s hs hp d D hD r l
    obtain ⟨hn, he, hT, hE⟩ := plain_parts hp
    have hN := clean_name hn
    have h0 := clean_at he 0 (by decide)
    have h1 := clean_at he 1 (by decide)
    have C : ∀ l : List UInt8, l.all okB = true → clean l := fun l h => clean_of h
    have LT : ∀ r l, scan D (slines s.thens (d + 1) ++ r) l true 0 = scan D r (l + cnts s.thens) true 0 :=
      scan_list D (d + 1) s.thens (fun t ht => ih t (by have := kid_stmt (Or.inl ht : t ∈ s.thens ∨ t ∈ s.elses); omega) (hT t ht) (d + 1) D (by omega))
    have LE : ∀ r l, scan D (slines s.elses (d + 1) ++ r) l true 0 = scan D r (l + cnts s.elses) true 0 :=
      scan_list D (d + 1) s.elses (fun t ht => ih t (by have := kid_stmt (Or.inr ht : t ∈ s.thens ∨ t ∈ s.elses); omega) (hE t ht) (d + 1) D (by omega))
    have hc := cnt_eq s
    rw [stext_eq]
    by_cases c1 : s.does = 1
    · rw [if_neg (by omega), if_neg (by omega)] at hc
      rw [if_pos c1, hc]
      have e : tabs d ++ [108, 101, 116, 32] ++ s.name.data.toList ++ [32, 61, 32] ++ atL s.es 0 ++ [59, 10] ++ r = tabs d ++ (([108, 101, 116, 32] ++ s.name.data.toList ++ [32, 61, 32] ++ atL s.es 0 ++ [59]) ++ 10 :: r) := by simp
      rw [e, scan_line D d _ r l (clean_add (clean_add (clean_add (clean_add (C _ (by decide)) hN) (C _ (by decide))) h0) (C _ (by decide))) (by simp) hD]
      rfl
    rw [if_neg c1]
    by_cases c2 : s.does = 2
    · rw [if_neg (by omega), if_neg (by omega)] at hc
      rw [if_pos c2, hc]
      have e : tabs d ++ s.name.data.toList ++ [32, 61, 32] ++ atL s.es 0 ++ [59, 10] ++ r = tabs d ++ ((s.name.data.toList ++ [32, 61, 32] ++ atL s.es 0 ++ [59]) ++ 10 :: r) := by simp
      rw [e, scan_line D d _ r l (clean_add (clean_add (clean_add hN (C _ (by decide))) h0) (C _ (by decide))) (by simp) hD]
      rfl
    rw [if_neg c2]
    by_cases c3 : s.does = 3
    · rw [if_neg (by omega), if_neg (by omega)] at hc
      rw [if_pos c3, hc]
      have e : tabs d ++ s.name.data.toList ++ [91] ++ atL s.es 0 ++ [93, 32, 61, 32] ++ atL s.es 1 ++ [59, 10] ++ r = tabs d ++ ((s.name.data.toList ++ [91] ++ atL s.es 0 ++ [93, 32, 61, 32] ++ atL s.es 1 ++ [59]) ++ 10 :: r) := by simp
      rw [e, scan_line D d _ r l (clean_add (clean_add (clean_add (clean_add (clean_add hN (C _ (by decide))) h0) (C _ (by decide))) h1) (C _ (by decide))) (by simp) hD]
      rfl
    rw [if_neg c3]
    by_cases c4 : s.does = 4
    · rw [if_pos (Or.inl c4)] at hc
      rw [if_pos c4]
      by_cases ce : s.elses = []
      · rw [if_neg (fun h => h.2 ce), Nat.add_zero] at hc
        rw [if_pos ce, hc]
        have e : tabs d ++ [105, 102, 32] ++ atL s.es 0 ++ [32, 123, 10] ++ slines s.thens (d + 1) ++ tabs d ++ [125] ++ [10] ++ r = tabs d ++ (([105, 102, 32] ++ atL s.es 0 ++ [32, 123]) ++ 10 :: (slines s.thens (d + 1) ++ (tabs d ++ ([125] ++ 10 :: r)))) := by simp
        rw [e, scan_line D d _ _ l (clean_add (clean_add (C _ (by decide)) h0) (C _ (by decide))) (by simp) hD, LT, scan_line D d [125] r _ (C _ (by decide)) (by simp) hD]
        congr 1
        omega
      · rw [if_pos ⟨c4, ce⟩] at hc
        rw [if_neg ce, hc]
        have e : tabs d ++ [105, 102, 32] ++ atL s.es 0 ++ [32, 123, 10] ++ slines s.thens (d + 1) ++ tabs d ++ [125] ++ ([32, 101, 108, 115, 101, 32, 123, 10] ++ slines s.elses (d + 1) ++ tabs d ++ [125]) ++ [10] ++ r
            = tabs d ++ (([105, 102, 32] ++ atL s.es 0 ++ [32, 123]) ++ 10 :: (slines s.thens (d + 1) ++ (tabs d ++ ([125, 32, 101, 108, 115, 101, 32, 123] ++ 10 :: (slines s.elses (d + 1) ++ (tabs d ++ ([125] ++ 10 :: r))))))) := by simp
        rw [e, scan_line D d _ _ l (clean_add (clean_add (C _ (by decide)) h0) (C _ (by decide))) (by simp) hD, LT, scan_line D d [125, 32, 101, 108, 115, 101, 32, 123] _ _ (C _ (by decide)) (by simp) hD, LE, scan_line D d [125] r _ (C _ (by decide)) (by simp) hD]
        congr 1
        omega
    rw [if_neg c4]
    by_cases c5 : s.does = 5
    · rw [if_pos (Or.inr c5), if_neg (by omega), Nat.add_zero] at hc
      rw [if_pos c5, hc]
      have e : tabs d ++ [119, 104, 105, 108, 101, 32] ++ atL s.es 0 ++ [32, 123, 10] ++ slines s.thens (d + 1) ++ tabs d ++ [125, 10] ++ r = tabs d ++ (([119, 104, 105, 108, 101, 32] ++ atL s.es 0 ++ [32, 123]) ++ 10 :: (slines s.thens (d + 1) ++ (tabs d ++ ([125] ++ 10 :: r)))) := by simp
      rw [e, scan_line D d _ _ l (clean_add (clean_add (C _ (by decide)) h0) (C _ (by decide))) (by simp) hD, LT, scan_line D d [125] r _ (C _ (by decide)) (by simp) hD]
      congr 1
      omega
    rw [if_neg (by omega), if_neg (by omega)] at hc
    rw [if_neg c5, hc]
    by_cases c6 : s.does = 6
    · rw [if_pos c6]
      have e : tabs d ++ [114, 101, 116, 117, 114, 110, 32] ++ atL s.es 0 ++ [59, 10] ++ r = tabs d ++ (([114, 101, 116, 117, 114, 110, 32] ++ atL s.es 0 ++ [59]) ++ 10 :: r) := by simp
      rw [e, scan_line D d _ r l (clean_add (clean_add (C _ (by decide)) h0) (C _ (by decide))) (by simp) hD]
      rfl
    · rw [if_neg c6]
      have e : tabs d ++ atL s.es 0 ++ [59, 10] ++ r = tabs d ++ ((atL s.es 0 ++ [59]) ++ 10 :: r) := by simp
      rw [e, scan_line D d _ r l (clean_add h0 (C _ (by decide))) (by simp) hD]
      rfl
theorem scan_stmt (s : Stmt) (hp : plainS s = true) (D : Int) (h0 : 0 ≤ D) : scan D (stext s D.toNat) 0 true 0 = some ((cnt s : Int), true, 0) := by
  have h := scan_text _ s (Nat.le_refl _) hp D.toNat D (by omega) [] 0
  rw [List.append_nil, scan, Int.zero_add] at h
  exact h
end Go.Proofs.YtpbeplepcbhamaaDoor
