/- How deep a parser is: as deep behind a part as ahead of it. -/
import Derived.Test.YtgenlgfbjlclbaaDoorPure
namespace Go.Proofs.YtgenlgfbjlclbaaDoor

namespace PS
theorem fail_deep (s : PS) (e : Int) : (s.fail e).deep = s.deep := by unfold PS.fail; split <;> rfl
theorem skip_deep' (s : PS) : s.skip.deep = s.deep := by unfold PS.skip; split <;> rfl
theorem want_deep (s : PS) (m : Bytes) : (s.want m).deep = s.deep := by
  unfold PS.want
  split
  · exact fail_deep s 12
  · exact skip_deep' s
theorem name_deep (s : PS) : s.name.2.deep = s.deep := by
  unfold PS.name
  split
  · exact fail_deep s 12
  · exact skip_deep' s
theorem down_deep (s : PS) : s.down.2.deep = if s.down.1 = true then s.deep + 1 else s.deep := by
  unfold PS.down
  split
  · rfl
  · split
    · exact fail_deep s 13
    · rfl
theorem up_deep' (s : PS) : s.up.deep = s.deep - 1 := rfl
end PS

/-- Each of them leaves the depth as it was. -/
structure Deep (p : Ps) : Prop where
  expr : ∀ l s x s', p.expr l s = some (x, s') → s'.deep = s.deep
  rest : ∀ l a s x s', p.rest l a s = some (x, s') → s'.deep = s.deep
  whole : ∀ s x s', p.whole s = some (x, s') → s'.deep = s.deep
  unary : ∀ s x s', p.unary s = some (x, s') → s'.deep = s.deep
  primary : ∀ q s x s', p.primary q s = some (x, s') → s'.deep = s.deep
  args : ∀ o s x s', p.args o s = some (x, s') → s'.deep = s.deep
  block : ∀ s x s', p.block s = some (x, s') → s'.deep = s.deep
  stmts : ∀ o s x s', p.stmts o s = some (x, s') → s'.deep = s.deep
  stmt : ∀ s x s', p.stmt s = some (x, s') → s'.deep = s.deep
  choice : ∀ q s x s', p.choice q s = some (x, s') → s'.deep = s.deep
  turn : ∀ q s x s', p.turn q s = some (x, s') → s'.deep = s.deep
theorem bind_deep {α β : Type} {o : Option (α × PS)} {f : α × PS → Option (β × PS)} {x : β} {s' : PS} {d : Int} (h : o.bind f = some (x, s')) (h1 : ∀ y t, o = some (y, t) → t.deep = d) (h2 : ∀ y t, t.deep = d → f (y, t) = some (x, s') → s'.deep = d) : s'.deep = d := by
  obtain ⟨⟨y, t⟩, ho, hf⟩ := Option.bind_eq_some_iff.1 h
  exact h2 y t (h1 y t ho) hf
theorem some_deep {β : Type} {x y : β} {t s' : PS} {d : Int} (h : some (y, t) = some (x, s')) (ht : t.deep = d) : s'.deep = d := by
  obtain ⟨_, rfl⟩ := Prod.mk.inj (Option.some.inj h)
  exact ht

theorem deep_succ {p : Ps} (D : Deep p) : Deep ⟨psExpr p, psRest p, psWhole p, psUnary p, psPrimary p, psArgs p, psBlock p, psStmts p, psStmt p, psChoice p, psTurn p⟩ where
  expr l s x s' h := by
    replace h : psExpr p l s = some (x, s') := h
    unfold psExpr at h
    split at h
    · exact D.unary _ _ _ h
    · exact bind_deep h (fun y t ht => D.expr _ _ _ _ ht) fun y t ht hf => (D.rest _ _ _ _ _ hf).trans ht
  rest l a s x s' h := by
    replace h : psRest p l a s = some (x, s') := h
    unfold psRest at h
    split at h
    · exact some_deep h rfl
    · simp only [] at h
      split at h
      · exact some_deep h rfl
      · refine bind_deep h (fun y t ht => (D.expr _ _ _ _ ht).trans (PS.skip_deep' s)) fun y t ht hf => ?_
        split at hf
        · exact some_deep hf ht
        · exact (D.rest _ _ _ _ _ hf).trans ht
  whole s x s' h := by
    replace h : psWhole p s = some (x, s') := h
    unfold psWhole at h
    split at h
    · rename_i hd
      obtain ⟨⟨y, t⟩, h1, h2⟩ := Option.bind_eq_some_iff.1 h
      refine some_deep h2 ?_
      rw [PS.up_deep', D.expr _ _ _ _ h1, PS.down_deep, if_pos hd]
      omega
    · rename_i hd
      exact some_deep h (by rw [PS.down_deep, if_neg hd])
  unary s x s' h := by
    replace h : psUnary p s = some (x, s') := h
    unfold psUnary at h
    split at h
    · exact some_deep h rfl
    · split at h
      · split at h
        · rename_i hd
          obtain ⟨⟨y, t⟩, h1, h2⟩ := Option.bind_eq_some_iff.1 h
          refine some_deep h2 ?_
          rw [PS.up_deep', D.unary _ _ _ h1, PS.skip_deep', PS.down_deep, if_pos hd]
          omega
        · rename_i hd
          exact some_deep h (by rw [PS.down_deep, if_neg hd])
      · exact D.primary _ _ _ _ h
  primary q s x s' h := by
    replace h : psPrimary p q s = some (x, s') := h
    unfold psPrimary at h
    split at h
    · exact some_deep h (PS.skip_deep' s)
    · split at h
      · exact some_deep h (PS.skip_deep' s)
      · split at h
        · exact some_deep h (PS.skip_deep' s)
        · split at h
          · exact bind_deep h (fun y t ht => (D.whole _ _ _ ht).trans (PS.skip_deep' s)) fun y t ht hf => some_deep hf ((PS.want_deep _ _).trans ht)
          · simp only [] at h
            split at h
            · exact bind_deep h (fun y t ht => (D.whole _ _ _ ht).trans ((PS.skip_deep' _).trans (PS.name_deep s))) fun y t ht hf => some_deep hf ((PS.want_deep _ _).trans ht)
            · split at h
              · exact bind_deep h (fun y t ht => (D.args _ _ _ _ ht).trans ((PS.skip_deep' _).trans (PS.name_deep s))) fun y t ht hf => some_deep hf ht
              · exact some_deep h (PS.name_deep s)
  args o s x s' h := by
    replace h : psArgs p o s = some (x, s') := h
    unfold psArgs at h
    split at h
    · exact some_deep h (PS.want_deep _ _)
    · refine bind_deep h (fun y t ht => (D.whole _ _ _ ht).trans ?_) fun y t ht hf => (D.args _ _ _ _ hf).trans ht
      split
      · rfl
      · exact PS.want_deep _ _
  block s x s' h := by
    replace h : psBlock p s = some (x, s') := h
    unfold psBlock at h
    simp only [] at h
    split at h
    · rename_i hd
      obtain ⟨⟨y, t⟩, h1, h2⟩ := Option.bind_eq_some_iff.1 h
      refine some_deep h2 ?_
      rw [PS.up_deep', D.stmts _ _ _ _ h1, PS.down_deep, if_pos hd, PS.want_deep]
      omega
    · rename_i hd
      exact some_deep h (by rw [PS.down_deep, if_neg hd, PS.want_deep])
  stmts o s x s' h := by
    replace h : psStmts p o s = some (x, s') := h
    unfold psStmts at h
    split at h
    · exact some_deep h (PS.want_deep _ _)
    · exact bind_deep h (fun y t ht => D.stmt _ _ _ ht) fun y t ht hf => (D.stmts _ _ _ _ hf).trans ht
  stmt s x s' h := by
    replace h : psStmt p s = some (x, s') := h
    unfold psStmt at h
    simp only [] at h
    split at h
    · exact bind_deep h (fun y t ht => (D.whole _ _ _ ht).trans ((PS.want_deep _ _).trans ((PS.name_deep _).trans (PS.skip_deep' s)))) fun y t ht hf => some_deep hf ((PS.want_deep _ _).trans ht)
    · split at h
      · exact (D.choice _ _ _ _ h).trans (PS.skip_deep' s)
      · split at h
        · exact bind_deep h (fun y t ht => (D.whole _ _ _ ht).trans (PS.skip_deep' s)) fun y t ht hf => bind_deep hf (fun z u hu => (D.block _ _ _ hu).trans ht) fun z u hu hg => some_deep hg hu
        · split at h
          · exact bind_deep h (fun y t ht => (D.whole _ _ _ ht).trans (PS.skip_deep' s)) fun y t ht hf => some_deep hf ((PS.want_deep _ _).trans ht)
          · exact bind_deep h (fun y t ht => D.turn _ _ _ _ ht) fun y t ht hf => some_deep hf ((PS.want_deep _ _).trans ht)
  choice q s x s' h := by
    replace h : psChoice p q s = some (x, s') := h
    unfold psChoice at h
    refine bind_deep h (fun y t ht => D.whole _ _ _ ht) fun y t ht hf => bind_deep hf (fun z u hu => (D.block _ _ _ hu).trans ht) fun z u hu hg => ?_
    split at hg
    · exact some_deep hg hu
    · simp only [] at hg
      split at hg
      · exact bind_deep hg (fun c v hv => (D.block _ _ _ hv).trans ((PS.skip_deep' u).trans hu)) fun c v hv he => some_deep he hv
      · split at hg
        · rename_i hd
          obtain ⟨⟨c, v⟩, h1, h2⟩ := Option.bind_eq_some_iff.1 hg
          refine some_deep h2 ?_
          rw [PS.up_deep', D.choice _ _ _ _ h1, PS.down_deep, if_pos hd, PS.skip_deep', PS.skip_deep', hu]
          omega
        · rename_i hd
          exact some_deep hg (by rw [PS.down_deep, if_neg hd, PS.skip_deep', PS.skip_deep', hu])
  turn q s x s' h := by
    replace h : psTurn p q s = some (x, s') := h
    unfold psTurn at h
    refine bind_deep h (fun y t ht => D.whole _ _ _ ht) fun y t ht hf => ?_
    split at hf
    · exact some_deep hf ht
    · split at hf
      · exact bind_deep hf (fun z u hu => (D.whole _ _ _ hu).trans ((PS.skip_deep' t).trans ht)) fun z u hu hg => some_deep hg hu
      · split at hf
        · split at hf
          · cases hf
          · exact bind_deep hf (fun z u hu => (D.whole _ _ _ hu).trans ((PS.skip_deep' t).trans ht)) fun z u hu hg => some_deep hg hu
        · split at hf
          · exact some_deep hf ht
          · exact some_deep hf ((PS.fail_deep t 12).trans ht)
theorem deep_all : ∀ n, Deep (ps n)
  | 0 => ⟨fun _ _ _ _ h => (by cases h), fun _ _ _ _ _ h => (by cases h), fun _ _ _ h => (by cases h), fun _ _ _ h => (by cases h), fun _ _ _ _ h => (by cases h), fun _ _ _ _ h => (by cases h), fun _ _ _ h => (by cases h), fun _ _ _ _ h => (by cases h), fun _ _ _ h => (by cases h), fun _ _ _ _ h => (by cases h), fun _ _ _ _ h => (by cases h)⟩
  | n + 1 => deep_succ (deep_all n)
end Go.Proofs.YtgenlgfbjlclbaaDoor
