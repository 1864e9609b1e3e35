/- AstProgs: what it computes, where what came in is of small bulk. -/
import Derived.Test.YtpbeplepcbhamaaDoorBulkS
import Derived.Test.YtpbeplepcbhamaaDoorEntire
namespace Go.Proofs.YtpbeplepcbhamaaDoor
open Go.RowKit Go.Proofs.YtpbeplepcbhamaaDoorW.PrintWords Go.Proofs.YtpbeplepcbhamaaDoorW.PrintLast Go.Proofs.YtpbeplepcbhamaaDoorW.PrintMore

theorem flat_len {α : Type} (f : α → List UInt8) (b : α → Nat) (q : Nat) : ∀ (xs : List α), (∀ x, x ∈ xs → (f x).length ≤ q * b x) → (xs.map f).flatten.length ≤ q * bsum b xs
  | [], _ => by simp [bsum]
  | x :: r, h => by
    have h1 := h x (by simp)
    have h2 := flat_len f b q r (fun y hy => h y (by simp [hy]))
    rw [List.map_cons, List.flatten_cons, List.length_append, bsum, Nat.mul_add]
    omega
theorem params_len : ∀ (xs : List ByteArray), ((xs.map (·.data.toList)).map List.length).sum + 2 * xs.length ≤ 2 * bsum bN xs
  | [] => by simp [bsum]
  | x :: r => by
    have h := params_len r
    simp only [List.map_cons, List.sum_cons, List.length_cons, bsum, bN, size_toList]
    omega
theorem gtext_len (g : Global) (hw : wG g) : (gtext g).length ≤ 40000 * bG g := by
  have hi := Lib.itoa_length_le g.size hw.1 hw.2
  have hh : (holdL g.hold).length ≤ 7 := by
    unfold holdL
    split
    · decide
    · split <;> decide
  have hs : (if 0 < g.size then [91] ++ Lib.itoa g.size ++ [93] else [] : List UInt8).length ≤ (Lib.itoa g.size).length + 2 := by
    split
    · simp only [List.length_append, List.length_cons, List.length_nil]
      omega
    · simp
  rw [gtext, bG]
  simp only [List.length_append, List.length_cons, List.length_nil, size_toList] at hs ⊢
  omega
theorem sfits_mk {d : Nat} : ∀ {l : List Stmt}, (∀ y, y ∈ l → SFit y d) → SFits l d
  | [], _ => by rw [SFits]; trivial
  | x :: r, h => by
    rw [SFits]
    exact ⟨h x (by simp), sfits_mk fun y hy => h y (by simp [hy])⟩
theorem few_body {f : Fun} (h : fewF f = true) : f.name.size ≤ 40 ∧ f.params.length ≤ 10 ∧ ∀ s, s ∈ f.body → fewSt s 0 = true := by
  rw [fewF, fewSs_eq] at h
  simp only [Bool.and_eq_true, decide_eq_true_eq, List.all_eq_true] at h
  exact ⟨h.1, h.2.1, h.2.2.1.2.2⟩
theorem ftext_len (f : Fun) (hw : wF f) (hf : fewF f = true) : (ftext f).length ≤ 40000 * bF f := by
  obtain ⟨h1, h2, h3⟩ := few_body hf
  have hb := slines_len 40000 1 f.body (fun t ht => stext_len _ t (Nat.le_refl _) (hw t ht) 0 1 (h3 t ht) (by decide))
  have hj := join_len [44, 32] (f.params.map (·.data.toList))
  have hp := params_len f.params
  rw [ftext, bF, bSs_sum]
  simp only [List.length_append, List.length_cons, List.length_nil, size_toList, List.length_map] at hj ⊢
  omega
theorem prFit_of (p : Prog) (hw : wP p) (hf : fewP p = true) (hb : bP p ≤ 1048576) : PrFit p := by
  rw [fewP] at hf
  simp only [Bool.and_eq_true, decide_eq_true_eq, List.all_eq_true] at hf
  obtain ⟨h1, h2, h3, h4⟩ := hf
  rw [bP] at hb
  have hg := flat_len gtext bG 40000 p.globals (fun x hx => gtext_len x (hw.1 x hx))
  have hh := flat_len ftext bF 40000 p.funcs (fun x hx => ftext_len x (hw.2 x hx) (h4 x hx))
  refine ⟨?_, fun f hf => ?_, fun f hf => ?_⟩
  · rw [ptext, List.length_append]
    omega
  · have hm := bsum_mem bF p.funcs f hf
    obtain ⟨_, _, h6⟩ := few_body (h4 f hf)
    refine sfits_mk fun s hs => sfit_of _ s (Nat.le_refl _) (hw.2 f hf s hs) 0 1 (h6 s hs) (by decide) ?_
    have hn := bsum_mem bS f.body s hs
    have : bF f = 1 + f.name.size + bsum bN f.params + bsum bS f.body := by rw [bF, bSs_sum]
    omega
  · obtain ⟨_, h5, _⟩ := few_body (h4 f hf)
    omega
theorem progs_all (p : Prog) (cs : List Value) (w : World) (hx : kProg.K w p cs) (hg : Glob w) (hw : wP p) (hb : bP p ≤ 1048576) :
    Calls Tryd.prog 6 #[.agg cs.toArray] w fun e w' => e = .returned (.bool true) ∧ Below w.heap.size w w' := by
  cases hf : fewP p with
  | false => exact progs_few p cs w hx hg hf
  | true => exact progs_walk p cs w hx hg hf (prFit_of p hw hf hb)
end Go.Proofs.YtpbeplepcbhamaaDoor
