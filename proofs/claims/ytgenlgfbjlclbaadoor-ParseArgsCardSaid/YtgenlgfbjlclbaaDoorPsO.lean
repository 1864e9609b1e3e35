/- What the walk of Program needs: the lexer's answer, a parser just made, a function as a value of the frame. -/
import Derived.Test.YtgenlgfbjlclbaaDoorPsN
import Derived.Test.YtgenlgfbjlclbaaDoorLexE
namespace Go.Proofs.YtgenlgfbjlclbaaDoor
open Go.RowKit Go.Proofs.YtgenlgfbjlclbaaDoorW.PrintWords Go.Proofs.YtgenlgfbjlclbaaDoorW.PrintLast Go.Proofs.YtgenlgfbjlclbaaDoorW.PrintMore
set_option linter.unusedVariables false
set_option linter.unusedSimpArgs false

theorem blankL_len : ∀ (l : Bytes) (b : Bool) (p : Pos), (blankL b p l).2.length ≤ l.length
  | [], b, p => by cases b <;> simp [blankL]
  | c :: r, true, p => by
    rw [blankL]
    split
    · exact Nat.le_succ_of_le (blankL_len r false _)
    · exact Nat.le_succ_of_le (blankL_len r true _)
  | c :: r, false, p => by
    rw [blankL]
    split
    · exact Nat.le_succ_of_le (blankL_len r false _)
    · split
      · exact Nat.le_succ_of_le (blankL_len r true _)
      · exact Nat.le_refl _
theorem lexF_wt : ∀ (n : Nat) (p : Pos) (l : Bytes) (out ts : List Token), (∀ t, t ∈ out → t.kind ≠ 0) → lexF n p l out = .ok ts → WT ts
  | 0, _, _, _, _, _, h => by cases h
  | n + 1, p, l, out, ts, ho, h => by
    simp only [lexF] at h
    split at h
    · cases h
    · rename_i t ht
      split at h
      · rename_i h0
        cases h
        exact ⟨out, t, rfl, h0, ho⟩
      · rename_i h0
        exact lexF_wt n _ _ _ ts (fun u hu => by
          rcases List.mem_append.1 hu with h1 | h1
          · exact ho u h1
          · rw [List.mem_singleton.1 h1]; exact h0) h
theorem lexL_wt {l : Bytes} {ts : List Token} (h : lexL l = .ok ts) : WT ts := by
  unfold lexL at h
  split at h
  · cases h
  · exact lexF_wt _ _ _ _ ts (fun _ h => (by cases h)) h
theorem all_err (ga : GA) (N : Nat) (s : ByteArray) (w : World) (hG : GP ga N w) (f : Fault) (h : lexL s.data.toList = .error f) :
    Calls Tryd.prog 20 #[.string s] w fun e w' => e = .returned (.tuple #[.slice none 0 0, .agg #[.int .i64 f.e, .int .i64 f.pos.line, .int .i64 f.pos.col]]) ∧ Below w.heap.size w w' :=
  (all_calls ga N s w hG).mono (fun e w' h1 => by
    rcases h1.2 with ⟨f', h2, _, h4⟩ | ⟨ts, v, h2, _⟩
    · rw [h] at h2
      cases h2
      exact ⟨h4, h1.1⟩
    · rw [h] at h2
      cases h2)
theorem err_ne {ga : GA} {N : Nat} {s : ByteArray} {w : World} (hG : GP ga N w) {f : Fault} (h : lexL s.data.toList = .error f) : f.e ≠ 0 := by
  unfold lexL at h
  split at h
  · cases h; decide
  · rename_i hl
    have key : ∀ (n : Nat) (p : Pos) (l : Bytes) (out : List Token), l.length < n → lexF n p l out = .error f → f.e ≠ 0 := by
      intro n
      induction n with
      | zero => intro p l out hlt; omega
      | succ n ih =>
        intro p l out hlt hf
        cases htk : tokenL (blankL false p l).1 (blankL false p l).2 with
        | error k =>
          rw [lexF_err _ _ _ _ _ htk] at hf
          cases hf
          rcases tok_err htk with h | h
          · rw [h]; exact (by decide : (10 : Int) ≠ 0)
          · rw [h]; exact (by decide : (11 : Int) ≠ 0)
        | ok t =>
          by_cases h0 : t.kind = 0
          · rw [lexF_end _ _ _ _ _ htk h0] at hf
            cases hf
          · rw [lexF_more _ _ _ _ _ htk h0] at hf
            refine ih _ _ _ ?_ hf
            have h1 : 1 ≤ t.text.size := by
              rcases tok_ok htk with h | h
              · exact absurd h.1 h0
              · exact h.2
            have h2 : (blankL false p l).2.length ≤ l.length := blankL_len l false p
            rw [List.length_drop]
            cases hb : (blankL false p l).2 with
            | nil =>
              rw [hb] at htk
              cases htk
              exact absurd rfl h0
            | cons c r =>
              rw [hb] at h2
              simp only [List.length_cons] at h2 ⊢
              omega
    exact key _ _ _ _ (by omega) h
theorem all_ok (ga : GA) (N : Nat) (s : ByteArray) (w : World) (hG : GP ga N w) (ts : List Token) (h : lexL s.data.toList = .ok ts) :
    Calls Tryd.prog 20 #[.string s] w fun e w' => ∃ A c, e = .returned (.tuple #[.slice A ts.length c, .agg #[.int .i64 0, .int .i64 0, .int .i64 0]]) ∧ Below w.heap.size w w' ∧ Foot (fun W => ts.length ≤ c ∧ kToken.C W A ts.length ts) w' (fun k => w.heap.size ≤ k) :=
  (all_calls ga N s w hG).mono (fun e w' h1 => by
    rcases h1.2 with ⟨f', h2, _⟩ | ⟨ts', v, h2, h3, h4⟩
    · rw [h] at h2
      cases h2
    · rw [h] at h2
      cases h2
      obtain ⟨A, c, rfl⟩ := Kd.N_slice h4
      exact ⟨A, c, h3, h1.1, Foot.imp (Kd.N_F h4) (fun W' h => ⟨(Kd.N_reads' h4).2.1, h⟩)⟩)
theorem GP.up {a : GA} {N g : Nat} {w : World} (h : GP a N w) (hN : N ≤ g) (hg : g ≤ w.heap.size) : GP a g w := ⟨hg, fun W' hW => h.all W' fun k hk => hW k (Nat.lt_of_lt_of_le hk hN)⟩
/-- A parser just made. -/
theorem pst_new {ga : GA} {N g c : Nat} {B : Nat → Prop} {w0 w w' : World} {A : Option Addr} {ts : List Token} {os : List Ow} {vs : List Vl} {ok : Nat → Prop} (hG : GP ga N w) (hN : N ≤ w.heap.size)
    (F : Fq B w0 os (⟨ok, fun W => ts.length ≤ c ∧ kToken.C W A ts.length ts⟩ :: vs) w) (hg : g = w.heap.size) (hb : Below w.heap.size w w') (hh : w'.heap[g]? = some (.cells #[.slice A ts.length c, .int .i64 0, .int .i64 0, .int .i64 0, .int .i64 0] 68 (0, 0))) (wt : WT ts) :
    PSt ga g ⟨ts, 0, zFault⟩ w' := by
  have hv := F.val _ (.head _)
  obtain ⟨t, r, hts, _⟩ := wt.cons
  have hn : 0 < ts.length := by rw [hts]; simp
  obtain ⟨ad, rfl, _⟩ := (Foot.now hv.1).2.2.2 hn
  have hlt := blk_lt hh
  refine ⟨(hG.below hb).up (by omega) (Nat.le_of_lt hlt), wt, Int.le_refl 0, (by show (0 : Int) ≤ 200; decide), ad, c, hh, ?_, (Foot.now hv.1).1⟩
  exact Foot.mono (Foot.imp (Foot.step hv.1 (fun k hk hl => hb.block k hl)) (fun W' h => h.2)) (fun k hk => by have := ((hv.2 k hk).2).1; omega)
section
variable {a : GA} {g : Nat} {w0 w w' : World} {s s' : PS} {os : List Ow} {vs : List Vl} {u1 u2 u3 : Vl}
theorem Fr.fc (F : Fr a g w0 s os vs w) {f : FuncId} {args : Array Value} {x : Fun} (h : Calls Tryd.prog f args w (FPost a g w x s')) : Calls Tryd.prog f args w (fun e w' => ∃ A1 c1 A2 c2 ok, e = .returned (.agg #[.string x.name, .slice A1 x.params.length c1, .slice A2 x.body.length c2, .int .i64 x.pos.line, .int .i64 x.pos.col]) ∧ Fr a g w0 s' os (⟨ok, fun W => kFun.K W x [.string x.name, .slice A1 x.params.length c1, .slice A2 x.body.length c2, .int .i64 x.pos.line, .int .i64 x.pos.col]⟩ :: vs) w' ∧ (∀ k, ok k → w.heap.size ≤ k)) :=
  h.mono (fun e w' h => by
    obtain ⟨A1, c1, A2, c2, he, hf, hc, hp⟩ := h
    have F' := F.chg hc hp
    refine ⟨A1, c1, A2, c2, fun k => w.heap.size ≤ k ∧ k < w'.heap.size, he, ⟨F'.g0, F'.ch, F'.ps, F'.own, F'.apart, fun v hv => ?_⟩, fun k hk => hk.1⟩
    rcases List.mem_cons.1 hv with rfl | hv
    · exact ⟨Foot.bound hf, fun k hk => ⟨Nat.le_trans F.ch.size hk.1, hk.2, fun o ho he => Nat.lt_irrefl _ (Nat.lt_of_lt_of_le (blk_lt (F.own o ho).1) (he ▸ hk.1))⟩⟩
    · exact F'.val v hv)
theorem Fr.turn312 (F : Fr a g w0 s os [u1, u2, u3] w) : Fr a g w0 s os [u3, u2, u1] w := F.keep (fun v hv => by
  simp only [List.mem_cons, List.not_mem_nil, or_false] at hv ⊢
  rcases hv with h | h | h
  · exact .inr (.inr h)
  · exact .inr (.inl h)
  · exact .inl h)
theorem Fr.turn32 (F : Fr a g w0 s os [u1, u2, u3] w) : Fr a g w0 s os [u2, u1] w := F.keep (fun v hv => by
  simp only [List.mem_cons, List.not_mem_nil, or_false] at hv ⊢
  rcases hv with h | h
  · exact .inr (.inl h)
  · exact .inl h)
theorem Fr.turn21 (F : Fr a g w0 s os [u1, u2] w) : Fr a g w0 s os [u2, u1] w := F.keep (fun v hv => by
  simp only [List.mem_cons, List.not_mem_nil, or_false] at hv ⊢
  rcases hv with h | h
  · exact .inr h
  · exact .inl h)
/-- A row of the call's own, all appended: it is read; and the one behind it. -/
theorem Fr.two_read {α β : Type} {d : Kd α} {d2 : Kd β} {e e2 n c n2 c2 : Nat} {A A2 : Option Addr} {ok ok2 : Nat → Prop} {xs : List α} {ys : List β} (F : Fr a g w0 s os [⟨ok, fun W => Kd.N d e W w0.heap.size ok (.slice A n c) xs⟩, ⟨ok2, fun W => Kd.N d2 e2 W w0.heap.size ok2 (.slice A2 n2 c2) ys⟩] w) :
    Foot (fun W => (xs.length ≤ c ∧ d.C W A xs.length xs) ∧ ys.length ≤ c2 ∧ d2.C W A2 ys.length ys) w (fun k => w0.heap.size ≤ k) :=
  foot_two F.rowRead.v1 F.turn21.rowRead.v1 (fun _ h k => ⟨h, k⟩)
/-- What the parser's walk leaves of an elder frame. -/
theorem Fq.after {B : Nat → Prop} {w1 : World} (Q : Fq B w os vs w1) (ch : Chg g w1 w') (hg : w.heap.size ≤ g) (hne : ∀ o, o ∈ os → o.b ≠ g) : Fq B w os [] w' :=
  ⟨below_chg Q.bl Q.bl.size hg ch, Q.bb, fun o ho => ⟨ch.blk (Q.own o ho).1 (hne o ho), (Q.own o ho).2⟩, Q.apart, fun v hv => by cases hv⟩
theorem Fq.own_ne {B : Nat → Prop} {g' : Nat} (Q : Fq B w0 os vs w) (hg : g' = w.heap.size) : ∀ o, o ∈ os → o.b ≠ g' := fun o ho he => by
  have := blk_lt (Q.own o ho).1
  omega
theorem Fq.addOwn {B : Nat → Prop} {b : Nat} {cs : Array Value} {T : TypeId} (Q : Fq B w os [] w') (h : w'.heap[b]? = some (.cells cs T (0, 0))) (hb : w.heap.size ≤ b) (hne : ∀ o, o ∈ os → o.b ≠ b) : Fq B w (⟨b, cs, T⟩ :: os) [] w' :=
  ⟨Q.bl, Q.bb, fun o ho => by
    rcases List.mem_cons.1 ho with rfl | ho
    · exact ⟨h, hb⟩
    · exact Q.own o ho, List.pairwise_cons.2 ⟨fun o ho => Ne.symm (hne o ho), Q.apart⟩, fun v hv => by cases hv⟩
/-- .. with a value made since. -/
theorem Fq.put_val {B : Nat → Prop} {P : World → Prop} {ok : Nat → Prop} (Q : Fq B w os vs w') (h : Foot P w' ok) (hok : ∀ k, ok k → w.heap.size ≤ k ∧ ∀ o, o ∈ os → k ≠ o.b) : ∃ ok', Fq B w os (⟨ok', P⟩ :: vs) w' :=
  ⟨fun k => ok k ∧ k < w'.heap.size, Q.bl, Q.bb, Q.own, Q.apart, fun v hv => by
    rcases List.mem_cons.1 hv with rfl | hv
    · exact ⟨Foot.bound h, fun k hk => ⟨Q.bb k (hok k hk.1).1, hk.2, (hok k hk.1).2⟩⟩
    · exact Q.val v hv⟩
/-- The elder frame behind the loop, with the rows that it left. -/
theorem Fq.program {B : Nat → Prop} {w1 : World} {P : World → Prop} (Q : Fq B w os vs w1) (ch : Chg g w1 w') (hg : w.heap.size ≤ g) (hne : ∀ o, o ∈ os → o.b ≠ g) (h : Foot P w' (fun k => w1.heap.size ≤ k)) : ∃ ok', Fq B w os [⟨ok', P⟩] w' :=
  (Q.after ch hg hne).put_val h (fun k hk => ⟨Nat.le_trans Q.bl.size hk, fun o ho he => Nat.lt_irrefl _ (Nat.lt_of_lt_of_le (blk_lt (Q.own o ho).1) (he ▸ hk))⟩)
end
theorem results_cc {P : Program} {fn : Func} {p q : Tmp} {ty ty2 : TypeId} (h : fn.results = #[.cell p ty, .cell q ty2]) (tmps : Array Value) (w : World) (g g2 : Nat) (t t2 : TypeId) (cs cs2 : Array Value) (fr fr2 : Nat × Nat) (d d2 : TypeDesc)
    (hp : tmps.getD p undef = .pointer (some ⟨g, 0, none⟩)) (hq : tmps.getD q undef = .pointer (some ⟨g2, 0, none⟩)) (hg : w.heap[g]? = some (.cells cs t fr)) (hg2 : w.heap[g2]? = some (.cells cs2 t2 fr2))
    (hu : P.underlying ty = some d) (hd : (match d with | .struct _ | .array _ _ => true | _ => false) = true) (hi : (P.info? ty).map (·.size) = some cs.size)
    (hu2 : P.underlying ty2 = some d2) (hd2 : (match d2 with | .struct _ | .array _ _ => true | _ => false) = true) (hi2 : (P.info? ty2).map (·.size) = some cs2.size) :
    (results fn tmps).run P w = .ok (.tuple #[.agg cs, .agg cs2]) w := by
  have hp' : tmps[p]?.getD undef = .pointer (some ⟨g, 0, none⟩) := by simpa using hp
  have hq' : tmps[q]?.getD undef = .pointer (some ⟨g2, 0, none⟩) := by simpa using hq
  simp [results, h, hp', hq', asAddr, run_loadVar_row w g t ty cs fr d hg hu hd hi, run_loadVar_row w g2 t2 ty2 cs2 fr2 d2 hg2 hu2 hd2 hi2]
theorem infoGlob2 : (Tryd.prog.info? 75).map (fun i => (i.zero, i.size, i.bytes)) = some (some (.agg #[.string ⟨#[]⟩, .int .i64 0, .int .i64 0, .int .i64 0, .int .i64 0]), 5, 48) := by kernel_rfl
theorem infoFunc2 : (Tryd.prog.info? 41).map (fun i => (i.zero, i.size, i.bytes)) = some (some (.agg #[.string ⟨#[]⟩, .slice none 0 0, .slice none 0 0, .int .i64 0, .int .i64 0]), 5, 80) := by kernel_rfl
end Go.Proofs.YtgenlgfbjlclbaaDoor
