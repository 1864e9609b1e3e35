/- ParseErrors: what the parser answers at its texts, reckoned by the kernel: no program in sight. -/
import Derived.Test.YtgenlgfbjlclbaaDoorPure
namespace Go.Proofs.YtgenlgfbjlclbaaDoor
def rowsB0 : List (Bytes × Int × Int) := [([102, 117, 110, 99], 5, 12), ([102, 117, 110, 99, 32, 102], 7, 12), ([102, 117, 110, 99, 32, 102, 40, 41], 9, 12), ([102, 117, 110, 99, 32, 102, 40, 97, 32, 98, 41, 32, 123, 125], 10, 12), ([102, 117, 110, 99, 32, 102, 40, 97, 44, 41, 32, 123, 125], 10, 12), ([102, 117, 110, 99, 32, 102, 40, 41, 32, 123, 32, 114, 101, 116, 117, 114, 110, 59, 32, 125], 18, 12), ([102, 117, 110, 99, 32, 102, 40, 41, 32, 123, 32, 97, 59, 32, 125], 13, 12), ([102, 117, 110, 99, 32, 102, 40, 41, 32, 123, 32, 49, 32, 61, 32, 50, 59, 32, 125], 14, 12), ([102, 117, 110, 99, 32, 102, 40, 41, 32, 123, 32, 108, 101, 116, 32, 49, 32, 61, 32, 50, 59, 32, 125], 16, 12), ([102, 117, 110, 99, 32, 102, 40, 41, 32, 123, 32, 105, 102, 32, 97, 32, 98, 59, 32, 125], 17, 12), ([102, 117, 110, 99, 32, 102, 40, 41, 32, 123, 32, 103, 40, 97, 32, 98, 41, 59, 32, 125], 16, 12), ([102, 117, 110, 99, 32, 102, 40, 41, 32, 123, 32, 114, 101, 116, 117, 114, 110, 32, 49, 32, 60, 32, 50, 32, 60, 32, 51, 59, 32, 125], 25, 12), ([118, 97, 114, 32, 97, 91, 48, 93, 59], 7, 31), ([118, 97, 114, 32, 97, 91, 52, 48, 57, 55, 93, 59], 7, 31), ([118, 97, 114, 32, 97, 91, 98, 93, 59], 7, 12), ([97], 1, 12), ([102, 117, 110, 99, 32, 102, 40, 41, 32, 123, 32, 114, 101, 116, 117, 114, 110, 32, 40, 49, 59, 32, 125], 21, 12), ([102, 117, 110, 99, 32, 102, 40, 41, 32, 123, 32, 120, 32, 61, 32, 49, 32, 125], 18, 12), ([102, 117, 110, 99, 32, 102, 40, 41, 32, 123, 32, 114, 101, 116, 117, 114, 110, 32, 97, 91, 49, 59, 32, 125], 22, 12), ([102, 117, 110, 99, 32, 102, 40, 41, 32, 123, 32, 36, 32, 125], 12, 10)]
def saysE (l : Bytes) (e line col : Int) : Bool :=
  match parseF 100 l with
  | some (p, f) => p.globals.isEmpty && p.funcs.isEmpty && (f.e == e && (f.pos.line == line && f.pos.col == col))
  | none => false
theorem saysE_spec {l : Bytes} {e line col : Int} (h : saysE l e line col = true) : parseF 100 l = some (⟨[], []⟩, ⟨e, line, col⟩) := by
  unfold saysE at h
  split at h
  · rename_i p f hp
    simp only [Bool.and_eq_true, List.isEmpty_iff, beq_iff_eq] at h
    obtain ⟨⟨h1, h2⟩, h3, h4, h5⟩ := h
    rw [hp]
    cases p with | mk gs fs => cases f with | mk e' p' => cases p' with | mk a b =>
    subst h1 h2 h3 h4 h5
    rfl
  · cases h
def errOk (k j : Nat) : Bool :=
  let x := rowsB0.getD k ([], 0, 0)
  saysE (List.replicate j 32 ++ x.1) x.2.2 1 (x.2.1 + j) && saysE ([118, 97, 114, 32, 111, 107, 59, 10] ++ List.replicate j 32 ++ x.1) x.2.2 2 (x.2.1 + j)
set_option maxRecDepth 1000000
theorem err_all_0 : (List.range 20).all (fun k => (List.range 16).all fun j => errOk k j) = true := by decide +kernel
theorem err_law (k j : Nat) (hk : k < 20) (hj : j < 16) : errOk k j = true := by
  have h := List.all_eq_true.1 err_all_0 k (List.mem_range.2 hk)
  exact List.all_eq_true.1 h j (List.mem_range.2 hj)
end Go.Proofs.YtgenlgfbjlclbaaDoor
