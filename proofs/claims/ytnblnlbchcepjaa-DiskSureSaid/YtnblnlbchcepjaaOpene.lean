/- Deeds, as they are read of an argument. -/
import Derived.Test.YtnblnlbchcepjaaOpend
import Derived.Test.YtnblnlbchcepjaaDlb
namespace Go.Proofs.Ytnblnlbchcepjaa
open Go.RowKit Go.ChangeShapes Go.WideShapes Go.ChangeAt

theorem cells_bool : Try.prog.cellsOf 4 = 1 := by kernel_rfl
theorem cells_de : Try.prog.cellsOf 44 = 3 := by kernel_rfl
theorem opens_de : Opens deE 44 (fun f => f.b.length + 1) (fun f => f.b.length ≤ reachBytes) := by
  intro H enc w base spare held fuel cs x h
  obtain ⟨y0, y1, y2, n, rfl, hl, h0, h1, h2⟩ := Deep.trod_struct3 Try.underlying44 h
  rw [cells_de] at hl
  obtain ⟨u0, u1, u2, rfl⟩ : ∃ u0 u1 u2, cs = [u0, u1, u2] := by
    match cs, hl with
    | [u0, u1, u2], _ => exact ⟨u0, u1, u2, rfl⟩
  simp only [cells_bool, cells_int, cells_bytes, List.drop_zero, List.drop_succ_cons, List.take_succ_cons, List.take_zero] at h0 h1 h2
  obtain ⟨a, e0, _⟩ := DataW.trod_bool Try.underlying4 h0
  obtain ⟨c, e1, rfl, hw1⟩ := DataW.trod_int Try.underlying3 h1
  obtain ⟨l, ⟨v, e3, hs⟩, hm, hf⟩ := opens_slice Try.underlying25 (E := u8E) cells_u8 opens_u8 enc w base spare held n _ _ h2
  simp only [List.cons.injEq, and_true] at e0 e1 e3
  subst e0 e1 e3
  refine ⟨⟨a, c, l⟩, ⟨_, rfl, hs⟩, ?_, fun hz => ?_⟩
  · simp only [Rows.uptoBulk, Rows.uptoBulkAll]
    simp only [sum_one] at hm
    show l.length + 1 ≤ _
    omega
  · rw [DataW.weights, Try.underlying44] at hz
    simp only [List.map_cons, DataW.weightsEach, List.all_append, Bool.and_eq_true] at hz
    have := (hf hz.2.2.1).1
    rw [bytes_u8] at this
    show l.length ≤ reachBytes
    omega
theorem opens_des : Opens (slE deE) 40 (fun l => (l.map fun f => f.b.length + 1).sum + 1) (fun l => l.length * Try.prog.bytesOf 44 ≤ reachBytes ∧ ∀ f ∈ l, f.b.length ≤ reachBytes) :=
  opens_slice Try.underlying40 (E := deE) cells_de opens_de
theorem u16_le {n : Int} (h : (Lit.int .u16 n).wf = true) : 0 ≤ n ∧ n ≤ 65535 := by
  simpa [Lit.wf, IntKind.min, IntKind.max, IntKind.signed, IntKind.bits] using h
theorem u8_le {n : Int} (h : (Lit.int .u8 n).wf = true) : 0 ≤ n ∧ n ≤ 255 := by
  simpa [Lit.wf, IntKind.min, IntKind.max, IntKind.signed, IntKind.bits] using h
end Go.Proofs.Ytnblnlbchcepjaa
