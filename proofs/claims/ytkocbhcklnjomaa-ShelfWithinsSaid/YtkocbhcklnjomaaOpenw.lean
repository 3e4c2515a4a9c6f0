/- Writes, as they are read of an argument. -/
import Derived.Test.YtkocbhcklnjomaaOpeng
import Derived.Test.YtkocbhcklnjomaaWrt
import Derived.Lib.SmallJoins
import Derived.Deep.Strs
namespace Go.Proofs.Ytkocbhcklnjomaa
open Go.RowKit Go.ChangeShapes Go.WideShapes Go.ChangeAt

theorem cells_int : Try.prog.cellsOf 3 = 1 := by kernel_rfl
theorem cells_bool : Try.prog.cellsOf 4 = 1 := by kernel_rfl
theorem cells_st : Try.prog.cellsOf 30 = 2 := by kernel_rfl
theorem cells_wr : Try.prog.cellsOf 32 = 4 := by kernel_rfl
theorem bytes_wr : Try.prog.bytesOf 32 = 32 := by kernel_rfl

theorem opens_wr : Opens wrE 32 (fun _ => 1) (fun _ => True) := by
  intro H enc w base spare held fuel cs x h
  obtain ⟨y0, y1, y2, n, rfl, hl, h0, h1, h2⟩ := Go.Deep.trod_struct3 Try.underlying32 h
  rw [cells_wr] at hl
  obtain ⟨u0, u1, u2, u3, rfl⟩ : ∃ u0 u1 u2 u3, cs = [u0, u1, u2, u3] := by
    match cs, hl with
    | [u0, u1, u2, u3], _ => exact ⟨u0, u1, u2, u3, rfl⟩
  simp only [cells_int, cells_bool, cells_st, List.drop_zero, List.drop_succ_cons, List.take_succ_cons, List.take_zero] at h0 h1 h2
  obtain ⟨z0, z1, n', e0, _, g0, g1⟩ := trod_struct2 Try.underlying30 h0
  simp only [cells_int, List.drop_zero, List.drop_succ_cons, List.take_succ_cons, List.take_zero] at g0 g1
  obtain ⟨a, k0, _, _⟩ := DataW.trod_int Try.underlying3 g0
  obtain ⟨b, k1, _, _⟩ := DataW.trod_int Try.underlying3 g1
  obtain ⟨c, k2, _, _⟩ := DataW.trod_int Try.underlying3 h1
  obtain ⟨d, k3, _⟩ := DataW.trod_bool Try.underlying4 h2
  simp only [List.cons.injEq, and_true] at k0 k1 k2 k3
  subst k0 k1 k2 k3
  exact ⟨⟨a, b, c, d⟩, rfl, by simp only [Rows.uptoBulk, Rows.uptoBulkAll]; omega, fun _ => trivial⟩
theorem opens_wrs : Opens (slE wrE) 22 (fun l => (l.map fun _ => 1).sum + 1) (fun l => l.length * Try.prog.bytesOf 32 ≤ reachBytes ∧ ∀ a ∈ l, True) :=
  opens_slice Try.underlying22 (E := wrE) cells_wr opens_wr
theorem wrs_fit {l : List Wr} (h : l.length * Try.prog.bytesOf 32 ≤ reachBytes ∧ ∀ a ∈ l, True) : l.length ≤ 4398046511104 := by
  obtain ⟨h, _⟩ := h
  rw [bytes_wr] at h
  unfold reachBytes at h
  omega
end Go.Proofs.Ytkocbhcklnjomaa
