/- Fates, as they are read of an argument. -/
import Derived.Test.YtggmhhbhpmfcnaaOpenp
import Derived.Test.YtggmhhbhpmfcnaaPbb
namespace Go.Proofs.Ytggmhhbhpmfcnaa
open Go.RowKit Go.ChangeShapes Go.WideShapes Go.ChangeAt

theorem cells_ft : Try.prog.cellsOf 47 = 4 := by kernel_rfl
theorem opens_ft : Opens ftE 47 (fun _ => 0) (fun _ => True) := by
  intro H enc w base spare held fuel cs x h
  obtain ⟨y0, y1, y2, y3, n, rfl, hl, h0, h1, h2, h3⟩ := Go.Joins.trod_struct4 Try.underlying47 h
  rw [cells_ft] at hl
  obtain ⟨u0, u1, u2, u3, rfl⟩ : ∃ u0 u1 u2 u3, cs = [u0, u1, u2, u3] := by
    match cs, hl with
    | [u0, u1, u2, u3], _ => exact ⟨u0, u1, u2, u3, rfl⟩
  simp only [cells_int, cells_u8, List.drop_zero, List.drop_succ_cons, List.take_succ_cons, List.take_zero] at h0 h1 h2 h3
  obtain ⟨a, e0, _, _⟩ := DataW.trod_int Try.underlying3 h0
  obtain ⟨b, e1, _, _⟩ := DataW.trod_int Try.underlying3 h1
  obtain ⟨c, e2, _, _⟩ := DataW.trod_int Try.underlying3 h2
  obtain ⟨d, hd, _, _⟩ := opens_u8 enc w base spare held n _ _ h3
  have hd' : [u3] = [.int .u8 (d.toNat : Int)] := hd
  simp only [List.cons.injEq, and_true] at e0 e1 e2 hd'
  subst e0 e1 e2 hd'
  exact ⟨⟨a, b, c, d⟩, rfl, Nat.zero_le _, fun _ => trivial⟩
theorem opens_fts : Opens (slE ftE) 44 (fun l => (l.map fun _ => 0).sum + 1) (fun l => l.length * Try.prog.bytesOf 47 ≤ reachBytes ∧ ∀ a ∈ l, True) :=
  opens_slice Try.underlying44 (E := ftE) cells_ft opens_ft
end Go.Proofs.Ytggmhhbhpmfcnaa
