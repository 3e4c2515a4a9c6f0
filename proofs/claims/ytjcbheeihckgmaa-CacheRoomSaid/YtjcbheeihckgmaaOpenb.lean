/- Bodies and stamps, as they are read of an argument. -/
import Derived.Test.YtjcbheeihckgmaaOpen
import Derived.Test.YtjcbheeihckgmaaBody
import Derived.Deep.Strs
namespace Go.Proofs.Ytjcbheeihckgmaa
open Go.RowKit Go.ChangeShapes Go.WideShapes Go.ChangeAt

theorem cells_int : Try.prog.cellsOf 3 = 1 := by kernel_rfl
theorem cells_stamp : Try.prog.cellsOf 24 = 2 := by kernel_rfl
theorem cells_bytes : Try.prog.cellsOf 28 = 1 := by kernel_rfl
theorem cells_body : Try.prog.cellsOf 38 = 4 := by kernel_rfl
theorem cells_u8 : Try.prog.cellsOf 5 = 1 := by kernel_rfl
theorem bytes_body : Try.prog.bytesOf 38 = 48 := by kernel_rfl
theorem bytes_u8 : Try.prog.bytesOf 5 = 1 := by kernel_rfl

theorem sum_one (l : List UInt8) : (l.map fun _ => 1).sum = l.length := by
  induction l with
  | nil => rfl
  | cons a r ih => simp only [List.map_cons, List.sum_cons, List.length_cons, ih]; omega

theorem opens_body : Opens bdE 38 (fun b => b.v.length + 1) (fun b => b.v.length ≤ reachBytes) := by
  intro H enc w base spare held fuel cs x h
  obtain ⟨y0, y1, y2, n, rfl, hl, h0, h1, h2⟩ := Deep.trod_struct3 Try.underlying38 h
  rw [cells_body] at hl
  obtain ⟨u0, u1, u2, u3, rfl⟩ : ∃ u0 u1 u2 u3, cs = [u0, u1, u2, u3] := by
    match cs, hl with
    | [u0, u1, u2, u3], _ => exact ⟨u0, u1, u2, u3, rfl⟩
  simp only [cells_int, cells_stamp, cells_bytes, List.drop_zero, List.drop_succ_cons, List.take_succ_cons, List.take_zero] at h0 h1 h2
  obtain ⟨a, e0, rfl, hw0⟩ := DataW.trod_int Try.underlying3 h0
  obtain ⟨z0, z1, n1, rfl, hl1, g0, g1⟩ := trod_struct2 Try.underlying24 h1
  simp only [cells_int, List.drop_zero, List.drop_succ_cons, List.take_succ_cons, List.take_zero] at g0 g1
  obtain ⟨c, e1, rfl, hw1⟩ := DataW.trod_int Try.underlying3 g0
  obtain ⟨d, e2, rfl, hw2⟩ := DataW.trod_int Try.underlying3 g1
  obtain ⟨l, ⟨v, e3, hs⟩, hm, hf⟩ := opens_slice Try.underlying28 (E := u8E) cells_u8 opens_u8 enc w base spare held n _ _ h2
  simp only [List.cons.injEq, and_true] at e0 e1 e2 e3
  subst e0 e1 e2 e3
  refine ⟨⟨a, c, d, l⟩, ⟨_, rfl, hs⟩, ?_, fun hz => ?_⟩
  · simp only [Rows.uptoBulk, Rows.uptoBulkAll]
    simp only [sum_one] at hm
    show l.length + 1 ≤ _
    omega
  · rw [DataW.weights, Try.underlying38] at hz
    simp only [List.map_cons, DataW.weightsEach, List.all_append, Bool.and_eq_true] at hz
    have := (hf hz.2.2.1).1
    rw [bytes_u8] at this
    show l.length ≤ reachBytes
    omega

theorem opens_bodies : Opens (slE bdE) 22 (fun l => (l.map fun b => b.v.length + 1).sum + 1) (fun l => l.length * Try.prog.bytesOf 38 ≤ reachBytes ∧ ∀ b ∈ l, b.v.length ≤ reachBytes) :=
  opens_slice Try.underlying22 (E := bdE) cells_body opens_body
/-- An argument that is a stamp. -/
theorem arg_stamp {H : Type} {enc : TypeId × Value → H} {w : World} {base base' : Nat} {r : _} {spare : Nat → Bool} {held : Bool} {v : Value} {d : DataW H} {p : List MemPlace}
    (hv : Value.okWide Try.prog w r base' 24 v) (h : DataW.Trod enc Try.prog w base spare held 24 v d p) :
    ∃ l : Int × Int, v = .agg #[.int .i64 l.1, .int .i64 l.2] ∧ True ∧ 1 ≤ Rows.uptoBulk d ∧ ((DataW.weights Try.prog 24 d).all (· ≤ reachBytes) = true → True) := by
  obtain ⟨cs, rfl, hs⟩ := okWide_struct Try.underlying24 hv
  obtain ⟨fuel, hf⟩ := h
  obtain ⟨z0, z1, n1, hx, hl1, g0, g1⟩ := trod_struct2 Try.underlying24 hf
  rw [cells_stamp] at hl1
  obtain ⟨u0, u1, rfl⟩ : ∃ u0 u1, cs = #[u0, u1] := by
    obtain ⟨l⟩ := cs
    match l, hl1 with
    | [u0, u1], _ => exact ⟨u0, u1, rfl⟩
  simp only [Value.cells, cells_int, List.drop_zero, List.drop_succ_cons, List.take_succ_cons, List.take_zero] at g0 g1
  obtain ⟨c, e1, rfl, hw1⟩ := DataW.trod_int Try.underlying3 g0
  obtain ⟨d', e2, rfl, hw2⟩ := DataW.trod_int Try.underlying3 g1
  simp only [List.cons.injEq, and_true] at e1 e2
  subst e1 e2
  injection hx with hx _
  subst hx
  exact ⟨(c, d'), rfl, trivial, by simp [Rows.uptoBulk], fun _ => trivial⟩

/-- An argument that is a body. -/
theorem arg_body {H : Type} {enc : TypeId × Value → H} {w : World} {base base' : Nat} {r : _} {spare : Nat → Bool} {held : Bool} {v : Value} {d : DataW H} {p : List MemPlace}
    (hv : Value.okWide Try.prog w r base' 38 v) (h : DataW.Trod enc Try.prog w base spare held 38 v d p) :
    ∃ (x : Bd), (∃ A c, v = .agg #[.int .i64 x.o, .int .i64 x.c, .int .i64 x.n, .slice A x.v.length c] ∧ Sl u8E Any w (.slice A x.v.length c) x.v) ∧ True ∧ x.v.length + 1 ≤ Rows.uptoBulk d ∧ ((DataW.weights Try.prog 38 d).all (· ≤ reachBytes) = true → x.v.length ≤ reachBytes) := by
  obtain ⟨cs, rfl, hs⟩ := okWide_struct Try.underlying38 hv
  obtain ⟨fuel, hf⟩ := h
  obtain ⟨x, ⟨u, hcs, hsl⟩, hm, hz⟩ := opens_body enc w base spare held fuel _ _ hf
  obtain ⟨A, c, rfl, _⟩ := hsl.shape
  refine ⟨x, ⟨A, c, ?_, hsl⟩, trivial, hm, hz⟩
  obtain ⟨l⟩ := cs
  have : l = _ := hcs
  rw [this]

theorem bodies_fit {l : List Bd} (h : l.length * Try.prog.bytesOf 38 ≤ reachBytes ∧ ∀ b ∈ l, b.v.length ≤ reachBytes) : l.length ≤ 4611686018427387904 ∧ ∀ b ∈ l, b.v.length ≤ 4611686018427387904 := by
  obtain ⟨h1, h2⟩ := h
  rw [bytes_body] at h1
  unfold reachBytes at *
  exact ⟨by omega, fun b hb => Nat.le_trans (h2 b hb) (by omega)⟩
end Go.Proofs.Ytjcbheeihckgmaa
