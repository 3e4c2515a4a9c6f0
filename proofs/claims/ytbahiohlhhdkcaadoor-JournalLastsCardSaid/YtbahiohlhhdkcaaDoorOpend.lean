/- Files and disks, as they are read of an argument. -/
import Derived.Test.YtbahiohlhhdkcaaDoorOpen
import Derived.Test.YtbahiohlhhdkcaaDoorDka
import Derived.Lib.SmallJoins
import Derived.Deep.Strs
namespace Go.Proofs.YtbahiohlhhdkcaaDoor
open Go.RowKit Go.ChangeShapes Go.WideShapes Go.ChangeAt

theorem cells_int : Tryd.prog.cellsOf 3 = 1 := by kernel_rfl
theorem cells_bytes : Tryd.prog.cellsOf 25 = 1 := by kernel_rfl
theorem cells_fi : Tryd.prog.cellsOf 50 = 3 := by kernel_rfl
theorem cells_fis : Tryd.prog.cellsOf 22 = 1 := by kernel_rfl
theorem cells_dk : Tryd.prog.cellsOf 24 = 2 := by kernel_rfl
theorem cells_u8 : Tryd.prog.cellsOf 5 = 1 := by kernel_rfl
theorem bytes_fi : Tryd.prog.bytesOf 50 = 40 := by kernel_rfl
theorem bytes_u8 : Tryd.prog.bytesOf 5 = 1 := by kernel_rfl
theorem sum_one (l : List UInt8) : (l.map fun _ => 1).sum = l.length := by
  induction l with
  | nil => rfl
  | cons a r ih => simp only [List.map_cons, List.sum_cons, List.length_cons, ih]; omega

theorem opens_fi : Opens fiE 50 (fun f => f.b.length + 1) (fun f => f.b.length ≤ reachBytes) := by
  intro H enc w base spare held fuel cs x h
  obtain ⟨y0, y1, y2, n, rfl, hl, h0, h1, h2⟩ := Deep.trod_struct3 Tryd.underlying50 h
  rw [cells_fi] at hl
  obtain ⟨u0, u1, u2, rfl⟩ : ∃ u0 u1 u2, cs = [u0, u1, u2] := by
    match cs, hl with
    | [u0, u1, u2], _ => exact ⟨u0, u1, u2, rfl⟩
  simp only [cells_int, cells_bytes, List.drop_zero, List.drop_succ_cons, List.take_succ_cons, List.take_zero] at h0 h1 h2
  obtain ⟨a, e0, rfl, hw0⟩ := DataW.trod_int Tryd.underlying3 h0
  obtain ⟨c, e1, rfl, hw1⟩ := DataW.trod_int Tryd.underlying3 h2
  obtain ⟨l, ⟨v, e3, hs⟩, hm, hf⟩ := opens_slice Tryd.underlying25 (E := u8E) cells_u8 opens_u8 enc w base spare held n _ _ h1
  simp only [List.cons.injEq, and_true] at e0 e1 e3
  subst e0 e1 e3
  refine ⟨⟨a, l, c⟩, ⟨_, rfl, hs⟩, ?_, fun hz => ?_⟩
  · simp only [Rows.uptoBulk, Rows.uptoBulkAll]
    simp only [sum_one] at hm
    show l.length + 1 ≤ _
    omega
  · rw [DataW.weights, Tryd.underlying50] at hz
    simp only [List.map_cons, DataW.weightsEach, List.all_append, Bool.and_eq_true] at hz
    have := (hf hz.2.1).1
    rw [bytes_u8] at this
    show l.length ≤ reachBytes
    omega
theorem opens_fis : Opens (slE fiE) 22 (fun l => (l.map fun f => f.b.length + 1).sum + 1) (fun l => l.length * Tryd.prog.bytesOf 50 ≤ reachBytes ∧ ∀ f ∈ l, f.b.length ≤ reachBytes) :=
  opens_slice Tryd.underlying22 (E := fiE) cells_fi opens_fi
theorem fis_fit {l : List Fi} (h : l.length * Tryd.prog.bytesOf 50 ≤ reachBytes ∧ ∀ f ∈ l, f.b.length ≤ reachBytes) : l.length ≤ 3518437208883 ∧ ∀ f ∈ l, f.b.length ≤ 140737488355328 := by
  obtain ⟨h1, h2⟩ := h
  rw [bytes_fi] at h1
  unfold reachBytes at *
  exact ⟨by omega, fun b hb => Nat.le_trans (h2 b hb) (by omega)⟩
/-- An argument that is a disk. -/
theorem arg_disk {H : Type} {enc : TypeId × Value → H} {w : World} {base base' : Nat} {r : _} {spare : Nat → Bool} {held : Bool} {v : Value} {d : DataW H} {p : List MemPlace}
    (hv : Value.okWide Tryd.prog w r base' 24 v) (h : DataW.Trod enc Tryd.prog w base spare held 24 v d p) :
    ∃ (x : Int × List Fi), (∃ A c, v = .agg #[.int .i64 x.1, .slice A x.2.length c] ∧ Sl fiE Any w (.slice A x.2.length c) x.2) ∧ True ∧ (x.2.map fun f => f.b.length + 1).sum + 1 ≤ Rows.uptoBulk d ∧ ((DataW.weights Tryd.prog 24 d).all (· ≤ reachBytes) = true → x.2.length ≤ 3518437208883 ∧ ∀ f ∈ x.2, f.b.length ≤ 140737488355328) := by
  obtain ⟨cs, rfl, hs⟩ := okWide_struct Tryd.underlying24 hv
  obtain ⟨fuel, hf⟩ := h
  obtain ⟨z0, z1, n1, hx, hl1, g0, g1⟩ := trod_struct2 Tryd.underlying24 hf
  rw [cells_dk] at hl1
  obtain ⟨u0, u1, rfl⟩ : ∃ u0 u1, cs = #[u0, u1] := by
    obtain ⟨l⟩ := cs
    match l, hl1 with
    | [u0, u1], _ => exact ⟨u0, u1, rfl⟩
  simp only [Value.cells, cells_int, cells_fis, List.drop_zero, List.drop_succ_cons, List.take_succ_cons, List.take_zero] at g0 g1
  obtain ⟨c, e1, rfl, hw1⟩ := DataW.trod_int Tryd.underlying3 g0
  obtain ⟨l, ⟨v, e2, hsl⟩, hm, hfit⟩ := opens_fis enc w base spare held n1 _ _ g1
  simp only [List.cons.injEq, and_true] at e1 e2
  subst e1 e2
  injection hx with hx _
  subst hx
  obtain ⟨A, k, rfl, _⟩ := hsl.shape
  refine ⟨(c, l), ⟨A, k, rfl, hsl⟩, trivial, ?_, fun hz => ?_⟩
  · simp only [Rows.uptoBulk, Rows.uptoBulkAll]
    have hm' : (l.map fun f => f.b.length + 1).sum + 1 ≤ _ := hm
    show (l.map fun f => f.b.length + 1).sum + 1 ≤ _
    generalize (l.map fun f => f.b.length + 1).sum = q at *
    omega
  · rw [DataW.weights, Tryd.underlying24] at hz
    simp only [List.map_cons, DataW.weightsEach, List.all_append, Bool.and_eq_true] at hz
    exact fis_fit (hfit hz.2.1)
theorem int_le {n : Int} (h : (Lit.int .i64 n).wf = true) : -9223372036854775808 ≤ n ∧ n ≤ 9223372036854775807 := by
  simpa [Lit.wf, IntKind.min, IntKind.max, IntKind.signed, IntKind.bits] using h
end Go.Proofs.YtbahiohlhhdkcaaDoor
