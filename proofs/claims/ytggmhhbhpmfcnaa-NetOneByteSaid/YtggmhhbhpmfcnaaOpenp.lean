/- Packets, and arrays of integers, as they are read of an argument. -/
import Derived.Test.YtggmhhbhpmfcnaaOpen
import Derived.Test.YtggmhhbhpmfcnaaPal
import Derived.Lib.SmallJoins
namespace Go.Proofs.Ytggmhhbhpmfcnaa
open Go.RowKit Go.ChangeShapes Go.WideShapes Go.ChangeAt

theorem cells_int : Try.prog.cellsOf 3 = 1 := by kernel_rfl
theorem cells_bytes : Try.prog.cellsOf 33 = 1 := by kernel_rfl
theorem cells_pk : Try.prog.cellsOf 35 = 4 := by kernel_rfl
theorem cells_u8 : Try.prog.cellsOf 5 = 1 := by kernel_rfl
theorem bytes_pk : Try.prog.bytesOf 35 = 64 := by kernel_rfl
theorem bytes_bytes : Try.prog.bytesOf 33 = 24 := by kernel_rfl
theorem bytes_u8 : Try.prog.bytesOf 5 = 1 := by kernel_rfl

theorem sum_one (l : List UInt8) : (l.map fun _ => 1).sum = l.length := by
  induction l with
  | nil => rfl
  | cons a r ih => simp only [List.map_cons, List.sum_cons, List.length_cons, ih]; omega

theorem opens_pk : Opens pkE 35 (fun p => p.s.length + p.h.length + 1) (fun p => p.s.length ≤ reachBytes ∧ p.h.length ≤ reachBytes) := by
  intro H enc w base spare held fuel cs x h
  obtain ⟨y0, y1, y2, y3, n, rfl, hl, h0, h1, h2, h3⟩ := Go.Joins.trod_struct4 Try.underlying35 h
  rw [cells_pk] at hl
  obtain ⟨u0, u1, u2, u3, rfl⟩ : ∃ u0 u1 u2 u3, cs = [u0, u1, u2, u3] := by
    match cs, hl with
    | [u0, u1, u2, u3], _ => exact ⟨u0, u1, u2, u3, rfl⟩
  simp only [cells_int, cells_bytes, List.drop_zero, List.drop_succ_cons, List.take_succ_cons, List.take_zero] at h0 h1 h2 h3
  obtain ⟨a, e0, rfl, hw0⟩ := DataW.trod_int Try.underlying3 h0
  obtain ⟨c, e1, rfl, hw1⟩ := DataW.trod_int Try.underlying3 h1
  obtain ⟨l, ⟨v, e2, hs⟩, hm, hf⟩ := opens_slice Try.underlying33 (E := u8E) cells_u8 opens_u8 enc w base spare held n _ _ h2
  obtain ⟨l', ⟨v', e3, hs'⟩, hm', hf'⟩ := opens_slice Try.underlying33 (E := u8E) cells_u8 opens_u8 enc w base spare held n _ _ h3
  simp only [List.cons.injEq, and_true] at e0 e1 e2 e3
  subst e0 e1 e2 e3
  refine ⟨⟨a, c, l, l'⟩, ⟨_, _, rfl, hs, hs'⟩, ?_, fun hz => ?_⟩
  · simp only [Rows.uptoBulk, Rows.uptoBulkAll]
    simp only [sum_one] at hm hm'
    show l.length + l'.length + 1 ≤ _
    omega
  · rw [DataW.weights, Try.underlying35] at hz
    simp only [List.map_cons, DataW.weightsEach, List.all_append, Bool.and_eq_true] at hz
    have h1 := (hf hz.2.2.1).1
    have h2 := (hf' hz.2.2.2.1).1
    rw [bytes_u8] at h1 h2
    show l.length ≤ reachBytes ∧ l'.length ≤ reachBytes
    omega

theorem opens_pks : Opens (slE pkE) 22 (fun l => (l.map fun p => p.s.length + p.h.length + 1).sum + 1) (fun l => l.length * Try.prog.bytesOf 35 ≤ reachBytes ∧ ∀ p ∈ l, p.s.length ≤ reachBytes ∧ p.h.length ≤ reachBytes) :=
  opens_slice Try.underlying22 (E := pkE) cells_pk opens_pk
theorem opens_lists : Opens (slE (slE u8E)) 24 (fun l => (l.map fun b => (b.map fun _ => 1).sum + 1).sum + 1) (fun l => l.length * Try.prog.bytesOf 33 ≤ reachBytes ∧ ∀ b ∈ l, b.length * Try.prog.bytesOf 5 ≤ reachBytes ∧ ∀ a ∈ b, True) :=
  opens_slice Try.underlying24 (E := slE u8E) cells_bytes (opens_slice Try.underlying33 (E := u8E) cells_u8 opens_u8)

theorem pks_fit {l : List Pk} (h : l.length * Try.prog.bytesOf 35 ≤ reachBytes ∧ ∀ p ∈ l, p.s.length ≤ reachBytes ∧ p.h.length ≤ reachBytes) : l.length ≤ 2199023255550 ∧ Fit l := by
  obtain ⟨h1, h2⟩ := h
  rw [bytes_pk] at h1
  unfold reachBytes at *
  exact ⟨by omega, fun p hp => ⟨Nat.le_trans (h2 p hp).1 (by omega), Nat.le_trans (h2 p hp).2 (by omega)⟩⟩
theorem lists_fit {l : List (List UInt8)} (h : l.length * Try.prog.bytesOf 33 ≤ reachBytes ∧ ∀ b ∈ l, b.length * Try.prog.bytesOf 5 ≤ reachBytes ∧ ∀ a ∈ b, True) : l.length ≤ 140737488355328 ∧ ∀ b ∈ l, b.length ≤ 140737488355328 := by
  obtain ⟨h1, h2⟩ := h
  rw [bytes_bytes] at h1
  rw [bytes_u8] at h2
  unfold reachBytes at *
  exact ⟨by omega, fun b hb => by have := (h2 b hb).1; omega⟩

theorem okWide_array {r : _} {P : Program} {w : World} {base n : Nat} {t e : TypeId} {v : Value} (ht : P.underlying t = some (.array n e)) (h : Value.okWide P w r base t v) : ∃ cs, v = .agg cs ∧ cs.size = P.cellsOf t := by
  simp only [Value.okWide, ht] at h
  obtain ⟨cs, h1, h2, _⟩ := h
  exact ⟨cs, h1, h2⟩
theorem cells_arr2 : Try.prog.cellsOf 23 = 2 := by kernel_rfl
theorem cells_arr3 : Try.prog.cellsOf 37 = 3 := by kernel_rfl

/-- An argument that is an array of two integers. -/
theorem arg_arr2 {H : Type} {enc : TypeId × Value → H} {w : World} {base base' : Nat} {r : _} {spare : Nat → Bool} {held : Bool} {v : Value} {d : DataW H} {p : List MemPlace}
    (hv : Value.okWide Try.prog w r base' 23 v) (h : DataW.Trod enc Try.prog w base spare held 23 v d p) :
    ∃ l : Int × Int, v = .agg #[.int .i64 l.1, .int .i64 l.2] ∧ True ∧ 0 ≤ Rows.uptoBulk d ∧ ((DataW.weights Try.prog 23 d).all (· ≤ reachBytes) = true → True) := by
  obtain ⟨cs, rfl, _⟩ := okWide_array Try.underlying23 hv
  obtain ⟨fuel, hf⟩ := h
  obtain ⟨xs, n, _, _, hl, hlen, hg⟩ := DataW.trod_array Try.underlying23 hf
  rw [cells_arr2] at hl
  obtain ⟨u0, u1, rfl⟩ : ∃ u0 u1, cs = #[u0, u1] := by
    obtain ⟨l⟩ := cs
    match l, hl with
    | [u0, u1], _ => exact ⟨u0, u1, rfl⟩
  match xs, hlen with
  | [y0, y1], _ =>
    have g0 := hg 0 (by omega)
    have g1 := hg 1 (by omega)
    simp only [Value.cells, cells_int, Nat.zero_mul, Nat.one_mul, List.drop_zero, List.drop_succ_cons, List.take_succ_cons, List.take_zero] at g0 g1
    obtain ⟨a, e0, _, _⟩ := DataW.trod_int Try.underlying3 g0
    obtain ⟨b, e1, _, _⟩ := DataW.trod_int Try.underlying3 g1
    simp only [List.cons.injEq, and_true] at e0 e1
    subst e0 e1
    exact ⟨(a, b), rfl, trivial, Nat.zero_le _, fun _ => trivial⟩
/-- An argument that is an array of three integers. -/
theorem arg_arr3 {H : Type} {enc : TypeId × Value → H} {w : World} {base base' : Nat} {r : _} {spare : Nat → Bool} {held : Bool} {v : Value} {d : DataW H} {p : List MemPlace}
    (hv : Value.okWide Try.prog w r base' 37 v) (h : DataW.Trod enc Try.prog w base spare held 37 v d p) :
    ∃ l : Int × Int × Int, v = .agg #[.int .i64 l.1, .int .i64 l.2.1, .int .i64 l.2.2] ∧ True ∧ 0 ≤ Rows.uptoBulk d ∧ ((DataW.weights Try.prog 37 d).all (· ≤ reachBytes) = true → True) := by
  obtain ⟨cs, rfl, _⟩ := okWide_array Try.underlying37 hv
  obtain ⟨fuel, hf⟩ := h
  obtain ⟨xs, n, _, _, hl, hlen, hg⟩ := DataW.trod_array Try.underlying37 hf
  rw [cells_arr3] at hl
  obtain ⟨u0, u1, u2, rfl⟩ : ∃ u0 u1 u2, cs = #[u0, u1, u2] := by
    obtain ⟨l⟩ := cs
    match l, hl with
    | [u0, u1, u2], _ => exact ⟨u0, u1, u2, rfl⟩
  match xs, hlen with
  | [y0, y1, y2], _ =>
    have g0 := hg 0 (by omega)
    have g1 := hg 1 (by omega)
    have g2 := hg 2 (by omega)
    simp only [Value.cells, cells_int, Nat.mul_one, List.drop_zero, List.drop_succ_cons, List.take_succ_cons, List.take_zero] at g0 g1 g2
    obtain ⟨a, e0, _, _⟩ := DataW.trod_int Try.underlying3 g0
    obtain ⟨b, e1, _, _⟩ := DataW.trod_int Try.underlying3 g1
    obtain ⟨c, e2, _, _⟩ := DataW.trod_int Try.underlying3 g2
    simp only [List.cons.injEq, and_true] at e0 e1 e2
    subst e0 e1 e2
    exact ⟨(a, b, c), rfl, trivial, Nat.zero_le _, fun _ => trivial⟩
end Go.Proofs.Ytggmhhbhpmfcnaa
