/- The shelf's laws, walked: ShelfWithins; spans, as they are read of an argument. -/
import Derived.Test.YtkocbhcklnjomaaWig
import Derived.Test.YtkocbhcklnjomaaOpenw
set_option linter.unusedSimpArgs false
namespace Go.Proofs.Ytkocbhcklnjomaa
open Go.RowKit Go.ChangeShapes Go.WideShapes Go.ChangeAt

theorem cells_sp : Try.prog.cellsOf 65 = 2 := by kernel_rfl
theorem opens_sp : Opens spE 65 (fun _ => 1) (fun _ => True) := by
  intro H enc w base spare held fuel cs x h
  obtain ⟨z0, z1, n', e0, hl, g0, g1⟩ := trod_struct2 Try.underlying65 h
  rw [cells_sp] at hl
  obtain ⟨u0, u1, rfl⟩ : ∃ u0 u1, cs = [u0, u1] := by
    match cs, hl with
    | [u0, u1], _ => exact ⟨u0, u1, rfl⟩
  simp only [cells_int, List.drop_zero, List.drop_succ_cons, List.take_succ_cons, List.take_zero] at g0 g1
  obtain ⟨a, k0, hk0, _⟩ := DataW.trod_int Try.underlying3 g0
  obtain ⟨b, k1, hk1, _⟩ := DataW.trod_int Try.underlying3 g1
  simp only [List.cons.injEq, and_true] at k0 k1
  subst k0 k1
  exact ⟨⟨a, b⟩, rfl, by subst e0; simp only [Rows.uptoBulk, Rows.uptoBulkAll]; (try omega), fun _ => trivial⟩
theorem opens_sps : Opens (slE spE) 42 (fun l => (l.map fun _ => 1).sum + 1) (fun l => l.length * Try.prog.bytesOf 65 ≤ reachBytes ∧ ∀ a ∈ l, True) :=
  opens_slice Try.underlying42 (E := spE) cells_sp opens_sp
theorem Wi.s {s : List Sp} {l : List Wr} {w w' : World} {e : Ending} (h : Wi s l w e w') : ∃ A c, e = .returned (.tuple #[.slice A (wiL s l).length c, .int .i64 (wiE l)]) ∧ Sl wrE Any w' (.slice A (wiL s l).length c) (wiL s l) ∧ Below w.heap.size w w' := by
  obtain ⟨v, he, hs, hb⟩ := h
  obtain ⟨A, c, rfl, _⟩ := hs.shape
  exact ⟨A, c, he, hs, hb⟩
set_option maxHeartbeats 4000000 in
theorem shelfwithins_c {S S' : Foot} {v u : Value} {l : List Wr} {s : List Sp} {w : World} (hp : Sl wrE S w v l) (hq : Sl spE S' w u s) :
    Calls Try.prog 7 #[v, u] w fun e w' => e = .returned (.bool true) ∧ Below w.heap.size w w' := by
  have hp := hp.any
  have hq := hq.any
  obtain ⟨A, cap, rfl, hc1, hc2, _⟩ := hp.shape
  obtain ⟨As, cs, rfl, hc3, hc4, _⟩ := hq.shape
  go_enter Try.func7, Try.ntmps7
  go_wp2_with fail
  refine alive_c.mono ?_
  rintro e w1 ⟨rfl, b1⟩
  go_wp2_with fail
  refine (within_c (hp.below b1 (Nat.le_refl _)) (hq.below b1 (Nat.le_refl _))).mono ?_
  intro e w2 h
  obtain ⟨A2, c2, rfl, s2, b2⟩ := h.s
  clear h
  have b12 := bstep b1 b2
  go_wp2_with fail
  refine (rwithin_c (hp.below b12 (Nat.le_refl _)) (hq.below b12 (Nat.le_refl _))).mono ?_
  intro e w3 h
  obtain ⟨A3, c3, rfl, s3, b3⟩ := h.s
  clear h
  have b13 := bstep b12 b3
  have HS := samew_c (s2.below b3 (Nat.le_refl _)) s3
  rw [beq_self_eq_true] at HS
  have HSS := Lib.hid HS
  clear HS
  go_wp2_with fail
  refine HSS.out.mono ?_
  rintro e w4 ⟨rfl, b4⟩
  go_wp2
  go_ret
  exact ⟨rfl, bstep b13 b4⟩
end Go.Proofs.Ytkocbhcklnjomaa
