/- Shelves: the fixed fact; ShelfPuts and ShelfGets, walked. -/
import Derived.Test.YtkocbhcklnjomaaWrs
namespace Go.Proofs.Ytkocbhcklnjomaa
open Go.RowKit

def x1 : Wr := ⟨5, 0, 3, false⟩
def x2 : Wr := ⟨6, 1, 3, false⟩
def x3 : Wr := ⟨6, 0, 3, false⟩
theorem puts_x : puts [] [x1, x2, x3] = [x2] ∧ putOk [] [x1, x2, x3] = true := by decide +kernel
theorem sl_wr3 (w : World) (t : TypeId) (a b c : Wr) : Sl wrE Any (w.alloc (.cells (wcs a ++ wcs b ++ wcs c).toArray t)) (.slice (some ⟨w.heap.size, 0, none⟩) 3 3) [a, b, c] := by
  refine ⟨some ⟨w.heap.size, 0, none⟩, 3, wcs a ++ wcs b ++ wcs c, rfl, Nat.le_refl _, by unfold maxLen; omega, by simp, ⟨rfl, fun i x hi => ?_⟩, fun j u hu => ⟨w.heap.size, 0, rfl, _, t, (0, 0), heap_alloc_new w _, by rw [Nat.zero_add]; simpa using hu, trivial⟩⟩
  match i, hi with
  | 0, hi => simp at hi; subst hi; rfl
  | 1, hi => simp at hi; subst hi; rfl
  | 2, hi => simp at hi; subst hi; rfl
set_option maxHeartbeats 1000000 in
/-- the fixed fact -/
theorem alive_c {w : World} : Calls Try.prog 8 #[] w fun e w' => e = .returned (.bool true) ∧ Below w.heap.size w w' := by
  have hs := sl_wr3 w 32 x1 x2 x3
  have HP := Lib.hid (put_c (S := Any) (v := .slice none 0 0) (l := []) Sl.nil hs (by simp) (by simp))
  clear hs
  go_enter Try.func8, Try.ntmps8
  go_wp2_with fail
  refine HP.out.mono ?_
  rintro e w1 ⟨v1, n, rfl, HN, s1, b1⟩
  rw [puts_x.1] at s1
  have hn := HN.out
  rw [if_pos puts_x.2] at hn
  subst hn
  obtain ⟨A1, c1, rfl, _⟩ := s1.shape
  obtain ⟨b, off, rfl, a0, a1, a2, a3⟩ := s1.wr (i := 0) (by simp)
  simp only [Nat.zero_mul, Nat.add_zero] at a0 a1 a2 a3
  have c0 : w1.cell? ⟨b, off, none⟩ = some (.int .i64 6) := a0.cell
  have c1 : w1.cell? ⟨b, off + 1, none⟩ = some (.int .i64 1) := a1.cell
  clear s1 a0 a1 a2 a3 HN HP
  go_wp2
  all_goals
    go_ret
    exact ⟨ret_bool (by simp), by (repeat (first | with_reducible exact Below.refl _ _ | with_reducible assumption | with_reducible refine bdraw ?_ | with_reducible refine bdrewN ?_ _ | with_reducible refine balloc ?_ _ | with_reducible refine bset ?_ (by simp <;> omega) | with_reducible refine bstep ?_ (by assumption) | with_reducible refine btrans ?_ (by assumption)))⟩
end Go.Proofs.Ytkocbhcklnjomaa
