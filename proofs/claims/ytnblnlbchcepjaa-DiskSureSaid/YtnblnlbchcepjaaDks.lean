/- Disks: the fixed fact. -/
import Derived.Test.YtnblnlbchcepjaaDkp
import Derived.Lib.SlBytesConst
import Derived.Lib.SmallJoins
set_option linter.unusedSimpArgs false
namespace Go.Proofs.Ytnblnlbchcepjaa
open Go.RowKit

theorem Appended.s {room : Int} {l : List Fi} {n : Int} {b : List UInt8} {w w' : World} {e : Ending} (h : Appended room l n b w e w') : AnsS (apR room l n b) (apF room l n b) (apE room l n b) w e w' :=
  Ans.s h
def abc : List UInt8 := [97, 98, 99]
def de : List UInt8 := [100, 101]
theorem al1 : apR 5 [] 1 abc = 5 ∧ apF 5 [] 1 abc = [⟨1, abc, 0⟩] ∧ apE 5 [] 1 abc = 0 := by decide +kernel
theorem al2 : syR 5 [⟨1, abc, 0⟩] = 5 ∧ syF 5 [⟨1, abc, 0⟩] = [⟨1, abc, 3⟩] ∧ syE 5 [⟨1, abc, 0⟩] = 0 := by decide +kernel
theorem al3 : apR 5 [⟨1, abc, 3⟩] 1 de = 5 ∧ apF 5 [⟨1, abc, 3⟩] 1 de = [⟨1, [97, 98, 99, 100, 101], 3⟩] ∧ apE 5 [⟨1, abc, 3⟩] 1 de = 0 := by decide +kernel
theorem al4 : crR 5 [⟨1, [97, 98, 99, 100, 101], 3⟩] 1 0 = 5 ∧ crF 5 [⟨1, [97, 98, 99, 100, 101], 3⟩] 1 0 = [⟨1, [97, 98, 99, 100], 4⟩] ∧ crE 5 [⟨1, [97, 98, 99, 100, 101], 3⟩] 1 0 = 0 := by decide +kernel
set_option maxRecDepth 100000 in
set_option maxHeartbeats 4000000 in
theorem alive_c {w : World} : Calls Try.prog 8 #[] w fun e w' => e = .returned (.bool true) ∧ Below w.heap.size w w' := by
  have kc1 := Lib.run_convert_bytes_const (P := Try.prog) w 25 5 #[.int .u8 97, .int .u8 98, .int .u8 99] 3 3 Try.underlying25 Try.underlying5
  have hx1 : Sl u8E Any (w.alloc (.cells #[.int .u8 97, .int .u8 98, .int .u8 99] 5 (3, 4))) (.slice (some ⟨w.heap.size, 0, none⟩) 3 3) abc := bytes_block w abc 5 (3, 4) (by decide)
  have HP1 := Lib.hid (append_c (S := Any) (l := []) (room := 5) (n := 1) Sl.nil hx1)
  clear hx1
  go_enter Try.func8, Try.ntmps8
  go_wp2_with fail
  refine HP1.out.mono ?_
  intro e w1 h
  obtain ⟨v1, he, s1, b1⟩ := h.s
  rw [al1.1, al1.2.2] at he
  rw [al1.2.1] at s1
  subst he
  have hb1 : Below w.heap.size w w1 := by (repeat (first | with_reducible exact Below.refl _ _ | with_reducible assumption | with_reducible refine bdraw ?_ | with_reducible refine bdrewN ?_ _ | with_reducible refine balloc ?_ _ | with_reducible refine bset ?_ (by simp <;> omega) | with_reducible refine bstep ?_ (by assumption) | with_reducible refine btrans ?_ (by assumption)))
  obtain ⟨A1, c1, hv1, _⟩ := s1.shape
  replace hv1 : v1 = .slice A1 1 c1 := hv1
  subst hv1
  have s1 := s1.any
  have r1 := heap_alloc_new w1 (.cells #[.int .i64 5, .slice A1 1 c1] 24)
  have hD : Below w.heap.size w (w1.alloc (.cells #[.int .i64 5, .slice A1 1 c1] 24)) := by (repeat (first | with_reducible exact Below.refl _ _ | with_reducible assumption | with_reducible refine bdraw ?_ | with_reducible refine bdrewN ?_ _ | with_reducible refine balloc ?_ _ | with_reducible refine bset ?_ (by simp <;> omega) | with_reducible refine bstep ?_ (by assumption) | with_reducible refine btrans ?_ (by assumption)))
  have HS := Lib.hid (sync_c (room := 5) (s1.below ((Below.refl _ _).alloc (Nat.le_refl _) (.cells #[.int .i64 5, .slice A1 1 c1] 24)) (Nat.le_refl _)))
  clear HP1 kc1 h
  go_wp2_with fail
  refine HS.out.mono ?_
  intro e w2 h
  obtain ⟨v2, he, s2, b2⟩ := h.s
  rw [al2.1, al2.2.2] at he
  rw [al2.2.1] at s2
  subst he
  have r2 := blkb r1 (w' := w2) (by (repeat (first | with_reducible exact Below.refl _ _ | with_reducible assumption | with_reducible refine bdraw ?_ | with_reducible refine bdrewN ?_ _ | with_reducible refine balloc ?_ _ | with_reducible refine bset ?_ (by simp <;> omega) | with_reducible refine bstep ?_ (by assumption) | with_reducible refine btrans ?_ (by assumption))))
  obtain ⟨A2, c2, hv2, _⟩ := s2.shape
  replace hv2 : v2 = .slice A2 1 c2 := hv2
  subst hv2
  have xa0 : w2.cell? ⟨w1.heap.size, 0, none⟩ = some (.int .i64 5) := cell_of_row _ _ 0 _ _ _ r2; have fa0 : w2.frozen? ⟨w1.heap.size, 0, none⟩ = false := frozen_of_row _ _ 0 _ _ r2; have xa1 : w2.cell? ⟨w1.heap.size, 1, none⟩ = some (.slice A1 1 c1) := cell_of_row _ _ 1 _ _ _ r2; have fa1 : w2.frozen? ⟨w1.heap.size, 1, none⟩ = false := frozen_of_row _ _ 1 _ _ r2
  have hz1 := hb1.size
  have hb2 : Below w.heap.size w w2 := by (repeat (first | with_reducible exact Below.refl _ _ | with_reducible assumption | with_reducible refine bdraw ?_ | with_reducible refine bdrewN ?_ _ | with_reducible refine balloc ?_ _ | with_reducible refine bset ?_ (by simp <;> omega) | with_reducible refine bstep ?_ (by assumption) | with_reducible refine btrans ?_ (by assumption)))
  have r3 : ((w2.setCell ⟨w1.heap.size, 0, none⟩ (.int .i64 5)).setCell ⟨w1.heap.size, 1, none⟩ (.slice A2 1 c2)).heap[w1.heap.size]? = some (.cells #[.int .i64 5, .slice A2 1 c2] 24 (0, 0)) := set2 r2
  have s3 := ((s2.keep (w' := (w2.setCell ⟨w1.heap.size, 0, none⟩ (.int .i64 5)).setCell ⟨w1.heap.size, 1, none⟩ (.slice A2 1 c2)) (fun b fr hs _ => by
    have := hs.1
    simp at this
    exact (heap_setCell_other _ _ _ _ (by simp; omega)).trans (heap_setCell_other _ _ _ _ (by simp; omega)))).any)
  have hb3 : Below w.heap.size w ((w2.setCell ⟨w1.heap.size, 0, none⟩ (.int .i64 5)).setCell ⟨w1.heap.size, 1, none⟩ (.slice A2 1 c2)) := by (repeat (first | with_reducible exact Below.refl _ _ | with_reducible assumption | with_reducible refine bdraw ?_ | with_reducible refine bdrewN ?_ _ | with_reducible refine balloc ?_ _ | with_reducible refine bset ?_ (by simp <;> omega) | with_reducible refine bstep ?_ (by assumption) | with_reducible refine btrans ?_ (by assumption)))
  have kc2 := Go.Joins.run_convert_bytes_const_at (P := Try.prog) ((w2.setCell ⟨w1.heap.size, 0, none⟩ (.int .i64 5)).setCell ⟨w1.heap.size, 1, none⟩ (.slice A2 1 c2)) 25 5 #[.int .u8 100, .int .u8 101] 2 2 w2.heap.size (by simp) Try.underlying25 Try.underlying5
  have hx2 : Sl u8E Any (((w2.setCell ⟨w1.heap.size, 0, none⟩ (.int .i64 5)).setCell ⟨w1.heap.size, 1, none⟩ (.slice A2 1 c2)).alloc (.cells #[.int .u8 100, .int .u8 101] 5 (2, 3))) (.slice (some ⟨w2.heap.size, 0, none⟩) 2 2) de := by
    have := bytes_block ((w2.setCell ⟨w1.heap.size, 0, none⟩ (.int .i64 5)).setCell ⟨w1.heap.size, 1, none⟩ (.slice A2 1 c2)) de 5 (2, 3) (by decide)
    simp only [World.size_setCell] at this
    exact this
  have hb4 := hb3.alloc hb3.size (.cells #[.int .u8 100, .int .u8 101] 5 (2, 3))
  have s4 := s3.below ((Below.refl _ _).alloc (Nat.le_refl _) (.cells #[.int .u8 100, .int .u8 101] 5 (2, 3))) (Nat.le_refl _)
  have r4 := blkb r3 (w' := ((w2.setCell ⟨w1.heap.size, 0, none⟩ (.int .i64 5)).setCell ⟨w1.heap.size, 1, none⟩ (.slice A2 1 c2)).alloc (.cells #[.int .u8 100, .int .u8 101] 5 (2, 3))) (by (repeat (first | with_reducible exact Below.refl _ _ | with_reducible assumption | with_reducible refine bdraw ?_ | with_reducible refine bdrewN ?_ _ | with_reducible refine balloc ?_ _ | with_reducible refine bset ?_ (by simp <;> omega) | with_reducible refine bstep ?_ (by assumption) | with_reducible refine btrans ?_ (by assumption))))
  have HP2 := Lib.hid (append_c (room := 5) (n := 1) s4 hx2)
  clear hx2 s4 HS h
  go_wp2_with fail
  refine HP2.out.mono ?_
  intro e w5 h
  obtain ⟨v5, he, s5, b5⟩ := h.s
  rw [al3.1, al3.2.2] at he
  rw [al3.2.1] at s5
  subst he
  have r5 := blkb r4 (w' := w5) b5
  have hb5 := bstep hb4 b5
  clear r4 r3 r2 r1 kc2 HP2 h s3
  obtain ⟨A5, c5, hv5, _⟩ := s5.shape
  replace hv5 : v5 = .slice A5 1 c5 := hv5
  subst hv5
  have hz5 := b5.size
  have hz4 := hb4.size
  have s5' := s5.mono (S' := Hi (w1.heap.size + 1)) (fun b fr hs _ => ⟨by have := hs.1; have := b2.size; simp at *; omega, hs.2⟩)
  clear s5 s2 s1 hb4 b2 xa0 xa1 fa0 fa1 b5
  have xb0 : w5.cell? ⟨w1.heap.size, 0, none⟩ = some (.int .i64 5) := cell_of_row _ _ 0 _ _ _ r5; have fb0 : w5.frozen? ⟨w1.heap.size, 0, none⟩ = false := frozen_of_row _ _ 0 _ _ r5; have xb1 : w5.cell? ⟨w1.heap.size, 1, none⟩ = some (.slice A2 1 c2) := cell_of_row _ _ 1 _ _ _ r5; have fb1 : w5.frozen? ⟨w1.heap.size, 1, none⟩ = false := frozen_of_row _ _ 1 _ _ r5
  have r6 : ((w5.setCell ⟨w1.heap.size, 0, none⟩ (.int .i64 5)).setCell ⟨w1.heap.size, 1, none⟩ (.slice A5 1 c5)).heap[w1.heap.size]? = some (.cells #[.int .i64 5, .slice A5 1 c5] 24 (0, 0)) := set2 r5
  have s6 := ((s5'.keep (w' := (w5.setCell ⟨w1.heap.size, 0, none⟩ (.int .i64 5)).setCell ⟨w1.heap.size, 1, none⟩ (.slice A5 1 c5)) (fun b fr hs _ => by
    have := hs.1
    exact (heap_setCell_other _ _ _ _ (by simp; omega)).trans (heap_setCell_other _ _ _ _ (by simp; omega)))).any)
  have hb6 : Below w.heap.size w ((w5.setCell ⟨w1.heap.size, 0, none⟩ (.int .i64 5)).setCell ⟨w1.heap.size, 1, none⟩ (.slice A5 1 c5)) := by (repeat (first | with_reducible exact Below.refl _ _ | with_reducible assumption | with_reducible refine bdraw ?_ | with_reducible refine bdrewN ?_ _ | with_reducible refine balloc ?_ _ | with_reducible refine bset ?_ (by simp <;> omega) | with_reducible refine bstep ?_ (by assumption) | with_reducible refine btrans ?_ (by assumption)))
  have HC := Lib.hid (crash_c (room := 5) (keep := 1) (turn := 0) s6 (by decide))
  clear s6 s5'
  go_wp2_with fail
  refine HC.out.mono ?_
  intro e w7 h
  obtain ⟨v7, he, s7, b7⟩ := h
  rw [al4.1, al4.2.2] at he
  rw [al4.2.1] at s7
  subst he
  have r7 := blkb r6 (w' := w7) b7
  have hb7 := bstep hb6 b7
  obtain ⟨A7, c7, hv7, _⟩ := s7.shape
  replace hv7 : v7 = .slice A7 1 c7 := hv7
  subst hv7
  have hz7 := b7.size
  have s7' := s7.mono (S' := Hi (w1.heap.size + 1)) (fun b fr hs _ => ⟨by have := hs.1; have := (Array.getElem?_eq_some_iff.1 r5).1; simp at *; omega, hs.2⟩)
  clear HC r6 r5 s7 xb0 xb1 fb0 fb1 b7
  have xd0 : w7.cell? ⟨w1.heap.size, 0, none⟩ = some (.int .i64 5) := cell_of_row _ _ 0 _ _ _ r7; have fd0 : w7.frozen? ⟨w1.heap.size, 0, none⟩ = false := frozen_of_row _ _ 0 _ _ r7; have xd1 : w7.cell? ⟨w1.heap.size, 1, none⟩ = some (.slice A5 1 c5) := cell_of_row _ _ 1 _ _ _ r7; have fd1 : w7.frozen? ⟨w1.heap.size, 1, none⟩ = false := frozen_of_row _ _ 1 _ _ r7
  have r8 : ((w7.setCell ⟨w1.heap.size, 0, none⟩ (.int .i64 5)).setCell ⟨w1.heap.size, 1, none⟩ (.slice A7 1 c7)).heap[w1.heap.size]? = some (.cells #[.int .i64 5, .slice A7 1 c7] 24 (0, 0)) := set2 r7
  have s8 := ((s7'.keep (w' := (w7.setCell ⟨w1.heap.size, 0, none⟩ (.int .i64 5)).setCell ⟨w1.heap.size, 1, none⟩ (.slice A7 1 c7)) (fun b fr hs _ => by
    have := hs.1
    exact (heap_setCell_other _ _ _ _ (by simp; omega)).trans (heap_setCell_other _ _ _ _ (by simp; omega)))).any)
  have hb8 : Below w.heap.size w ((w7.setCell ⟨w1.heap.size, 0, none⟩ (.int .i64 5)).setCell ⟨w1.heap.size, 1, none⟩ (.slice A7 1 c7)) := by (repeat (first | with_reducible exact Below.refl _ _ | with_reducible assumption | with_reducible refine bdraw ?_ | with_reducible refine bdrewN ?_ _ | with_reducible refine balloc ?_ _ | with_reducible refine bset ?_ (by simp <;> omega) | with_reducible refine bstep ?_ (by assumption) | with_reducible refine btrans ?_ (by assumption)))
  obtain ⟨bb, off, Av, cv, rfl, c0, c1, c2, hv⟩ := s8.fi (i := 0) (by simp)
  replace hv : Sl u8E Any _ (.slice Av 4 cv) [97, 98, 99, 100] := hv
  have kd := run_convert_sl (P := Try.prog) 25 9 5 Try.underlying25 Try.underlying5 Try.underlying9 hv
  have d1 := c1.cell
  simp only [Nat.zero_mul, Nat.add_zero, List.getElem_cons_zero] at d1
  clear s8 s7' c0 c1 c2 hv
  go_wp2
  go_ret
  exact ⟨rfl, hb8⟩
end Go.Proofs.Ytnblnlbchcepjaa
