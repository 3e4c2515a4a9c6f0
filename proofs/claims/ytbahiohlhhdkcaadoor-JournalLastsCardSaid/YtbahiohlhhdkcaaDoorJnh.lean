/- The journal: the fixed fact. -/
import Derived.Test.YtbahiohlhhdkcaaDoorJnl
set_option linter.unusedSimpArgs false
namespace Go.Proofs.YtbahiohlhhdkcaaDoor
open Go.RowKit

def jf1 : List Fi := [⟨1, sealed [7], 0⟩]
def jf2 : List Fi := [⟨1, sealed [7] ++ sealed [8], 0⟩]
theorem jal1 : jaR 4096 [] [7] = 4096 ∧ jaF 4096 [] [7] = jf1 ∧ jaE 4096 [] [7] = 0 := by decide +kernel
theorem jal2 : jaR 4096 jf1 [8] = 4096 ∧ jaF 4096 jf1 [8] = jf2 ∧ jaE 4096 jf1 [8] = 0 := by decide +kernel
theorem jal3 : saR 4096 jf2 = 4096 ∧ saE 4096 jf2 = 0 ∧ (saF 4096 jf2).length = 1 := by decide +kernel
theorem jal4 : saL 4096 jf2 = [[7], [8]] := by
  have hf : formedD 4096 jf2 = true := by decide +kernel
  obtain ⟨h1, h2⟩ := ct_all (L := [[7], [8]]) (by intro x hx; simp at hx; rcases hx with rfl | rfl <;> simp)
  have e : fl [[7], [8]] = sealed [7] ++ sealed [8] := by simp [fl]
  rw [e] at h1 h2
  unfold saL
  rw [if_pos hf]
  have hw : Wh jf2 := by intro f hf; simp [jf2] at hf; subst hf; exact h2
  rw [(wh_scan hw).1]
  show recs [_] = _
  rw [recs_one]
  exact h1
theorem jal5 : lastD 4096 jf2 = 1 := by decide +kernel
theorem one_u8 (w : World) (x : UInt8) (t : TypeId) : Sl u8E Any (w.alloc (.cells #[.int .u8 (x.toNat : Int)] t)) (.slice (some ⟨w.heap.size, 0, none⟩) 1 1) [x] := bytes_block w [x] t (0, 0) (by simp)
set_option maxRecDepth 100000 in
set_option maxHeartbeats 4000000 in
theorem alive_c {w : World} (ht : Tab w) : Calls Tryd.prog 8 #[] w fun e w' => e = .returned (.bool true) ∧ Below w.heap.size w w' := by
  have hx1 : Sl u8E Any (w.alloc (.cells #[.int .u8 7] 5)) (.slice (some ⟨w.heap.size, 0, none⟩) 1 1) [7] := one_u8 w 7 _
  have b0 : Below w.heap.size w (w.alloc (.cells #[.int .u8 7] 5)) := (Below.refl _ _).alloc (Nat.le_refl _) _
  have HP1 := Lib.hid ((jappend_c (S := Any) (l := []) (room := 4096) Sl.nil hx1 (ht.below b0 (Nat.le_refl _))).mono fun _ _ h => h.s)
  rw [jal1.1, jal1.2.1, jal1.2.2] at HP1
  clear hx1
  go_enter Tryd.func8, Tryd.ntmps8
  go_wp2_with fail
  refine HP1.out.mono ?_
  rintro e w1 ⟨A1, c1, rfl, s1, b1⟩
  have hL1 : jf1.length = 1 := rfl
  rw [hL1] at s1 ⊢
  have hb1 : Below w.heap.size w w1 := by (repeat (first | with_reducible exact Below.refl _ _ | with_reducible assumption | with_reducible refine bdraw ?_ | with_reducible refine bdrewN ?_ _ | with_reducible refine balloc ?_ _ | with_reducible refine bset ?_ (by simp <;> omega) | with_reducible refine bstep ?_ (by assumption) | with_reducible refine btrans ?_ (by assumption)))
  have s1 := s1.any
  have r1 := heap_alloc_new w1 (.cells #[.int .i64 4096, .slice A1 1 c1] 24)
  have hx2 : Sl u8E Any ((w1.alloc (.cells #[.int .i64 4096, .slice A1 1 c1] 24)).alloc (.cells #[.int .u8 8] 5)) (.slice (some ⟨w1.heap.size + 1, 0, none⟩) 1 1) [8] := by
    have := one_u8 (w1.alloc (.cells #[.int .i64 4096, .slice A1 1 c1] 24)) 8 5
    rw [World.size_alloc] at this
    exact this
  have hD : Below w.heap.size w ((w1.alloc (.cells #[.int .i64 4096, .slice A1 1 c1] 24)).alloc (.cells #[.int .u8 8] 5)) := by (repeat (first | with_reducible exact Below.refl _ _ | with_reducible assumption | with_reducible refine bdraw ?_ | with_reducible refine bdrewN ?_ _ | with_reducible refine balloc ?_ _ | with_reducible refine bset ?_ (by simp <;> omega) | with_reducible refine bstep ?_ (by assumption) | with_reducible refine btrans ?_ (by assumption)))
  have b12 : Below w1.heap.size w1 ((w1.alloc (.cells #[.int .i64 4096, .slice A1 1 c1] 24)).alloc (.cells #[.int .u8 8] 5)) := by (repeat (first | with_reducible exact Below.refl _ _ | with_reducible assumption | with_reducible refine bdraw ?_ | with_reducible refine bdrewN ?_ _ | with_reducible refine balloc ?_ _ | with_reducible refine bset ?_ (by simp <;> omega) | with_reducible refine bstep ?_ (by assumption) | with_reducible refine btrans ?_ (by assumption)))
  have HP2 := Lib.hid ((jappend_c (room := 4096) (s1.below b12 (Nat.le_refl _)) hx2 (ht.below hD (Nat.le_refl _))).mono fun _ _ h => h.s)
  rw [jal2.1, jal2.2.1, jal2.2.2] at HP2
  clear hx2 HP1
  go_wp2_with fail
  refine HP2.out.mono ?_
  rintro e w2 ⟨A2, c2, rfl, s2, b2⟩
  have hL2 : jf2.length = 1 := rfl
  rw [hL2] at s2 ⊢
  have hz2 := b2.size
  simp only [World.size_alloc] at hz2
  have r2 := blkb r1 (w' := w2) (by (repeat (first | with_reducible exact Below.refl _ _ | with_reducible assumption | with_reducible refine bdraw ?_ | with_reducible refine bdrewN ?_ _ | with_reducible refine balloc ?_ _ | with_reducible refine bset ?_ (by simp <;> omega) | with_reducible refine bstep ?_ (by assumption) | with_reducible refine btrans ?_ (by assumption))))
  have xa0 : w2.cell? ⟨w1.heap.size, 0, none⟩ = some (.int .i64 4096) := cell_of_row _ _ 0 _ _ _ r2; have fa0 : w2.frozen? ⟨w1.heap.size, 0, none⟩ = false := frozen_of_row _ _ 0 _ _ r2; have xa1 : w2.cell? ⟨w1.heap.size, 1, none⟩ = some (.slice A1 1 c1) := cell_of_row _ _ 1 _ _ _ r2; have fa1 : w2.frozen? ⟨w1.heap.size, 1, none⟩ = false := frozen_of_row _ _ 1 _ _ r2
  have hz1 := hb1.size
  have hb2 : Below w.heap.size w w2 := by (repeat (first | with_reducible exact Below.refl _ _ | with_reducible assumption | with_reducible refine bdraw ?_ | with_reducible refine bdrewN ?_ _ | with_reducible refine balloc ?_ _ | with_reducible refine bset ?_ (by simp <;> omega) | with_reducible refine bstep ?_ (by assumption) | with_reducible refine btrans ?_ (by assumption)))
  obtain ⟨W3, hW3⟩ : ∃ W3, ((w2.setCell ⟨w1.heap.size, 0, none⟩ (.int .i64 4096)).setCell ⟨w1.heap.size, 1, none⟩ (.slice A2 1 c2)) = W3 := ⟨_, rfl⟩
  have r3 : W3.heap[w1.heap.size]? = some (.cells #[.int .i64 4096, .slice A2 1 c2] 24 (0, 0)) := by rw [← hW3]; exact set2 r2
  have hb3 : Below w.heap.size w W3 := by rw [← hW3]; exact bset (bset hb2 hz1) hz1
  have s3 : Sl fiE Any W3 (.slice A2 1 c2) jf2 := by
    rw [← hW3]
    exact (sfar (sfar s2 (p := ⟨w1.heap.size, 0, none⟩) (by simp; omega)) (p := ⟨w1.heap.size, 1, none⟩) (by simp; omega)).any
  have HSC := Lib.hid (jscan_c (room := 4096) s3 (ht.below hb3 (Nat.le_refl _)))
  rw [jal3.1, jal3.2.1, jal4] at HSC
  have HW3 := Lib.hid hW3
  clear hW3 HP2 s2
  go_wp2_with fail
  rw [HW3.out]
  refine HSC.out.mono ?_
  rintro e w4 ⟨vr, vn, rfl, s4, s4d, b4⟩
  obtain ⟨A4, c4, rfl, _⟩ := s4.shape
  obtain ⟨A5, c5, rfl, _⟩ := s4d.shape
  rw [jal3.2.2]
  have r4 := blkb (blkb r3 b4) (w' := w4.alloc (.cells #[.int .i64 4096, .slice A5 1 c5] 24)) (by (repeat (first | with_reducible exact Below.refl _ _ | with_reducible assumption | with_reducible refine bdraw ?_ | with_reducible refine bdrewN ?_ _ | with_reducible refine balloc ?_ _ | with_reducible refine bset ?_ (by simp <;> omega) | with_reducible refine bstep ?_ (by assumption) | with_reducible refine btrans ?_ (by assumption))))
  have b45 : Below w4.heap.size w4 (w4.alloc (.cells #[.int .i64 4096, .slice A5 1 c5] 24)) := (Below.refl _ _).alloc (Nat.le_refl _) _
  obtain ⟨bb, off, u1, rfl, k1, hu1⟩ := (s4.below b45 (Nat.le_refl _)).elem (i := 1) (by simp)
  replace hu1 : Sl u8E (Hi W3.heap.size) (w4.alloc (.cells #[.int .i64 4096, .slice A5 1 c5] 24)) u1 [8] := hu1
  obtain ⟨A6, c6, rfl, hc6, _⟩ := hu1.shape
  obtain ⟨b7, o7, rfl, k2⟩ := hu1.byte (i := 0) (by simp)
  have d1 := k1.cell
  have d2 : (w4.alloc (.cells #[.int .i64 4096, .slice A5 1 c5] 24)).cell? ⟨b7, o7, none⟩ = some (.int .u8 8) := k2.cell
  have hb4 : Below w.heap.size w (w4.alloc (.cells #[.int .i64 4096, .slice A5 1 c5] 24)) := by (repeat (first | with_reducible exact Below.refl _ _ | with_reducible assumption | with_reducible refine bdraw ?_ | with_reducible refine bdrewN ?_ _ | with_reducible refine balloc ?_ _ | with_reducible refine bset ?_ (by simp <;> omega) | with_reducible refine bstep ?_ (by assumption) | with_reducible refine btrans ?_ (by assumption)))
  have sL : Sl fiE Any (w4.alloc (.cells #[.int .i64 4096, .slice A5 1 c5] 24)) (.slice A2 1 c2) jf2 := s3.below (b4.trans (b45.mono b4.size)) (Nat.le_refl _)
  have HLA := Lib.hid (last_c (room := 4096) sL)
  rw [jal5] at HLA
  have xe0 : (w4.alloc (.cells #[.int .i64 4096, .slice A5 1 c5] 24)).cell? ⟨w1.heap.size, 0, none⟩ = some (.int .i64 4096) := cell_of_row _ _ 0 _ _ _ r4; have fe0 : (w4.alloc (.cells #[.int .i64 4096, .slice A5 1 c5] 24)).frozen? ⟨w1.heap.size, 0, none⟩ = false := frozen_of_row _ _ 0 _ _ r4; have xe1 : (w4.alloc (.cells #[.int .i64 4096, .slice A5 1 c5] 24)).cell? ⟨w1.heap.size, 1, none⟩ = some (.slice A2 1 c2) := cell_of_row _ _ 1 _ _ _ r4; have fe1 : (w4.alloc (.cells #[.int .i64 4096, .slice A5 1 c5] 24)).frozen? ⟨w1.heap.size, 1, none⟩ = false := frozen_of_row _ _ 1 _ _ r4
  clear k1 k2 HSC xa0 xa1 fa0 fa1
  go_wp2_with fail
  refine HLA.out.mono ?_
  rintro e w8 ⟨rfl, b8⟩
  have hb8 := bstep hb4 b8
  go_wp2
  go_ret
  exact ⟨rfl, hb8⟩
end Go.Proofs.YtbahiohlhhdkcaaDoor
