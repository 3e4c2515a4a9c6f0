/- The journal: the document's Start. -/
import Derived.Test.YtbahiohlhhdkcaaDoorJnc
set_option linter.unusedSimpArgs false
namespace Go.Proofs.YtbahiohlhhdkcaaDoor
open Go.RowKit

set_option maxHeartbeats 4000000 in
theorem rjstart_c {S S' : Foot} {v u : Value} {room : Int} {l : List Fi} {p : List UInt8} {w : World} (hp : Sl fiE S w v l) (hq : Sl u8E S' w u p) :
    Calls Tryd.prog 21 #[.agg #[.int .i64 room, v], u] w (AnsS (jsR room l p) (jsF room l p) (jsE room l p) w) := by
  have hp := hp.any
  have hq := hq.any
  obtain ⟨A, cap, rfl, hc1, hc2, _⟩ := hp.shape
  obtain ⟨Ab, cb, rfl, hc3, hc4, _⟩ := hq.shape
  unfold maxLen at hc2 hc4
  have q0 : ((w.alloc (.cells #[.int .i64 room, .slice A l.length cap] 24)).alloc (.cells #[.int .i64 0, .slice none 0 0] 24)).heap[w.heap.size]? = some (.cells #[.int .i64 room, .slice A l.length cap] 24 (0, 0)) := heap_alloc2_old _ _ _
  have q1 : ((w.alloc (.cells #[.int .i64 room, .slice A l.length cap] 24)).alloc (.cells #[.int .i64 0, .slice none 0 0] 24)).heap[w.heap.size + 1]? = some (.cells #[.int .i64 0, .slice none 0 0] 24 (0, 0)) := by
    have := heap_alloc_new (w.alloc (.cells #[.int .i64 room, .slice A l.length cap] 24)) (.cells #[.int .i64 0, .slice none 0 0] 24)
    rwa [World.size_alloc] at this
  have HF := fun (w' : World) (bb : Below w.heap.size w w') => Lib.hid (rformed_c (room := room) (w := w') (hp.below (by (repeat (first | with_reducible exact Below.refl _ _ | with_reducible assumption | with_reducible refine bdraw ?_ | with_reducible refine bdrewN ?_ _ | with_reducible refine balloc ?_ _ | with_reducible refine bset ?_ (by simp <;> omega) | with_reducible refine bstep ?_ (by assumption) | with_reducible refine btrans ?_ (by assumption)))) (Nat.le_refl _)))
  by_cases hj : jok room l p
  rotate_left
  · have HR : Hid (jsE room l p = 1 ∧ jsF room l p = [] ∧ jsR room l p = 0) := Lib.hid (by simp [jsE, jsF, jsR, hj])
    have h3 : formedD room l = false ∨ (formedD room l = true ∧ 1048576 < p.length) := by
      cases h : formedD room l
      · exact .inl rfl
      · exact .inr ⟨rfl, by unfold jok at hj; rw [h] at hj; simp at hj; omega⟩
    clear hj
    go_enter Tryd.func21, Tryd.ntmps21
    rcases h3 with h3 | ⟨h3, h4⟩
    all_goals
      rw [h3] at HF
      clear h3
      go_wp2_with (go_at_call 30; refine (HF _ (by (repeat (first | with_reducible exact Below.refl _ _ | with_reducible assumption | with_reducible refine bdraw ?_ | with_reducible refine bdrewN ?_ _ | with_reducible refine balloc ?_ _ | with_reducible refine bset ?_ (by simp <;> omega) | with_reducible refine bstep ?_ (by assumption) | with_reducible refine btrans ?_ (by assumption))))).out.mono ?_; rintro e w1 ⟨rfl, b1⟩; have q2 := blkb q1 (w' := w1) (by (repeat (first | with_reducible exact Below.refl _ _ | with_reducible assumption | with_reducible refine bdraw ?_ | with_reducible refine bdrewN ?_ _ | with_reducible refine balloc ?_ _ | with_reducible refine bset ?_ (by simp <;> omega) | with_reducible refine bstep ?_ (by assumption) | with_reducible refine btrans ?_ (by assumption)))); have xa0 : w1.cell? ⟨w.heap.size + 1, 0, none⟩ = some (.int .i64 0) := cell_of_row _ _ 0 _ _ _ q2; have fa0 : w1.frozen? ⟨w.heap.size + 1, 0, none⟩ = false := frozen_of_row _ _ 0 _ _ q2; have xa1 : w1.cell? ⟨w.heap.size + 1, 1, none⟩ = some (.slice none 0 0) := cell_of_row _ _ 1 _ _ _ q2; have fa1 : w1.frozen? ⟨w.heap.size + 1, 1, none⟩ = false := frozen_of_row _ _ 1 _ _ q2)
      refine bodyPost_ret (results_cell_tmp1 rfl _ _ (w.heap.size + 1) 24 #[.int .i64 0, .slice none 0 0] (0, 0) _ rfl (set2 q2) Tryd.underlying24 rfl (by kernel_rfl)) rfl ?_
      exact ⟨_, by rw [HR.out.1, HR.out.2.2]; rfl, by rw [HR.out.2.1]; exact Sl.nil, by (repeat (first | with_reducible exact Below.refl _ _ | with_reducible assumption | with_reducible refine bdraw ?_ | with_reducible refine bdrewN ?_ _ | with_reducible refine balloc ?_ _ | with_reducible refine bset ?_ (by simp <;> omega) | with_reducible refine bstep ?_ (by assumption) | with_reducible refine btrans ?_ (by assumption)))⟩
  · have HR : Hid (jsE room l p = stE room l (sealed p) ∧ jsF room l p = stF room l (sealed p) ∧ jsR room l p = stR room l (sealed p)) := Lib.hid (by simp [jsE, jsF, jsR, hj])
    obtain ⟨hE, hlen⟩ := id hj
    have hl := lastD_in hE
    have hsy : syE room l = 0 ∧ syF room l = synced l ∧ syR room l = room := by simp [syE, syF, syR, hE]
    have HL := fun (w' : World) (bb : Below w.heap.size w w') => Lib.hid (rlast_c (room := room) (w := w') (hp.below (by (repeat (first | with_reducible exact Below.refl _ _ | with_reducible assumption | with_reducible refine bdraw ?_ | with_reducible refine bdrewN ?_ _ | with_reducible refine balloc ?_ _ | with_reducible refine bset ?_ (by simp <;> omega) | with_reducible refine bstep ?_ (by assumption) | with_reducible refine btrans ?_ (by assumption)))) (Nat.le_refl _)))
    have HS := fun (w' : World) (bb : Below w.heap.size w w') => Lib.hid ((rsync_c (room := room) (w := w') (hp.below (by (repeat (first | with_reducible exact Below.refl _ _ | with_reducible assumption | with_reducible refine bdraw ?_ | with_reducible refine bdrewN ?_ _ | with_reducible refine balloc ?_ _ | with_reducible refine bset ?_ (by simp <;> omega) | with_reducible refine bstep ?_ (by assumption) | with_reducible refine btrans ?_ (by assumption)))) (Nat.le_refl _))).mono fun _ _ h => (Ans.s h).s)
    have HSe := fun (w' : World) (bb : Below w.heap.size w w') => Lib.hid (rseal_c (w := w') (hq.below (by (repeat (first | with_reducible exact Below.refl _ _ | with_reducible assumption | with_reducible refine bdraw ?_ | with_reducible refine bdrewN ?_ _ | with_reducible refine balloc ?_ _ | with_reducible refine bset ?_ (by simp <;> omega) | with_reducible refine bstep ?_ (by assumption) | with_reducible refine btrans ?_ (by assumption)))) (Nat.le_refl _)))
    have e1 : sealE p = 0 := by unfold sealE; rw [if_neg (by omega)]
    have e2 : sealB p = sealed p := by unfold sealB; rw [if_neg (by omega)]
    rw [hsy.1, hsy.2.1, hsy.2.2] at HS
    rw [e1, e2] at HSe
    rw [hE] at HF
    have HE : Hid (stE room l (sealed p) = (if 1048576 < nextD room l then 15 else apE room (synced l) (nextD room l) (sealed p)) ∧ stF room l (sealed p) = (if 1048576 < nextD room l then [] else apF room (synced l) (nextD room l) (sealed p)) ∧ stR room l (sealed p) = (if 1048576 < nextD room l then 0 else apR room (synced l) (nextD room l) (sealed p))) := Lib.hid ⟨rfl, rfl, rfl⟩
    have hN : nextD room l = (if lastD room l < 0 then (0 : Int) else lastD room l) + 1 := rfl
    rw [hN] at HE
    obtain ⟨hl1, hl2⟩ := hl
    clear hsy hN e1 e2 hj hE
    generalize sealed p = sp at *
    generalize lastD room l = ld at *
    have d0 : decide ((1048576 : Int) < (p.length : Int)) = false := decide_eq_false (by omega)
    have d1 : decide (1048576 < p.length) = false := decide_eq_false (by omega)
    go_enter Tryd.func21, Tryd.ntmps21
    go_wp2_with fail
    refine (HF _ (by (repeat (first | with_reducible exact Below.refl _ _ | with_reducible assumption | with_reducible refine bdraw ?_ | with_reducible refine bdrewN ?_ _ | with_reducible refine balloc ?_ _ | with_reducible refine bset ?_ (by simp <;> omega) | with_reducible refine bstep ?_ (by assumption) | with_reducible refine btrans ?_ (by assumption))))).out.mono ?_
    rintro e w1 ⟨rfl, b1⟩
    have q2 := blkb q0 (w' := w1) (by (repeat (first | with_reducible exact Below.refl _ _ | with_reducible assumption | with_reducible refine bdraw ?_ | with_reducible refine bdrewN ?_ _ | with_reducible refine balloc ?_ _ | with_reducible refine bset ?_ (by simp <;> omega) | with_reducible refine bstep ?_ (by assumption) | with_reducible refine btrans ?_ (by assumption))))
    have z2 := blkb q1 (w' := w1) (by (repeat (first | with_reducible exact Below.refl _ _ | with_reducible assumption | with_reducible refine bdraw ?_ | with_reducible refine bdrewN ?_ _ | with_reducible refine balloc ?_ _ | with_reducible refine bset ?_ (by simp <;> omega) | with_reducible refine bstep ?_ (by assumption) | with_reducible refine btrans ?_ (by assumption))))
    have xa0 : w1.cell? ⟨w.heap.size, 0, none⟩ = some (.int .i64 room) := cell_of_row _ _ 0 _ _ _ q2; have fa0 : w1.frozen? ⟨w.heap.size, 0, none⟩ = false := frozen_of_row _ _ 0 _ _ q2; have xa1 : w1.cell? ⟨w.heap.size, 1, none⟩ = some (.slice A l.length cap) := cell_of_row _ _ 1 _ _ _ q2; have fa1 : w1.frozen? ⟨w.heap.size, 1, none⟩ = false := frozen_of_row _ _ 1 _ _ q2
    go_wp2_with fail
    refine (HL _ (by (repeat (first | with_reducible exact Below.refl _ _ | with_reducible assumption | with_reducible refine bdraw ?_ | with_reducible refine bdrewN ?_ _ | with_reducible refine balloc ?_ _ | with_reducible refine bset ?_ (by simp <;> omega) | with_reducible refine bstep ?_ (by assumption) | with_reducible refine btrans ?_ (by assumption))))).out.mono ?_
    rintro e w2 ⟨rfl, b2⟩
    have q3 := blkb q2 (w' := w2) (by (repeat (first | with_reducible exact Below.refl _ _ | with_reducible assumption | with_reducible refine bdraw ?_ | with_reducible refine bdrewN ?_ _ | with_reducible refine balloc ?_ _ | with_reducible refine bset ?_ (by simp <;> omega) | with_reducible refine bstep ?_ (by assumption) | with_reducible refine btrans ?_ (by assumption))))
    have z3 := blkb z2 (w' := w2) (by (repeat (first | with_reducible exact Below.refl _ _ | with_reducible assumption | with_reducible refine bdraw ?_ | with_reducible refine bdrewN ?_ _ | with_reducible refine balloc ?_ _ | with_reducible refine bset ?_ (by simp <;> omega) | with_reducible refine bstep ?_ (by assumption) | with_reducible refine btrans ?_ (by assumption))))
    have xb0 : w2.cell? ⟨w.heap.size, 0, none⟩ = some (.int .i64 room) := cell_of_row _ _ 0 _ _ _ q3; have fb0 : w2.frozen? ⟨w.heap.size, 0, none⟩ = false := frozen_of_row _ _ 0 _ _ q3; have xb1 : w2.cell? ⟨w.heap.size, 1, none⟩ = some (.slice A l.length cap) := cell_of_row _ _ 1 _ _ _ q3; have fb1 : w2.frozen? ⟨w.heap.size, 1, none⟩ = false := frozen_of_row _ _ 1 _ _ q3
    have bw2 : Below w.heap.size w w2 := by (repeat (first | with_reducible exact Below.refl _ _ | with_reducible assumption | with_reducible refine bdraw ?_ | with_reducible refine bdrewN ?_ _ | with_reducible refine balloc ?_ _ | with_reducible refine bset ?_ (by simp <;> omega) | with_reducible refine bstep ?_ (by assumption) | with_reducible refine btrans ?_ (by assumption)))
    have hz2 : w.heap.size + 2 ≤ w2.heap.size := by have := b1.size; have := b2.size; simp at *; omega
    clear xa0 xa1 fa0 fa1 b1 b2 HF HL q0 q1 q2 z2
    by_cases hbig : ld = 1048576
    · subst hbig
      have e9 : (1048576 : Int) < (if (1048576 : Int) < 0 then (0 : Int) else 1048576) + 1 := by decide
      simp only [if_pos e9] at HE
      have xc0 : w2.cell? ⟨w.heap.size + 1, 0, none⟩ = some (.int .i64 0) := cell_of_row _ _ 0 _ _ _ z3; have fc0 : w2.frozen? ⟨w.heap.size + 1, 0, none⟩ = false := frozen_of_row _ _ 0 _ _ z3; have xc1 : w2.cell? ⟨w.heap.size + 1, 1, none⟩ = some (.slice none 0 0) := cell_of_row _ _ 1 _ _ _ z3; have fc1 : w2.frozen? ⟨w.heap.size + 1, 1, none⟩ = false := frozen_of_row _ _ 1 _ _ z3
      go_wp2
      refine bodyPost_ret (results_cell_tmp1 rfl _ _ (w.heap.size + 1) 24 #[.int .i64 0, .slice none 0 0] (0, 0) _ rfl (set2 z3) Tryd.underlying24 rfl (by kernel_rfl)) rfl ?_
      exact ⟨_, by rw [HR.out.1, HR.out.2.2, HE.out.1, HE.out.2.2]; rfl, by rw [HR.out.2.1, HE.out.2.1]; exact Sl.nil, by (repeat (first | with_reducible exact Below.refl _ _ | with_reducible assumption | with_reducible refine bdraw ?_ | with_reducible refine bdrewN ?_ _ | with_reducible refine balloc ?_ _ | with_reducible refine bset ?_ (by simp <;> omega) | with_reducible refine bstep ?_ (by assumption) | with_reducible refine btrans ?_ (by assumption)))⟩
    · have d5 : (ld == 1048576) = false := by rw [beq_eq_false_iff_ne]; exact hbig
      by_cases hneg : ld < 0
      · have e8 : (if ld < 0 then (0 : Int) else ld) + 1 = 1 := by rw [if_pos hneg]; rfl
        rw [e8] at HE
        simp only [if_neg (show ¬ (1048576 : Int) < 1 by decide)] at HE
        have d6 : decide (ld < 0) = true := decide_eq_true hneg
        clear e8 hbig
        go_wp2_with fail
        refine (HSe _ (by (repeat (first | with_reducible exact Below.refl _ _ | with_reducible assumption | with_reducible refine bdraw ?_ | with_reducible refine bdrewN ?_ _ | with_reducible refine balloc ?_ _ | with_reducible refine bset ?_ (by simp <;> omega) | with_reducible refine bstep ?_ (by assumption) | with_reducible refine btrans ?_ (by assumption))))).out.mono ?_
        rintro e w3 ⟨v3, rfl, o3, b3⟩
        obtain ⟨A3, c3, rfl, _⟩ := o3.slAny.shape
        have s3 := o3.slAny
        have q4 := blkb q3 (w' := w3) (by (repeat (first | with_reducible exact Below.refl _ _ | with_reducible assumption | with_reducible refine bdraw ?_ | with_reducible refine bdrewN ?_ _ | with_reducible refine balloc ?_ _ | with_reducible refine bset ?_ (by simp <;> omega) | with_reducible refine bstep ?_ (by assumption) | with_reducible refine btrans ?_ (by assumption))))
        have z4 := blkb z3 (w' := w3) (by (repeat (first | with_reducible exact Below.refl _ _ | with_reducible assumption | with_reducible refine bdraw ?_ | with_reducible refine bdrewN ?_ _ | with_reducible refine balloc ?_ _ | with_reducible refine bset ?_ (by simp <;> omega) | with_reducible refine bstep ?_ (by assumption) | with_reducible refine btrans ?_ (by assumption))))
        have xc0 : w3.cell? ⟨w.heap.size, 0, none⟩ = some (.int .i64 room) := cell_of_row _ _ 0 _ _ _ q4; have fc0 : w3.frozen? ⟨w.heap.size, 0, none⟩ = false := frozen_of_row _ _ 0 _ _ q4; have xc1 : w3.cell? ⟨w.heap.size, 1, none⟩ = some (.slice A l.length cap) := cell_of_row _ _ 1 _ _ _ q4; have fc1 : w3.frozen? ⟨w.heap.size, 1, none⟩ = false := frozen_of_row _ _ 1 _ _ q4
        go_wp2_with fail
        refine (HS _ (by (repeat (first | with_reducible exact Below.refl _ _ | with_reducible assumption | with_reducible refine bdraw ?_ | with_reducible refine bdrewN ?_ _ | with_reducible refine balloc ?_ _ | with_reducible refine bset ?_ (by simp <;> omega) | with_reducible refine bstep ?_ (by assumption) | with_reducible refine btrans ?_ (by assumption))))).out.mono ?_
        rintro e w4 ⟨A4, c4, rfl, s4, b4⟩
        have z5 := blkb z4 (w' := w4.alloc (.cells #[.int .i64 room, .slice A4 (synced l).length c4] 24)) (by (repeat (first | with_reducible exact Below.refl _ _ | with_reducible assumption | with_reducible refine bdraw ?_ | with_reducible refine bdrewN ?_ _ | with_reducible refine balloc ?_ _ | with_reducible refine bset ?_ (by simp <;> omega) | with_reducible refine bstep ?_ (by assumption) | with_reducible refine btrans ?_ (by assumption))))
        have x5 := heap_alloc_new w4 (.cells #[.int .i64 room, .slice A4 (synced l).length c4] 24)
        have s5 := s4.any.below (w' := w4.alloc (.cells #[.int .i64 room, .slice A4 (synced l).length c4] 24)) (by (repeat (first | with_reducible exact Below.refl _ _ | with_reducible assumption | with_reducible refine bdraw ?_ | with_reducible refine bdrewN ?_ _ | with_reducible refine balloc ?_ _ | with_reducible refine bset ?_ (by simp <;> omega) | with_reducible refine bstep ?_ (by assumption) | with_reducible refine btrans ?_ (by assumption)))) (Nat.le_refl _)
        have s35 := s3.below (w' := w4.alloc (.cells #[.int .i64 room, .slice A4 (synced l).length c4] 24)) (by (repeat (first | with_reducible exact Below.refl _ _ | with_reducible assumption | with_reducible refine bdraw ?_ | with_reducible refine bdrewN ?_ _ | with_reducible refine balloc ?_ _ | with_reducible refine bset ?_ (by simp <;> omega) | with_reducible refine bstep ?_ (by assumption) | with_reducible refine btrans ?_ (by assumption)))) (Nat.le_refl _)
        have bw5 : Below w.heap.size w (w4.alloc (.cells #[.int .i64 room, .slice A4 (synced l).length c4] 24)) := by (repeat (first | with_reducible exact Below.refl _ _ | with_reducible assumption | with_reducible refine bdraw ?_ | with_reducible refine bdrewN ?_ _ | with_reducible refine balloc ?_ _ | with_reducible refine bset ?_ (by simp <;> omega) | with_reducible refine bstep ?_ (by assumption) | with_reducible refine btrans ?_ (by assumption)))
        have hz5 : w.heap.size + 2 ≤ w4.heap.size := by have := b3.size; have := b4.size; omega
        have xx0 : (w4.alloc (.cells #[.int .i64 room, .slice A4 (synced l).length c4] 24)).cell? ⟨w4.heap.size, 0, none⟩ = some (.int .i64 room) := cell_of_row _ _ 0 _ _ _ x5; have fx0 : (w4.alloc (.cells #[.int .i64 room, .slice A4 (synced l).length c4] 24)).frozen? ⟨w4.heap.size, 0, none⟩ = false := frozen_of_row _ _ 0 _ _ x5; have xx1 : (w4.alloc (.cells #[.int .i64 room, .slice A4 (synced l).length c4] 24)).cell? ⟨w4.heap.size, 1, none⟩ = some (.slice A4 (synced l).length c4) := cell_of_row _ _ 1 _ _ _ x5; have fx1 : (w4.alloc (.cells #[.int .i64 room, .slice A4 (synced l).length c4] 24)).frozen? ⟨w4.heap.size, 1, none⟩ = false := frozen_of_row _ _ 1 _ _ x5
        go_wp2_with fail
        refine ((rappend_c (room := room) (n := 1) s5 s35).mono fun _ _ h => (Appended.s h).s).mono ?_
        rintro e w6 ⟨A6, c6, rfl, s6, b6⟩
        have z6 := blkb z5 (w' := w6) b6
        have xd0 : w6.cell? ⟨w.heap.size + 1, 0, none⟩ = some (.int .i64 0) := cell_of_row _ _ 0 _ _ _ z6; have fd0 : w6.frozen? ⟨w.heap.size + 1, 0, none⟩ = false := frozen_of_row _ _ 0 _ _ z6; have xd1 : w6.cell? ⟨w.heap.size + 1, 1, none⟩ = some (.slice none 0 0) := cell_of_row _ _ 1 _ _ _ z6; have fd1 : w6.frozen? ⟨w.heap.size + 1, 1, none⟩ = false := frozen_of_row _ _ 1 _ _ z6
        go_wp2
        refine bodyPost_ret (results_cell_tmp1 rfl _ _ (w.heap.size + 1) 24 #[.int .i64 (apR room (synced l) (1) sp), .slice A6 (apF room (synced l) (1) sp).length c6] (0, 0) _ rfl (set2 z6) Tryd.underlying24 rfl (by kernel_rfl)) rfl ?_
        refine ⟨_, by rw [HR.out.1, HR.out.2.2, HE.out.1, HE.out.2.2]; rfl, ?_, by (repeat (first | with_reducible exact Below.refl _ _ | with_reducible assumption | with_reducible refine bdraw ?_ | with_reducible refine bdrewN ?_ _ | with_reducible refine balloc ?_ _ | with_reducible refine bset ?_ (by simp <;> omega) | with_reducible refine bstep ?_ (by assumption) | with_reducible refine btrans ?_ (by assumption)))⟩
        rw [HR.out.2.1, HE.out.2.1]
        exact (sfar (sfar s6 (by simp; omega)) (by simp; omega)).mono (fun b fr h _ => ⟨by have := h.1; simp at this; omega, h.2⟩)
      · have e8 : (if ld < 0 then (0 : Int) else ld) + 1 = ld + 1 := by rw [if_neg hneg]
        rw [e8] at HE
        simp only [if_neg (show ¬ (1048576 : Int) < ld + 1 by omega)] at HE
        have d6 : decide (ld < 0) = false := decide_eq_false hneg
        have hwr : IntKind.i64.wrap (ld + 1) = ld + 1 := IntWalk.i64_in _ (by omega)
        clear e8 hbig
        go_wp2_with fail
        refine (HSe _ (by (repeat (first | with_reducible exact Below.refl _ _ | with_reducible assumption | with_reducible refine bdraw ?_ | with_reducible refine bdrewN ?_ _ | with_reducible refine balloc ?_ _ | with_reducible refine bset ?_ (by simp <;> omega) | with_reducible refine bstep ?_ (by assumption) | with_reducible refine btrans ?_ (by assumption))))).out.mono ?_
        rintro e w3 ⟨v3, rfl, o3, b3⟩
        obtain ⟨A3, c3, rfl, _⟩ := o3.slAny.shape
        have s3 := o3.slAny
        have q4 := blkb q3 (w' := w3) (by (repeat (first | with_reducible exact Below.refl _ _ | with_reducible assumption | with_reducible refine bdraw ?_ | with_reducible refine bdrewN ?_ _ | with_reducible refine balloc ?_ _ | with_reducible refine bset ?_ (by simp <;> omega) | with_reducible refine bstep ?_ (by assumption) | with_reducible refine btrans ?_ (by assumption))))
        have z4 := blkb z3 (w' := w3) (by (repeat (first | with_reducible exact Below.refl _ _ | with_reducible assumption | with_reducible refine bdraw ?_ | with_reducible refine bdrewN ?_ _ | with_reducible refine balloc ?_ _ | with_reducible refine bset ?_ (by simp <;> omega) | with_reducible refine bstep ?_ (by assumption) | with_reducible refine btrans ?_ (by assumption))))
        have xc0 : w3.cell? ⟨w.heap.size, 0, none⟩ = some (.int .i64 room) := cell_of_row _ _ 0 _ _ _ q4; have fc0 : w3.frozen? ⟨w.heap.size, 0, none⟩ = false := frozen_of_row _ _ 0 _ _ q4; have xc1 : w3.cell? ⟨w.heap.size, 1, none⟩ = some (.slice A l.length cap) := cell_of_row _ _ 1 _ _ _ q4; have fc1 : w3.frozen? ⟨w.heap.size, 1, none⟩ = false := frozen_of_row _ _ 1 _ _ q4
        go_wp2_with fail
        refine (HS _ (by (repeat (first | with_reducible exact Below.refl _ _ | with_reducible assumption | with_reducible refine bdraw ?_ | with_reducible refine bdrewN ?_ _ | with_reducible refine balloc ?_ _ | with_reducible refine bset ?_ (by simp <;> omega) | with_reducible refine bstep ?_ (by assumption) | with_reducible refine btrans ?_ (by assumption))))).out.mono ?_
        rintro e w4 ⟨A4, c4, rfl, s4, b4⟩
        have z5 := blkb z4 (w' := w4.alloc (.cells #[.int .i64 room, .slice A4 (synced l).length c4] 24)) (by (repeat (first | with_reducible exact Below.refl _ _ | with_reducible assumption | with_reducible refine bdraw ?_ | with_reducible refine bdrewN ?_ _ | with_reducible refine balloc ?_ _ | with_reducible refine bset ?_ (by simp <;> omega) | with_reducible refine bstep ?_ (by assumption) | with_reducible refine btrans ?_ (by assumption))))
        have x5 := heap_alloc_new w4 (.cells #[.int .i64 room, .slice A4 (synced l).length c4] 24)
        have s5 := s4.any.below (w' := w4.alloc (.cells #[.int .i64 room, .slice A4 (synced l).length c4] 24)) (by (repeat (first | with_reducible exact Below.refl _ _ | with_reducible assumption | with_reducible refine bdraw ?_ | with_reducible refine bdrewN ?_ _ | with_reducible refine balloc ?_ _ | with_reducible refine bset ?_ (by simp <;> omega) | with_reducible refine bstep ?_ (by assumption) | with_reducible refine btrans ?_ (by assumption)))) (Nat.le_refl _)
        have s35 := s3.below (w' := w4.alloc (.cells #[.int .i64 room, .slice A4 (synced l).length c4] 24)) (by (repeat (first | with_reducible exact Below.refl _ _ | with_reducible assumption | with_reducible refine bdraw ?_ | with_reducible refine bdrewN ?_ _ | with_reducible refine balloc ?_ _ | with_reducible refine bset ?_ (by simp <;> omega) | with_reducible refine bstep ?_ (by assumption) | with_reducible refine btrans ?_ (by assumption)))) (Nat.le_refl _)
        have bw5 : Below w.heap.size w (w4.alloc (.cells #[.int .i64 room, .slice A4 (synced l).length c4] 24)) := by (repeat (first | with_reducible exact Below.refl _ _ | with_reducible assumption | with_reducible refine bdraw ?_ | with_reducible refine bdrewN ?_ _ | with_reducible refine balloc ?_ _ | with_reducible refine bset ?_ (by simp <;> omega) | with_reducible refine bstep ?_ (by assumption) | with_reducible refine btrans ?_ (by assumption)))
        have hz5 : w.heap.size + 2 ≤ w4.heap.size := by have := b3.size; have := b4.size; omega
        have xx0 : (w4.alloc (.cells #[.int .i64 room, .slice A4 (synced l).length c4] 24)).cell? ⟨w4.heap.size, 0, none⟩ = some (.int .i64 room) := cell_of_row _ _ 0 _ _ _ x5; have fx0 : (w4.alloc (.cells #[.int .i64 room, .slice A4 (synced l).length c4] 24)).frozen? ⟨w4.heap.size, 0, none⟩ = false := frozen_of_row _ _ 0 _ _ x5; have xx1 : (w4.alloc (.cells #[.int .i64 room, .slice A4 (synced l).length c4] 24)).cell? ⟨w4.heap.size, 1, none⟩ = some (.slice A4 (synced l).length c4) := cell_of_row _ _ 1 _ _ _ x5; have fx1 : (w4.alloc (.cells #[.int .i64 room, .slice A4 (synced l).length c4] 24)).frozen? ⟨w4.heap.size, 1, none⟩ = false := frozen_of_row _ _ 1 _ _ x5
        go_wp2_with fail
        refine ((rappend_c (room := room) (n := ld + 1) s5 s35).mono fun _ _ h => (Appended.s h).s).mono ?_
        rintro e w6 ⟨A6, c6, rfl, s6, b6⟩
        have z6 := blkb z5 (w' := w6) b6
        have xd0 : w6.cell? ⟨w.heap.size + 1, 0, none⟩ = some (.int .i64 0) := cell_of_row _ _ 0 _ _ _ z6; have fd0 : w6.frozen? ⟨w.heap.size + 1, 0, none⟩ = false := frozen_of_row _ _ 0 _ _ z6; have xd1 : w6.cell? ⟨w.heap.size + 1, 1, none⟩ = some (.slice none 0 0) := cell_of_row _ _ 1 _ _ _ z6; have fd1 : w6.frozen? ⟨w.heap.size + 1, 1, none⟩ = false := frozen_of_row _ _ 1 _ _ z6
        go_wp2
        refine bodyPost_ret (results_cell_tmp1 rfl _ _ (w.heap.size + 1) 24 #[.int .i64 (apR room (synced l) (ld + 1) sp), .slice A6 (apF room (synced l) (ld + 1) sp).length c6] (0, 0) _ rfl (set2 z6) Tryd.underlying24 rfl (by kernel_rfl)) rfl ?_
        refine ⟨_, by rw [HR.out.1, HR.out.2.2, HE.out.1, HE.out.2.2]; rfl, ?_, by (repeat (first | with_reducible exact Below.refl _ _ | with_reducible assumption | with_reducible refine bdraw ?_ | with_reducible refine bdrewN ?_ _ | with_reducible refine balloc ?_ _ | with_reducible refine bset ?_ (by simp <;> omega) | with_reducible refine bstep ?_ (by assumption) | with_reducible refine btrans ?_ (by assumption)))⟩
        rw [HR.out.2.1, HE.out.2.1]
        exact (sfar (sfar s6 (by simp; omega)) (by simp; omega)).mono (fun b fr h _ => ⟨by have := h.1; simp at this; omega, h.2⟩)
end Go.Proofs.YtbahiohlhhdkcaaDoor
