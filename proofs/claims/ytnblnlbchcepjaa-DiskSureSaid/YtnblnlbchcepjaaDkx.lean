/- Disks: the document's Cut and Remove. -/
import Derived.Test.YtnblnlbchcepjaaDkw
import Derived.Test.YtnblnlbchcepjaaPsh
set_option linter.unusedSimpArgs false
namespace Go.Proofs.Ytnblnlbchcepjaa
open Go.RowKit

theorem rid_bad {room : Int} {l : List Fi} {n : Int} (h : formedD room l = false) : gtE room l n = 1 ∧ rmF room l n = [] ∧ idR room l n = 0 := by
  have e := (gt_bad (n := n) h).1
  have := rm_no (room := room) (l := l) (n := n) (by omega)
  exact ⟨e, this.1, this.2.2⟩
theorem rid_none {room : Int} {l : List Fi} {n : Int} (h : formedD room l = true) (h2 : placeP l n = -1) : gtE room l n = 16 ∧ rmF room l n = [] ∧ idR room l n = 0 := by
  have e := (gt_none h h2).1
  have := rm_no (room := room) (l := l) (n := n) (by omega)
  exact ⟨e, this.1, this.2.2⟩

set_option maxRecDepth 100000 in
set_option maxHeartbeats 8000000 in
theorem rcut_c {S : Foot} {v : Value} {room n m : Int} {l : List Fi} {w : World} (hp : Sl fiE S w v l) :
    Calls Try.prog 25 #[.agg #[.int .i64 room, v], .int .i64 n , .int .i64 m] w (AnsS (ctR room l n m) (ctF room l n m) (ctE room l n m) w) := by
  have hp := hp.any
  obtain ⟨A, cap, rfl, hc1, hc2, _⟩ := hp.shape
  unfold maxLen at hc2
  have q0 : ((w.alloc (.cells #[.int .i64 room, .slice A l.length cap] 24)).alloc (.cells #[.int .i64 0, .slice none 0 0] 24)).heap[w.heap.size]? = some (.cells #[.int .i64 room, .slice A l.length cap] 24 (0, 0)) := heap_alloc2_old _ _ _
  have q1 : ((w.alloc (.cells #[.int .i64 room, .slice A l.length cap] 24)).alloc (.cells #[.int .i64 0, .slice none 0 0] 24)).heap[w.heap.size + 1]? = some (.cells #[.int .i64 0, .slice none 0 0] 24 (0, 0)) := by
    have := heap_alloc_new (w.alloc (.cells #[.int .i64 room, .slice A l.length cap] 24)) (.cells #[.int .i64 0, .slice none 0 0] 24)
    rwa [World.size_alloc] at this
  have bW : Below w.heap.size w ((w.alloc (.cells #[.int .i64 room, .slice A l.length cap] 24)).alloc (.cells #[.int .i64 0, .slice none 0 0] 24)) := by (repeat (first | with_reducible exact Below.refl _ _ | with_reducible assumption | with_reducible refine bdraw ?_ | with_reducible refine bdrewN ?_ _ | with_reducible refine balloc ?_ _ | with_reducible refine bset ?_ (by simp <;> omega) | with_reducible refine bstep ?_ (by assumption) | with_reducible refine btrans ?_ (by assumption)))
  have HF := fun (w' : World) (bb : Below w.heap.size w w') => Lib.hid (rformed_c (room := room) (w := w') (hp.below (by (repeat (first | with_reducible exact Below.refl _ _ | with_reducible assumption | with_reducible refine bdraw ?_ | with_reducible refine bdrewN ?_ _ | with_reducible refine balloc ?_ _ | with_reducible refine bset ?_ (by simp <;> omega) | with_reducible refine bstep ?_ (by assumption) | with_reducible refine btrans ?_ (by assumption)))) (Nat.le_refl _)))
  cases hE : formedD room l
  · have HR := Lib.hid (ct_bad (n := n) (m := m) hE)
    rw [hE] at HF
    clear hE
    go_enter Try.func25, Try.ntmps25
    go_wp2_with (go_at_call 14; refine (HF _ (by (repeat (first | with_reducible exact Below.refl _ _ | with_reducible assumption | with_reducible refine bdraw ?_ | with_reducible refine bdrewN ?_ _ | with_reducible refine balloc ?_ _ | with_reducible refine bset ?_ (by simp <;> omega) | with_reducible refine bstep ?_ (by assumption) | with_reducible refine btrans ?_ (by assumption))))).out.mono ?_; rintro e w1 ⟨rfl, b1⟩; have q2 := blkb q1 (w' := w1) (by (repeat (first | with_reducible exact Below.refl _ _ | with_reducible assumption | with_reducible refine bdraw ?_ | with_reducible refine bdrewN ?_ _ | with_reducible refine balloc ?_ _ | with_reducible refine bset ?_ (by simp <;> omega) | with_reducible refine bstep ?_ (by assumption) | with_reducible refine btrans ?_ (by assumption)))); have xa0 : w1.cell? ⟨w.heap.size + 1, 0, none⟩ = some (.int .i64 0) := cell_of_row _ _ 0 _ _ _ q2; have fa0 : w1.frozen? ⟨w.heap.size + 1, 0, none⟩ = false := frozen_of_row _ _ 0 _ _ q2; have xa1 : w1.cell? ⟨w.heap.size + 1, 1, none⟩ = some (.slice none 0 0) := cell_of_row _ _ 1 _ _ _ q2; have fa1 : w1.frozen? ⟨w.heap.size + 1, 1, none⟩ = false := frozen_of_row _ _ 1 _ _ q2)
    refine bodyPost_ret (results_cell_tmp1 rfl _ _ (w.heap.size + 1) 24 #[.int .i64 0, .slice none 0 0] (0, 0) _ rfl (set2 q2) Try.underlying24 rfl (by kernel_rfl)) rfl ?_
    exact ⟨_, by rw [HR.out.1, HR.out.2.2]; rfl, by rw [HR.out.2.1]; exact Sl.nil, by (repeat (first | with_reducible exact Below.refl _ _ | with_reducible assumption | with_reducible refine bdraw ?_ | with_reducible refine bdrewN ?_ _ | with_reducible refine balloc ?_ _ | with_reducible refine bset ?_ (by simp <;> omega) | with_reducible refine bstep ?_ (by assumption) | with_reducible refine btrans ?_ (by assumption)))⟩
  · have HE := Lib.hid hE
    have hlen := formedD_len hE
    have HLow := Lib.hid (fun f hf' => fineF_low (fs := l) (by simp only [formedD, Bool.and_eq_true] at hE; exact hE.2) f hf')
    have hsz := formedD_size hE
    rw [hE] at HF
    clear hE
    obtain ⟨hs1, hs2, hs3⟩ := hsz
    have hpl2 := placeP_lt l n
    by_cases hpl : placeP l n < 0
    · have e : placeP l n = -1 := by omega
      have HR := Lib.hid (ct_none (m := m) HE.out e)
      have HP := fun (w' : World) (bb : Below w.heap.size w w') => Lib.hid (rplace_c (room := room) (o := n) (w := w') (hp.below (by (repeat (first | with_reducible exact Below.refl _ _ | with_reducible assumption | with_reducible refine bdraw ?_ | with_reducible refine bdrewN ?_ _ | with_reducible refine balloc ?_ _ | with_reducible refine bset ?_ (by simp <;> omega) | with_reducible refine bstep ?_ (by assumption) | with_reducible refine btrans ?_ (by assumption)))) (Nat.le_refl _)))
      rw [e] at HP
      clear hpl hpl2 e
      go_enter Try.func25, Try.ntmps25
      go_wp2_with fail
      refine (HF _ (by (repeat (first | with_reducible exact Below.refl _ _ | with_reducible assumption | with_reducible refine bdraw ?_ | with_reducible refine bdrewN ?_ _ | with_reducible refine balloc ?_ _ | with_reducible refine bset ?_ (by simp <;> omega) | with_reducible refine bstep ?_ (by assumption) | with_reducible refine btrans ?_ (by assumption))))).out.mono ?_
      rintro e w1 ⟨rfl, b1⟩
      have q2 := blkb q0 (w' := w1) (by (repeat (first | with_reducible exact Below.refl _ _ | with_reducible assumption | with_reducible refine bdraw ?_ | with_reducible refine bdrewN ?_ _ | with_reducible refine balloc ?_ _ | with_reducible refine bset ?_ (by simp <;> omega) | with_reducible refine bstep ?_ (by assumption) | with_reducible refine btrans ?_ (by assumption))))
      have z2 := blkb q1 (w' := w1) (by (repeat (first | with_reducible exact Below.refl _ _ | with_reducible assumption | with_reducible refine bdraw ?_ | with_reducible refine bdrewN ?_ _ | with_reducible refine balloc ?_ _ | with_reducible refine bset ?_ (by simp <;> omega) | with_reducible refine bstep ?_ (by assumption) | with_reducible refine btrans ?_ (by assumption))))
      have xa0 : w1.cell? ⟨w.heap.size, 0, none⟩ = some (.int .i64 room) := cell_of_row _ _ 0 _ _ _ q2; have fa0 : w1.frozen? ⟨w.heap.size, 0, none⟩ = false := frozen_of_row _ _ 0 _ _ q2; have xa1 : w1.cell? ⟨w.heap.size, 1, none⟩ = some (.slice A l.length cap) := cell_of_row _ _ 1 _ _ _ q2; have fa1 : w1.frozen? ⟨w.heap.size, 1, none⟩ = false := frozen_of_row _ _ 1 _ _ q2
      go_wp2_with fail
      refine (HP _ (by (repeat (first | with_reducible exact Below.refl _ _ | with_reducible assumption | with_reducible refine bdraw ?_ | with_reducible refine bdrewN ?_ _ | with_reducible refine balloc ?_ _ | with_reducible refine bset ?_ (by simp <;> omega) | with_reducible refine bstep ?_ (by assumption) | with_reducible refine btrans ?_ (by assumption))))).out.mono ?_
      rintro e w2 ⟨rfl, b2⟩
      have z3 := blkb z2 (w' := w2) (by (repeat (first | with_reducible exact Below.refl _ _ | with_reducible assumption | with_reducible refine bdraw ?_ | with_reducible refine bdrewN ?_ _ | with_reducible refine balloc ?_ _ | with_reducible refine bset ?_ (by simp <;> omega) | with_reducible refine bstep ?_ (by assumption) | with_reducible refine btrans ?_ (by assumption))))
      have xc0 : w2.cell? ⟨w.heap.size + 1, 0, none⟩ = some (.int .i64 0) := cell_of_row _ _ 0 _ _ _ z3; have fc0 : w2.frozen? ⟨w.heap.size + 1, 0, none⟩ = false := frozen_of_row _ _ 0 _ _ z3; have xc1 : w2.cell? ⟨w.heap.size + 1, 1, none⟩ = some (.slice none 0 0) := cell_of_row _ _ 1 _ _ _ z3; have fc1 : w2.frozen? ⟨w.heap.size + 1, 1, none⟩ = false := frozen_of_row _ _ 1 _ _ z3
      go_wp2
      refine bodyPost_ret (results_cell_tmp1 rfl _ _ (w.heap.size + 1) 24 #[.int .i64 0, .slice none 0 0] (0, 0) _ rfl (set2 z3) Try.underlying24 rfl (by kernel_rfl)) rfl ?_
      exact ⟨_, by rw [HR.out.1, HR.out.2.2]; rfl, by rw [HR.out.2.1]; exact Sl.nil, by (repeat (first | with_reducible exact Below.refl _ _ | with_reducible assumption | with_reducible refine bdraw ?_ | with_reducible refine bdrewN ?_ _ | with_reducible refine balloc ?_ _ | with_reducible refine bset ?_ (by simp <;> omega) | with_reducible refine bstep ?_ (by assumption) | with_reducible refine btrans ?_ (by assumption)))⟩
    · obtain ⟨i, hi⟩ : ∃ i : Nat, placeP l n = (i : Int) := ⟨(placeP l n).toNat, by omega⟩
      have hil : i < l.length := by omega
      have HPL := Lib.hid hi
      have HP := fun (w' : World) (bb : Below w.heap.size w w') => Lib.hid (rplace_c (room := room) (o := n) (w := w') (hp.below (by (repeat (first | with_reducible exact Below.refl _ _ | with_reducible assumption | with_reducible refine bdraw ?_ | with_reducible refine bdrewN ?_ _ | with_reducible refine balloc ?_ _ | with_reducible refine bset ?_ (by simp <;> omega) | with_reducible refine bstep ?_ (by assumption) | with_reducible refine btrans ?_ (by assumption)))) (Nat.le_refl _)))
      rw [hi] at HP
      clear hpl hpl2 hi
      have hiI : (i : Int) < (l.length : Int) := by omega
      have hi0 : (0 : Int) ≤ (i : Int) := by omega
      have hi1 : ¬ (i : Int) < 0 := by omega
      have hfi : l[i]? = some l[i] := List.getElem?_eq_getElem hil
      go_enter Try.func25, Try.ntmps25
      go_wp2_with fail
      refine (HF _ (by (repeat (first | with_reducible exact Below.refl _ _ | with_reducible assumption | with_reducible refine bdraw ?_ | with_reducible refine bdrewN ?_ _ | with_reducible refine balloc ?_ _ | with_reducible refine bset ?_ (by simp <;> omega) | with_reducible refine bstep ?_ (by assumption) | with_reducible refine btrans ?_ (by assumption))))).out.mono ?_
      rintro e w1 ⟨rfl, b1⟩
      have q2 := blkb q0 (w' := w1) (by (repeat (first | with_reducible exact Below.refl _ _ | with_reducible assumption | with_reducible refine bdraw ?_ | with_reducible refine bdrewN ?_ _ | with_reducible refine balloc ?_ _ | with_reducible refine bset ?_ (by simp <;> omega) | with_reducible refine bstep ?_ (by assumption) | with_reducible refine btrans ?_ (by assumption))))
      have z2 := blkb q1 (w' := w1) (by (repeat (first | with_reducible exact Below.refl _ _ | with_reducible assumption | with_reducible refine bdraw ?_ | with_reducible refine bdrewN ?_ _ | with_reducible refine balloc ?_ _ | with_reducible refine bset ?_ (by simp <;> omega) | with_reducible refine bstep ?_ (by assumption) | with_reducible refine btrans ?_ (by assumption))))
      have xa0 : w1.cell? ⟨w.heap.size, 0, none⟩ = some (.int .i64 room) := cell_of_row _ _ 0 _ _ _ q2; have fa0 : w1.frozen? ⟨w.heap.size, 0, none⟩ = false := frozen_of_row _ _ 0 _ _ q2; have xa1 : w1.cell? ⟨w.heap.size, 1, none⟩ = some (.slice A l.length cap) := cell_of_row _ _ 1 _ _ _ q2; have fa1 : w1.frozen? ⟨w.heap.size, 1, none⟩ = false := frozen_of_row _ _ 1 _ _ q2
      go_wp2_with fail
      refine (HP _ (by (repeat (first | with_reducible exact Below.refl _ _ | with_reducible assumption | with_reducible refine bdraw ?_ | with_reducible refine bdrewN ?_ _ | with_reducible refine balloc ?_ _ | with_reducible refine bset ?_ (by simp <;> omega) | with_reducible refine bstep ?_ (by assumption) | with_reducible refine btrans ?_ (by assumption))))).out.mono ?_
      rintro e w2 ⟨rfl, b2⟩
      have q3 := blkb q2 (w' := w2) (by (repeat (first | with_reducible exact Below.refl _ _ | with_reducible assumption | with_reducible refine bdraw ?_ | with_reducible refine bdrewN ?_ _ | with_reducible refine balloc ?_ _ | with_reducible refine bset ?_ (by simp <;> omega) | with_reducible refine bstep ?_ (by assumption) | with_reducible refine btrans ?_ (by assumption))))
      have z3 := blkb z2 (w' := w2) (by (repeat (first | with_reducible exact Below.refl _ _ | with_reducible assumption | with_reducible refine bdraw ?_ | with_reducible refine bdrewN ?_ _ | with_reducible refine balloc ?_ _ | with_reducible refine bset ?_ (by simp <;> omega) | with_reducible refine bstep ?_ (by assumption) | with_reducible refine btrans ?_ (by assumption))))
      have xb0 : w2.cell? ⟨w.heap.size, 0, none⟩ = some (.int .i64 room) := cell_of_row _ _ 0 _ _ _ q3; have fb0 : w2.frozen? ⟨w.heap.size, 0, none⟩ = false := frozen_of_row _ _ 0 _ _ q3; have xb1 : w2.cell? ⟨w.heap.size, 1, none⟩ = some (.slice A l.length cap) := cell_of_row _ _ 1 _ _ _ q3; have fb1 : w2.frozen? ⟨w.heap.size, 1, none⟩ = false := frozen_of_row _ _ 1 _ _ q3
      have bw2 : Below w.heap.size w w2 := by (repeat (first | with_reducible exact Below.refl _ _ | with_reducible assumption | with_reducible refine bdraw ?_ | with_reducible refine bdrewN ?_ _ | with_reducible refine balloc ?_ _ | with_reducible refine bset ?_ (by simp <;> omega) | with_reducible refine bstep ?_ (by assumption) | with_reducible refine btrans ?_ (by assumption)))
      have hz1 := b1.size
      have hz2 := b2.size
      have hzw : w.heap.size + 2 ≤ w2.heap.size := by simp at hz1; omega
      clear xa0 xa1 fa0 fa1 b1 b2 q0 q1 q2 z2 bW HF HP hz1 hz2
      obtain ⟨bb, off, Av, cv, rfl, c0, c1, c2, hv⟩ := (hp.below (by (repeat (first | with_reducible exact Below.refl _ _ | with_reducible assumption | with_reducible refine bdraw ?_ | with_reducible refine bdrewN ?_ _ | with_reducible refine balloc ?_ _ | with_reducible refine bset ?_ (by simp <;> omega) | with_reducible refine bstep ?_ (by assumption) | with_reducible refine btrans ?_ (by assumption)))) (Nat.le_refl _)).fi hil
      have y0 := atb c0 (w' := w2) (by (repeat (first | with_reducible exact Below.refl _ _ | with_reducible assumption | with_reducible refine bdraw ?_ | with_reducible refine bdrewN ?_ _ | with_reducible refine balloc ?_ _ | with_reducible refine bset ?_ (by simp <;> omega) | with_reducible refine bstep ?_ (by assumption) | with_reducible refine btrans ?_ (by assumption)))); have y1 := atb c1 (w' := w2) (by (repeat (first | with_reducible exact Below.refl _ _ | with_reducible assumption | with_reducible refine bdraw ?_ | with_reducible refine bdrewN ?_ _ | with_reducible refine balloc ?_ _ | with_reducible refine bset ?_ (by simp <;> omega) | with_reducible refine bstep ?_ (by assumption) | with_reducible refine btrans ?_ (by assumption)))); have y2 := atb c2 (w' := w2) (by (repeat (first | with_reducible exact Below.refl _ _ | with_reducible assumption | with_reducible refine bdraw ?_ | with_reducible refine bdrewN ?_ _ | with_reducible refine balloc ?_ _ | with_reducible refine bset ?_ (by simp <;> omega) | with_reducible refine bstep ?_ (by assumption) | with_reducible refine btrans ?_ (by assumption))))
      clear c0 c1 c2
      by_cases hm : m < 0 ∨ (l[i].b.length : Int) < m
      · have HR := Lib.hid (ct_arg HE.out HPL.out hil hm)
        have xc0 : w2.cell? ⟨w.heap.size + 1, 0, none⟩ = some (.int .i64 0) := cell_of_row _ _ 0 _ _ _ z3; have fc0 : w2.frozen? ⟨w.heap.size + 1, 0, none⟩ = false := frozen_of_row _ _ 0 _ _ z3; have xc1 : w2.cell? ⟨w.heap.size + 1, 1, none⟩ = some (.slice none 0 0) := cell_of_row _ _ 1 _ _ _ z3; have fc1 : w2.frozen? ⟨w.heap.size + 1, 1, none⟩ = false := frozen_of_row _ _ 1 _ _ z3
        rcases (show m < 0 ∨ 0 ≤ m ∧ (l[i].b.length : Int) < m by omega) with h | ⟨h1, h2⟩
        · have d1 : decide (m < 0) = true := decide_eq_true h
          generalize l[i] = x at *
          clear hm
          go_wp2
          refine bodyPost_ret (results_cell_tmp1 rfl _ _ (w.heap.size + 1) 24 #[.int .i64 0, .slice none 0 0] (0, 0) _ rfl (set2 z3) Try.underlying24 rfl (by kernel_rfl)) rfl ?_
          exact ⟨_, by rw [HR.out.1, HR.out.2.2]; rfl, by rw [HR.out.2.1]; exact Sl.nil, by (repeat (first | with_reducible exact Below.refl _ _ | with_reducible assumption | with_reducible refine bdraw ?_ | with_reducible refine bdrewN ?_ _ | with_reducible refine balloc ?_ _ | with_reducible refine bset ?_ (by simp <;> omega) | with_reducible refine bstep ?_ (by assumption) | with_reducible refine btrans ?_ (by assumption)))⟩
        · have d1 : decide (m < 0) = false := decide_eq_false (by omega)
          have d2 : decide ((l[i].b.length : Int) < m) = true := decide_eq_true h2
          generalize l[i] = x at *
          clear hm
          go_wp2
          refine bodyPost_ret (results_cell_tmp1 rfl _ _ (w.heap.size + 1) 24 #[.int .i64 0, .slice none 0 0] (0, 0) _ rfl (set2 z3) Try.underlying24 rfl (by kernel_rfl)) rfl ?_
          exact ⟨_, by rw [HR.out.1, HR.out.2.2]; rfl, by rw [HR.out.2.1]; exact Sl.nil, by (repeat (first | with_reducible exact Below.refl _ _ | with_reducible assumption | with_reducible refine bdraw ?_ | with_reducible refine bdrewN ?_ _ | with_reducible refine balloc ?_ _ | with_reducible refine bset ?_ (by simp <;> omega) | with_reducible refine bstep ?_ (by assumption) | with_reducible refine btrans ?_ (by assumption)))⟩
      · obtain ⟨mm, rfl⟩ : ∃ mm : Nat, m = (mm : Int) := ⟨m.toNat, by omega⟩
        have hml : mm ≤ l[i].b.length := by omega
        have HR := Lib.hid (ct_ok HE.out HPL.out hil hml)
        have d1 : decide ((mm : Int) < 0) = false := decide_eq_false (by omega)
        have d2 : decide ((l[i].b.length : Int) < (mm : Int)) = false := decide_eq_false (by omega)
        have d3 : decide (l[i].b.length < mm) = false := decide_eq_false (by omega)
        clear hm
        go_wp2_with fail
        refine (rcopy_c (room := room) (hp.below (by (repeat (first | with_reducible exact Below.refl _ _ | with_reducible assumption | with_reducible refine bdraw ?_ | with_reducible refine bdrewN ?_ _ | with_reducible refine balloc ?_ _ | with_reducible refine bset ?_ (by simp <;> omega) | with_reducible refine bstep ?_ (by assumption) | with_reducible refine btrans ?_ (by assumption)))) (Nat.le_refl _)) (by omega) (fun f hf => by have := HLow.out f hf; omega)).mono ?_
        rintro e w3 ⟨v3, us, rfl, hF, b3⟩
        obtain ⟨A3, c3, hv3, hc5, hc6, _⟩ := (hF.sl (BO.ok _)).shape
        subst hv3
        unfold maxLen at hc6
        have hz3 := b3.size
        have z4 := blkb z3 (w' := w3.alloc (.cells #[.int .i64 room, .slice A3 l.length c3] 24)) (by (repeat (first | with_reducible exact Below.refl _ _ | with_reducible assumption | with_reducible refine bdraw ?_ | with_reducible refine bdrewN ?_ _ | with_reducible refine balloc ?_ _ | with_reducible refine bset ?_ (by simp <;> omega) | with_reducible refine bstep ?_ (by assumption) | with_reducible refine btrans ?_ (by assumption))))
        have r4 := heap_alloc_new w3 (.cells #[.int .i64 room, .slice A3 l.length c3] 24)
        have hF4 := hF.below (w' := w3.alloc (.cells #[.int .i64 room, .slice A3 l.length c3] 24)) (BO.ok _) (by (repeat (first | with_reducible exact Below.refl _ _ | with_reducible assumption | with_reducible refine bdraw ?_ | with_reducible refine bdrewN ?_ _ | with_reducible refine balloc ?_ _ | with_reducible refine bset ?_ (by simp <;> omega) | with_reducible refine bstep ?_ (by assumption) | with_reducible refine btrans ?_ (by assumption)))) hz3
        have bw4 : Below w.heap.size w (w3.alloc (.cells #[.int .i64 room, .slice A3 l.length c3] 24)) := by (repeat (first | with_reducible exact Below.refl _ _ | with_reducible assumption | with_reducible refine bdraw ?_ | with_reducible refine bdrewN ?_ _ | with_reducible refine balloc ?_ _ | with_reducible refine bset ?_ (by simp <;> omega) | with_reducible refine bstep ?_ (by assumption) | with_reducible refine btrans ?_ (by assumption)))
        obtain ⟨g, rfl, hg1, hg2⟩ := hF.row.form3 (by omega)
        have HUU := Lib.hid (fun (j : Nat) (u : Value) (g' : Nat) (hu : us[j]? = some u) (hg' : u.ownBlock = some g') => (hF.lt (BO.ok _) hu (by have := (List.getElem?_eq_some_iff.1 hu).1; rw [hF.len] at this; exact this) hg').2)
        clear hF q3 z3 xb0 xb1 fb0 fb1
        have hzT : w3.heap.size < (w3.alloc (.cells #[.int .i64 room, .slice (some ⟨g, 0, none⟩) l.length c3] 24)).heap.size := by simp
        have xd0 : (w3.alloc (.cells #[.int .i64 room, .slice (some ⟨g, 0, none⟩) l.length c3] 24)).cell? ⟨w3.heap.size, 0, none⟩ = some (.int .i64 room) := cell_of_row _ _ 0 _ _ _ r4; have fd0 : (w3.alloc (.cells #[.int .i64 room, .slice (some ⟨g, 0, none⟩) l.length c3] 24)).frozen? ⟨w3.heap.size, 0, none⟩ = false := frozen_of_row _ _ 0 _ _ r4; have xd1 : (w3.alloc (.cells #[.int .i64 room, .slice (some ⟨g, 0, none⟩) l.length c3] 24)).cell? ⟨w3.heap.size, 1, none⟩ = some (.slice (some ⟨g, 0, none⟩) l.length c3) := cell_of_row _ _ 1 _ _ _ r4; have fd1 : (w3.alloc (.cells #[.int .i64 room, .slice (some ⟨g, 0, none⟩) l.length c3] 24)).frozen? ⟨w3.heap.size, 1, none⟩ = false := frozen_of_row _ _ 1 _ _ r4
        have hFW := hF4.w
        generalize l[i] = x at *
        go_wp2_with fail
        generalize w3.alloc (.cells #[.int .i64 room, .slice (some ⟨g, 0, none⟩) l.length c3] 24) = W4 at *
        obtain ⟨u, hu⟩ := hFW.get hfi
        obtain ⟨hbs, Au, cu, rfl, hAu⟩ := id (hFW.own i u _ hu hfi hil)
        obtain ⟨_, _, e, hcu1, hcu2, hcu3⟩ := hbs.shape
        injection e with e1 e0 e2
        subst e1 e2
        clear e0
        unfold maxLen at hcu2
        obtain ⟨_, a1, a2⟩ := hFW.row.tri3 (tris_get hfi hu)
        have hfz1 := hFW.row.free3 (i * 3 + 1)
        have hcut := fun w' => run_cut_h0 (hFW.own i _ _ hu hfi hil) (m := mm) hml w' (H := (mm : Int)) rfl
        have ac1 := a1.cell
        have hm1 : (mm : Int) ≤ (cu : Int) := by omega
        clear a1 a2 hbs hAu hcu3 hF4 b3
        go_region
        have hF1 := (hFW.cutW (m := mm) (c' := cu) hfi hu hil hml (by omega) (Nat.le_refl _)).draw (BW.ok _)
        have r5 := (heap_setCell_other W4 ⟨g, i * 3 + 1, none⟩ w3.heap.size (.slice Au mm cu) (by simp; omega)).trans r4
        have z5 := (heap_setCell_other W4 ⟨g, i * 3 + 1, none⟩ (w.heap.size + 1) (.slice Au mm cu) (by simp; omega)).trans z4
        have HQ : Hid ((W4.setCell ⟨g, i * 3 + 1, none⟩ (.slice Au mm cu)).drew.heap[w3.heap.size]? = _ ∧ (W4.setCell ⟨g, i * 3 + 1, none⟩ (.slice Au mm cu)).drew.heap[w.heap.size + 1]? = _) := Lib.hid ⟨r5, z5⟩
        have bw5 := bdraw (bw4.setCell (p := ⟨g, i * 3 + 1, none⟩) (by simp; omega) (.slice Au mm cu))
        have hu1 : (us.set i (.slice Au mm cu))[i]? = some (.slice Au mm cu) := by rw [List.getElem?_set_self (List.getElem?_eq_some_iff.1 hu).1]
        have hf1 : (l.set i ⟨x.n, x.b.take mm, x.s⟩)[i]? = some ⟨x.n, x.b.take mm, x.s⟩ := by rw [List.getElem?_set_self (List.getElem?_eq_some_iff.1 hfi).1]
        clear hFW ac1 hfz1 r5 z5 r4 z4 bw4 xd0 xd1 fd0 fd1 hcut
        generalize (W4.setCell ⟨g, i * 3 + 1, none⟩ (.slice Au mm cu)).drew = W5 at *
        obtain ⟨r6, z6⟩ := HQ.out
        have xd0 : W5.cell? ⟨w3.heap.size, 0, none⟩ = some (.int .i64 room) := cell_of_row _ _ 0 _ _ _ r6; have fd0 : W5.frozen? ⟨w3.heap.size, 0, none⟩ = false := frozen_of_row _ _ 0 _ _ r6; have xd1 : W5.cell? ⟨w3.heap.size, 1, none⟩ = some (.slice (some ⟨g, 0, none⟩) l.length c3) := cell_of_row _ _ 1 _ _ _ r6; have fd1 : W5.frozen? ⟨w3.heap.size, 1, none⟩ = false := frozen_of_row _ _ 1 _ _ r6
        obtain ⟨_, _, a2⟩ := hF1.row.tri3 (tris_get hf1 hu1)
        have hfz2 := hF1.row.free3 (i * 3 + 2)
        have ac2 := a2.cell
        obtain ⟨s, hs⟩ : ∃ s : Int, (if (mm : Int) < x.s then (mm : Int) else x.s) = s := ⟨_, rfl⟩
        have hF2 := (hF1.markW (s := s) hf1 hil).draw (BW.ok _)
        rw [List.set_set] at hF2
        have HF2 := Lib.hid hF2
        clear hF1 hF2 a2
        go_wp2_with fail
        go_region
        have r7 := (heap_setCell_other W5 ⟨g, i * 3 + 2, none⟩ w3.heap.size (.int .i64 s) (by simp; omega)).trans r6
        have z7 := (heap_setCell_other W5 ⟨g, i * 3 + 2, none⟩ (w.heap.size + 1) (.int .i64 s) (by simp; omega)).trans z6
        have HQ2 : Hid ((W5.setCell ⟨g, i * 3 + 2, none⟩ (.int .i64 s)).drew.heap[w3.heap.size]? = _ ∧ (W5.setCell ⟨g, i * 3 + 2, none⟩ (.int .i64 s)).drew.heap[w.heap.size + 1]? = _) := Lib.hid ⟨r7, z7⟩
        have bw7 := bdraw (bw5.setCell (p := ⟨g, i * 3 + 2, none⟩) (by simp; omega) (.int .i64 s))
        clear r7 z7 r6 z6 xd0 xd1 fd0 fd1 ac2 hfz2 bw5
        generalize (W5.setCell ⟨g, i * 3 + 2, none⟩ (.int .i64 s)).drew = W7 at *
        obtain ⟨r8, z8⟩ := HQ2.out
        have xd0 : W7.cell? ⟨w3.heap.size, 0, none⟩ = some (.int .i64 room) := cell_of_row _ _ 0 _ _ _ r8; have fd0 : W7.frozen? ⟨w3.heap.size, 0, none⟩ = false := frozen_of_row _ _ 0 _ _ r8; have xd1 : W7.cell? ⟨w3.heap.size, 1, none⟩ = some (.slice (some ⟨g, 0, none⟩) l.length c3) := cell_of_row _ _ 1 _ _ _ r8; have fd1 : W7.frozen? ⟨w3.heap.size, 1, none⟩ = false := frozen_of_row _ _ 1 _ _ r8
        have xc0 : W7.cell? ⟨w.heap.size + 1, 0, none⟩ = some (.int .i64 0) := cell_of_row _ _ 0 _ _ _ z8; have fc0 : W7.frozen? ⟨w.heap.size + 1, 0, none⟩ = false := frozen_of_row _ _ 0 _ _ z8; have xc1 : W7.cell? ⟨w.heap.size + 1, 1, none⟩ = some (.slice none 0 0) := cell_of_row _ _ 1 _ _ _ z8; have fc1 : W7.frozen? ⟨w.heap.size + 1, 1, none⟩ = false := frozen_of_row _ _ 1 _ _ z8
        go_wp2
        refine bodyPost_ret (results_cell_tmp1 rfl _ _ (w.heap.size + 1) 24 #[.int .i64 room, .slice (some ⟨g, 0, none⟩) l.length c3] (0, 0) _ rfl (set2 z8) Try.underlying24 rfl (by kernel_rfl)) rfl ?_
        refine ⟨_, by rw [HR.out.1, HR.out.2.2]; rfl, ?_, by (repeat (first | with_reducible exact Below.refl _ _ | with_reducible assumption | with_reducible refine bdraw ?_ | with_reducible refine bdrewN ?_ _ | with_reducible refine balloc ?_ _ | with_reducible refine bset ?_ (by simp <;> omega) | with_reducible refine bstep ?_ (by assumption) | with_reducible refine btrans ?_ (by assumption)))⟩
        rw [HR.out.2.1, hs]
        have hF6 : FP (BW w2.heap.size) w2.heap.size W7 (.slice (some ⟨g, 0, none⟩) l.length c3) (l.set i ⟨x.n, x.b.take mm, s⟩) (us.set i (.slice Au mm cu)) (l.set i ⟨x.n, x.b.take mm, s⟩).length := by rw [List.length_set]; exact HF2.out
        exact (((hF6.far (BW.ok _) (by simp; omega)).far (BW.ok _) (by simp; omega)).sl (BW.ok _)).mono (fun b fr h _ => ⟨by have := h.1; omega, h.2⟩)

set_option maxRecDepth 100000 in
set_option maxHeartbeats 8000000 in
theorem rremove_c {S : Foot} {v : Value} {room n  : Int} {l : List Fi} {w : World} (hp : Sl fiE S w v l) :
    Calls Try.prog 27 #[.agg #[.int .i64 room, v], .int .i64 n ] w (AnsS (idR room l n) (rmF room l n) (gtE room l n) w) := by
  have hp := hp.any
  obtain ⟨A, cap, rfl, hc1, hc2, _⟩ := hp.shape
  unfold maxLen at hc2
  have q0 : ((w.alloc (.cells #[.int .i64 room, .slice A l.length cap] 24)).alloc (.cells #[.int .i64 0, .slice none 0 0] 24)).heap[w.heap.size]? = some (.cells #[.int .i64 room, .slice A l.length cap] 24 (0, 0)) := heap_alloc2_old _ _ _
  have q1 : ((w.alloc (.cells #[.int .i64 room, .slice A l.length cap] 24)).alloc (.cells #[.int .i64 0, .slice none 0 0] 24)).heap[w.heap.size + 1]? = some (.cells #[.int .i64 0, .slice none 0 0] 24 (0, 0)) := by
    have := heap_alloc_new (w.alloc (.cells #[.int .i64 room, .slice A l.length cap] 24)) (.cells #[.int .i64 0, .slice none 0 0] 24)
    rwa [World.size_alloc] at this
  have bW : Below w.heap.size w ((w.alloc (.cells #[.int .i64 room, .slice A l.length cap] 24)).alloc (.cells #[.int .i64 0, .slice none 0 0] 24)) := by (repeat (first | with_reducible exact Below.refl _ _ | with_reducible assumption | with_reducible refine bdraw ?_ | with_reducible refine bdrewN ?_ _ | with_reducible refine balloc ?_ _ | with_reducible refine bset ?_ (by simp <;> omega) | with_reducible refine bstep ?_ (by assumption) | with_reducible refine btrans ?_ (by assumption)))
  have HF := fun (w' : World) (bb : Below w.heap.size w w') => Lib.hid (rformed_c (room := room) (w := w') (hp.below (by (repeat (first | with_reducible exact Below.refl _ _ | with_reducible assumption | with_reducible refine bdraw ?_ | with_reducible refine bdrewN ?_ _ | with_reducible refine balloc ?_ _ | with_reducible refine bset ?_ (by simp <;> omega) | with_reducible refine bstep ?_ (by assumption) | with_reducible refine btrans ?_ (by assumption)))) (Nat.le_refl _)))
  cases hE : formedD room l
  · have HR := Lib.hid (rid_bad (n := n) hE)
    rw [hE] at HF
    clear hE
    go_enter Try.func27, Try.ntmps27
    go_wp2_with (go_at_call 14; refine (HF _ (by (repeat (first | with_reducible exact Below.refl _ _ | with_reducible assumption | with_reducible refine bdraw ?_ | with_reducible refine bdrewN ?_ _ | with_reducible refine balloc ?_ _ | with_reducible refine bset ?_ (by simp <;> omega) | with_reducible refine bstep ?_ (by assumption) | with_reducible refine btrans ?_ (by assumption))))).out.mono ?_; rintro e w1 ⟨rfl, b1⟩; have q2 := blkb q1 (w' := w1) (by (repeat (first | with_reducible exact Below.refl _ _ | with_reducible assumption | with_reducible refine bdraw ?_ | with_reducible refine bdrewN ?_ _ | with_reducible refine balloc ?_ _ | with_reducible refine bset ?_ (by simp <;> omega) | with_reducible refine bstep ?_ (by assumption) | with_reducible refine btrans ?_ (by assumption)))); have xa0 : w1.cell? ⟨w.heap.size + 1, 0, none⟩ = some (.int .i64 0) := cell_of_row _ _ 0 _ _ _ q2; have fa0 : w1.frozen? ⟨w.heap.size + 1, 0, none⟩ = false := frozen_of_row _ _ 0 _ _ q2; have xa1 : w1.cell? ⟨w.heap.size + 1, 1, none⟩ = some (.slice none 0 0) := cell_of_row _ _ 1 _ _ _ q2; have fa1 : w1.frozen? ⟨w.heap.size + 1, 1, none⟩ = false := frozen_of_row _ _ 1 _ _ q2)
    refine bodyPost_ret (results_cell_tmp1 rfl _ _ (w.heap.size + 1) 24 #[.int .i64 0, .slice none 0 0] (0, 0) _ rfl (set2 q2) Try.underlying24 rfl (by kernel_rfl)) rfl ?_
    exact ⟨_, by rw [HR.out.1, HR.out.2.2]; rfl, by rw [HR.out.2.1]; exact Sl.nil, by (repeat (first | with_reducible exact Below.refl _ _ | with_reducible assumption | with_reducible refine bdraw ?_ | with_reducible refine bdrewN ?_ _ | with_reducible refine balloc ?_ _ | with_reducible refine bset ?_ (by simp <;> omega) | with_reducible refine bstep ?_ (by assumption) | with_reducible refine btrans ?_ (by assumption)))⟩
  · have HE := Lib.hid hE
    have hlen := formedD_len hE
    have HLow := Lib.hid (fun f hf' => fineF_low (fs := l) (by simp only [formedD, Bool.and_eq_true] at hE; exact hE.2) f hf')
    have hsz := formedD_size hE
    rw [hE] at HF
    clear hE
    obtain ⟨hs1, hs2, hs3⟩ := hsz
    have hpl2 := placeP_lt l n
    by_cases hpl : placeP l n < 0
    · have e : placeP l n = -1 := by omega
      have HR := Lib.hid (rid_none HE.out e)
      have HP := fun (w' : World) (bb : Below w.heap.size w w') => Lib.hid (rplace_c (room := room) (o := n) (w := w') (hp.below (by (repeat (first | with_reducible exact Below.refl _ _ | with_reducible assumption | with_reducible refine bdraw ?_ | with_reducible refine bdrewN ?_ _ | with_reducible refine balloc ?_ _ | with_reducible refine bset ?_ (by simp <;> omega) | with_reducible refine bstep ?_ (by assumption) | with_reducible refine btrans ?_ (by assumption)))) (Nat.le_refl _)))
      rw [e] at HP
      clear hpl hpl2 e
      go_enter Try.func27, Try.ntmps27
      go_wp2_with fail
      refine (HF _ (by (repeat (first | with_reducible exact Below.refl _ _ | with_reducible assumption | with_reducible refine bdraw ?_ | with_reducible refine bdrewN ?_ _ | with_reducible refine balloc ?_ _ | with_reducible refine bset ?_ (by simp <;> omega) | with_reducible refine bstep ?_ (by assumption) | with_reducible refine btrans ?_ (by assumption))))).out.mono ?_
      rintro e w1 ⟨rfl, b1⟩
      have q2 := blkb q0 (w' := w1) (by (repeat (first | with_reducible exact Below.refl _ _ | with_reducible assumption | with_reducible refine bdraw ?_ | with_reducible refine bdrewN ?_ _ | with_reducible refine balloc ?_ _ | with_reducible refine bset ?_ (by simp <;> omega) | with_reducible refine bstep ?_ (by assumption) | with_reducible refine btrans ?_ (by assumption))))
      have z2 := blkb q1 (w' := w1) (by (repeat (first | with_reducible exact Below.refl _ _ | with_reducible assumption | with_reducible refine bdraw ?_ | with_reducible refine bdrewN ?_ _ | with_reducible refine balloc ?_ _ | with_reducible refine bset ?_ (by simp <;> omega) | with_reducible refine bstep ?_ (by assumption) | with_reducible refine btrans ?_ (by assumption))))
      have xa0 : w1.cell? ⟨w.heap.size, 0, none⟩ = some (.int .i64 room) := cell_of_row _ _ 0 _ _ _ q2; have fa0 : w1.frozen? ⟨w.heap.size, 0, none⟩ = false := frozen_of_row _ _ 0 _ _ q2; have xa1 : w1.cell? ⟨w.heap.size, 1, none⟩ = some (.slice A l.length cap) := cell_of_row _ _ 1 _ _ _ q2; have fa1 : w1.frozen? ⟨w.heap.size, 1, none⟩ = false := frozen_of_row _ _ 1 _ _ q2
      go_wp2_with fail
      refine (HP _ (by (repeat (first | with_reducible exact Below.refl _ _ | with_reducible assumption | with_reducible refine bdraw ?_ | with_reducible refine bdrewN ?_ _ | with_reducible refine balloc ?_ _ | with_reducible refine bset ?_ (by simp <;> omega) | with_reducible refine bstep ?_ (by assumption) | with_reducible refine btrans ?_ (by assumption))))).out.mono ?_
      rintro e w2 ⟨rfl, b2⟩
      have z3 := blkb z2 (w' := w2) (by (repeat (first | with_reducible exact Below.refl _ _ | with_reducible assumption | with_reducible refine bdraw ?_ | with_reducible refine bdrewN ?_ _ | with_reducible refine balloc ?_ _ | with_reducible refine bset ?_ (by simp <;> omega) | with_reducible refine bstep ?_ (by assumption) | with_reducible refine btrans ?_ (by assumption))))
      have xc0 : w2.cell? ⟨w.heap.size + 1, 0, none⟩ = some (.int .i64 0) := cell_of_row _ _ 0 _ _ _ z3; have fc0 : w2.frozen? ⟨w.heap.size + 1, 0, none⟩ = false := frozen_of_row _ _ 0 _ _ z3; have xc1 : w2.cell? ⟨w.heap.size + 1, 1, none⟩ = some (.slice none 0 0) := cell_of_row _ _ 1 _ _ _ z3; have fc1 : w2.frozen? ⟨w.heap.size + 1, 1, none⟩ = false := frozen_of_row _ _ 1 _ _ z3
      go_wp2
      refine bodyPost_ret (results_cell_tmp1 rfl _ _ (w.heap.size + 1) 24 #[.int .i64 0, .slice none 0 0] (0, 0) _ rfl (set2 z3) Try.underlying24 rfl (by kernel_rfl)) rfl ?_
      exact ⟨_, by rw [HR.out.1, HR.out.2.2]; rfl, by rw [HR.out.2.1]; exact Sl.nil, by (repeat (first | with_reducible exact Below.refl _ _ | with_reducible assumption | with_reducible refine bdraw ?_ | with_reducible refine bdrewN ?_ _ | with_reducible refine balloc ?_ _ | with_reducible refine bset ?_ (by simp <;> omega) | with_reducible refine bstep ?_ (by assumption) | with_reducible refine btrans ?_ (by assumption)))⟩
    · obtain ⟨i, hi⟩ : ∃ i : Nat, placeP l n = (i : Int) := ⟨(placeP l n).toNat, by omega⟩
      have hil : i < l.length := by omega
      have HPL := Lib.hid hi
      have HP := fun (w' : World) (bb : Below w.heap.size w w') => Lib.hid (rplace_c (room := room) (o := n) (w := w') (hp.below (by (repeat (first | with_reducible exact Below.refl _ _ | with_reducible assumption | with_reducible refine bdraw ?_ | with_reducible refine bdrewN ?_ _ | with_reducible refine balloc ?_ _ | with_reducible refine bset ?_ (by simp <;> omega) | with_reducible refine bstep ?_ (by assumption) | with_reducible refine btrans ?_ (by assumption)))) (Nat.le_refl _)))
      rw [hi] at HP
      clear hpl hpl2 hi
      have hiI : (i : Int) < (l.length : Int) := by omega
      have hi0 : (0 : Int) ≤ (i : Int) := by omega
      have hi1 : ¬ (i : Int) < 0 := by omega
      have hfi : l[i]? = some l[i] := List.getElem?_eq_getElem hil
      go_enter Try.func27, Try.ntmps27
      go_wp2_with fail
      refine (HF _ (by (repeat (first | with_reducible exact Below.refl _ _ | with_reducible assumption | with_reducible refine bdraw ?_ | with_reducible refine bdrewN ?_ _ | with_reducible refine balloc ?_ _ | with_reducible refine bset ?_ (by simp <;> omega) | with_reducible refine bstep ?_ (by assumption) | with_reducible refine btrans ?_ (by assumption))))).out.mono ?_
      rintro e w1 ⟨rfl, b1⟩
      have q2 := blkb q0 (w' := w1) (by (repeat (first | with_reducible exact Below.refl _ _ | with_reducible assumption | with_reducible refine bdraw ?_ | with_reducible refine bdrewN ?_ _ | with_reducible refine balloc ?_ _ | with_reducible refine bset ?_ (by simp <;> omega) | with_reducible refine bstep ?_ (by assumption) | with_reducible refine btrans ?_ (by assumption))))
      have z2 := blkb q1 (w' := w1) (by (repeat (first | with_reducible exact Below.refl _ _ | with_reducible assumption | with_reducible refine bdraw ?_ | with_reducible refine bdrewN ?_ _ | with_reducible refine balloc ?_ _ | with_reducible refine bset ?_ (by simp <;> omega) | with_reducible refine bstep ?_ (by assumption) | with_reducible refine btrans ?_ (by assumption))))
      have xa0 : w1.cell? ⟨w.heap.size, 0, none⟩ = some (.int .i64 room) := cell_of_row _ _ 0 _ _ _ q2; have fa0 : w1.frozen? ⟨w.heap.size, 0, none⟩ = false := frozen_of_row _ _ 0 _ _ q2; have xa1 : w1.cell? ⟨w.heap.size, 1, none⟩ = some (.slice A l.length cap) := cell_of_row _ _ 1 _ _ _ q2; have fa1 : w1.frozen? ⟨w.heap.size, 1, none⟩ = false := frozen_of_row _ _ 1 _ _ q2
      go_wp2_with fail
      refine (HP _ (by (repeat (first | with_reducible exact Below.refl _ _ | with_reducible assumption | with_reducible refine bdraw ?_ | with_reducible refine bdrewN ?_ _ | with_reducible refine balloc ?_ _ | with_reducible refine bset ?_ (by simp <;> omega) | with_reducible refine bstep ?_ (by assumption) | with_reducible refine btrans ?_ (by assumption))))).out.mono ?_
      rintro e w2 ⟨rfl, b2⟩
      have q3 := blkb q2 (w' := w2) (by (repeat (first | with_reducible exact Below.refl _ _ | with_reducible assumption | with_reducible refine bdraw ?_ | with_reducible refine bdrewN ?_ _ | with_reducible refine balloc ?_ _ | with_reducible refine bset ?_ (by simp <;> omega) | with_reducible refine bstep ?_ (by assumption) | with_reducible refine btrans ?_ (by assumption))))
      have z3 := blkb z2 (w' := w2) (by (repeat (first | with_reducible exact Below.refl _ _ | with_reducible assumption | with_reducible refine bdraw ?_ | with_reducible refine bdrewN ?_ _ | with_reducible refine balloc ?_ _ | with_reducible refine bset ?_ (by simp <;> omega) | with_reducible refine bstep ?_ (by assumption) | with_reducible refine btrans ?_ (by assumption))))
      have xb0 : w2.cell? ⟨w.heap.size, 0, none⟩ = some (.int .i64 room) := cell_of_row _ _ 0 _ _ _ q3; have fb0 : w2.frozen? ⟨w.heap.size, 0, none⟩ = false := frozen_of_row _ _ 0 _ _ q3; have xb1 : w2.cell? ⟨w.heap.size, 1, none⟩ = some (.slice A l.length cap) := cell_of_row _ _ 1 _ _ _ q3; have fb1 : w2.frozen? ⟨w.heap.size, 1, none⟩ = false := frozen_of_row _ _ 1 _ _ q3
      have bw2 : Below w.heap.size w w2 := by (repeat (first | with_reducible exact Below.refl _ _ | with_reducible assumption | with_reducible refine bdraw ?_ | with_reducible refine bdrewN ?_ _ | with_reducible refine balloc ?_ _ | with_reducible refine bset ?_ (by simp <;> omega) | with_reducible refine bstep ?_ (by assumption) | with_reducible refine btrans ?_ (by assumption)))
      have hz1 := b1.size
      have hz2 := b2.size
      have hzw : w.heap.size + 2 ≤ w2.heap.size := by simp at hz1; omega
      clear xa0 xa1 fa0 fa1 b1 b2 q0 q1 q2 z2 bW HF HP hz1 hz2
      have HR := Lib.hid (id_ok HE.out HPL.out hil)
      have HR2 := Lib.hid (rm_ok HR.out.1 HPL.out)
      go_wp2_with fail
      refine (rcopy_c (room := room) (hp.below (by (repeat (first | with_reducible exact Below.refl _ _ | with_reducible assumption | with_reducible refine bdraw ?_ | with_reducible refine bdrewN ?_ _ | with_reducible refine balloc ?_ _ | with_reducible refine bset ?_ (by simp <;> omega) | with_reducible refine bstep ?_ (by assumption) | with_reducible refine btrans ?_ (by assumption)))) (Nat.le_refl _)) (by omega) (fun f hf => by have := HLow.out f hf; omega)).mono ?_
      rintro e w3 ⟨v3, us, rfl, hF, b3⟩
      obtain ⟨A3, c3, hv3, hc5, hc6, _⟩ := (hF.sl (BO.ok _)).shape
      subst hv3
      unfold maxLen at hc6
      have hz3 := b3.size
      have z4 := blkb z3 (w' := w3.alloc (.cells #[.int .i64 room, .slice A3 l.length c3] 24)) (by (repeat (first | with_reducible exact Below.refl _ _ | with_reducible assumption | with_reducible refine bdraw ?_ | with_reducible refine bdrewN ?_ _ | with_reducible refine balloc ?_ _ | with_reducible refine bset ?_ (by simp <;> omega) | with_reducible refine bstep ?_ (by assumption) | with_reducible refine btrans ?_ (by assumption))))
      have r4 := heap_alloc_new w3 (.cells #[.int .i64 room, .slice A3 l.length c3] 24)
      have hF4 := hF.below (w' := w3.alloc (.cells #[.int .i64 room, .slice A3 l.length c3] 24)) (BO.ok _) (by (repeat (first | with_reducible exact Below.refl _ _ | with_reducible assumption | with_reducible refine bdraw ?_ | with_reducible refine bdrewN ?_ _ | with_reducible refine balloc ?_ _ | with_reducible refine bset ?_ (by simp <;> omega) | with_reducible refine bstep ?_ (by assumption) | with_reducible refine btrans ?_ (by assumption)))) hz3
      have bw4 : Below w.heap.size w (w3.alloc (.cells #[.int .i64 room, .slice A3 l.length c3] 24)) := by (repeat (first | with_reducible exact Below.refl _ _ | with_reducible assumption | with_reducible refine bdraw ?_ | with_reducible refine bdrewN ?_ _ | with_reducible refine balloc ?_ _ | with_reducible refine bset ?_ (by simp <;> omega) | with_reducible refine bstep ?_ (by assumption) | with_reducible refine btrans ?_ (by assumption)))
      obtain ⟨g, rfl, hg1, hg2⟩ := hF.row.form3 (by omega)
      have HUU := Lib.hid (fun (j : Nat) (u : Value) (g' : Nat) (hu : us[j]? = some u) (hg' : u.ownBlock = some g') => (hF.lt (BO.ok _) hu (by have := (List.getElem?_eq_some_iff.1 hu).1; rw [hF.len] at this; exact this) hg').2)
      clear hF q3 z3 xb0 xb1 fb0 fb1
      have hzT : w3.heap.size < (w3.alloc (.cells #[.int .i64 room, .slice (some ⟨g, 0, none⟩) l.length c3] 24)).heap.size := by simp
      have xd0 : (w3.alloc (.cells #[.int .i64 room, .slice (some ⟨g, 0, none⟩) l.length c3] 24)).cell? ⟨w3.heap.size, 0, none⟩ = some (.int .i64 room) := cell_of_row _ _ 0 _ _ _ r4; have fd0 : (w3.alloc (.cells #[.int .i64 room, .slice (some ⟨g, 0, none⟩) l.length c3] 24)).frozen? ⟨w3.heap.size, 0, none⟩ = false := frozen_of_row _ _ 0 _ _ r4; have xd1 : (w3.alloc (.cells #[.int .i64 room, .slice (some ⟨g, 0, none⟩) l.length c3] 24)).cell? ⟨w3.heap.size, 1, none⟩ = some (.slice (some ⟨g, 0, none⟩) l.length c3) := cell_of_row _ _ 1 _ _ _ r4; have fd1 : (w3.alloc (.cells #[.int .i64 room, .slice (some ⟨g, 0, none⟩) l.length c3] 24)).frozen? ⟨w3.heap.size, 1, none⟩ = false := frozen_of_row _ _ 1 _ _ r4
      have htl := tris_len l us hF4.len
      have hwr : IntKind.i64.wrap ((i : Int) + 1) = (i : Int) + 1 := IntWalk.i64_in _ (by omega)
      obtain ⟨i0, hin, hz0, hz5, hz6⟩ := info_parts fi_info
      have ht := Try.underlying22
      have hrow : Own trE (HiN w2.heap.size (some g)) (w3.alloc (.cells #[.int .i64 room, .slice (some ⟨g, 0, none⟩) l.length c3] 24)) w2.heap.size 39 (.slice (some ⟨g, 0, none⟩) (tris l us).length c3) (tris l us) := by rw [htl]; exact hF4.row.tri
      have k1 := run_cut_h (P := Try.prog) (E := trE) (g := g) (n := l.length) (k := i) (cap := c3) ht hin hz5 (by omega)
      obtain ⟨A5, hA5, k2⟩ := run_cut_l (P := Try.prog) (E := trE) (g := g) (n := l.length) (k := i + 1) (cap := c3) ht hin hz5 (by omega)
      obtain ⟨w5, hrun, o5, g5⟩ := run_del (P := Try.prog) (w := (w3.alloc (.cells #[.int .i64 room, .slice (some ⟨g, 0, none⟩) l.length c3] 24)).drew) ht hin hz5 (odraw hrow) (by rw [htl]; exact hil) hA5 22 (c3 - (i + 1))
      rw [htl] at hrun o5
      have G5 : (w3.alloc (.cells #[.int .i64 room, .slice (some ⟨g, 0, none⟩) l.length c3] 24)).grownBy w5 (some g) := grown_undrew g5
      have hF5 := hF4.erase o5.tri G5
      have r5 := blkg r4 G5 (fun g' hg' => by have := some_blk (g := g) hg'; omega)
      have z5 := blkg z4 G5 (fun g' hg' => by have := some_blk (g := g) hg'; omega)
      have bw5 : Below w.heap.size w w5 := bw4.trans (bgrown G5 (by simp; omega) (fun g' hg' => by have := some_blk (g := g) hg'; omega))
      clear hF4 hrow o5 g5 G5
      have t0 : At Any (w3.alloc (.cells #[.int .i64 room, .slice (some ⟨g, 0, none⟩) l.length c3] 24)) w3.heap.size 1 (.slice (some ⟨g, 0, none⟩) l.length c3) := at_new rfl
      have xe0 : w5.cell? ⟨w3.heap.size, 0, none⟩ = some (.int .i64 room) := cell_of_row _ _ 0 _ _ _ r5; have fe0 : w5.frozen? ⟨w3.heap.size, 0, none⟩ = false := frozen_of_row _ _ 0 _ _ r5; have xe1 : w5.cell? ⟨w3.heap.size, 1, none⟩ = some (.slice (some ⟨g, 0, none⟩) l.length c3) := cell_of_row _ _ 1 _ _ _ r5; have fe1 : w5.frozen? ⟨w3.heap.size, 1, none⟩ = false := frozen_of_row _ _ 1 _ _ r5
      go_wp2_with fail
      have hE2 : (l.eraseIdx i).length = l.length - 1 := by rw [List.length_eraseIdx, if_pos hil]
      have r7 := heap_setCell_same w5 w3.heap.size 1 _ _ (.slice (some ⟨g, 0, none⟩) (l.length - 1) c3) r5
      have z7 := (heap_setCell_other w5 ⟨w3.heap.size, 1, none⟩ (w.heap.size + 1) (.slice (some ⟨g, 0, none⟩) (l.length - 1) c3) (by simp; omega)).trans z5
      have hF7 := hF5.keepAll (w' := w5.setCell ⟨w3.heap.size, 1, none⟩ (.slice (some ⟨g, 0, none⟩) (l.length - 1) c3)) (BO.ok _) (fun g' hg' => heap_setCell_other w5 ⟨w3.heap.size, 1, none⟩ g' _ (by have := some_blk (g := g) hg'; simp; omega)) (fun j u g' hu _ hg' => heap_setCell_other w5 ⟨w3.heap.size, 1, none⟩ g' _ (by have := HUU.out _ u g' (erase_get hu) hg'; simp; omega))
      have bw7 := bw5.setCell (p := ⟨w3.heap.size, 1, none⟩) (by simp; omega) (.slice (some ⟨g, 0, none⟩) (l.length - 1) c3)
      refine region_push 11 (S := (fun w' => w'.cell? ⟨w3.heap.size, 1, none⟩ = some (.slice (some ⟨g, 0, none⟩) l.length c3))) (by kernel_rfl) (by kernel_rfl) ?_ (fun hHeld => ?_); (· ((try dsimp only); (first | assumption | exact atb t0 (by (repeat (first | with_reducible exact Below.refl _ _ | with_reducible assumption | with_reducible refine bdraw ?_ | with_reducible refine bdrewN ?_ _ | with_reducible refine balloc ?_ _ | with_reducible refine bset ?_ (by simp <;> omega) | with_reducible refine bstep ?_ (by assumption) | with_reducible refine btrans ?_ (by assumption))))))); simp only [List.take_succ_cons, List.take_zero]
      refine wpAnyH_take (i := 0) (v := ?_) rfl (by kernel_rfl) (by kernel_rfl) (by kernel_rfl) (fun _ _ _ h => h) (Or.inl ⟨by rfl, ?_⟩) (by assumption) ?_; rotate_left; (· (intro w' hSw'; (try dsimp only at hSw'); go_simp; (try with_reducible rfl))); simp only [Act.put, List.setIfInBounds_toArray, List.set_cons_zero, List.set_cons_succ, List.getElem_toArray, List.getElem_cons_zero, List.getElem_cons_succ, Array.getInternal_eq_getElem]; refine wpAnyH_take (i := 1) (v := ?_) rfl (by kernel_rfl) (by kernel_rfl) (by kernel_rfl) (fun _ _ _ h => h) (Or.inl ⟨by rfl, ?_⟩) (by assumption) ?_; rotate_left; (· (intro w' hSw'; (try dsimp only at hSw'); go_simp; (try with_reducible rfl))); simp only [Act.put, List.setIfInBounds_toArray, List.set_cons_zero, List.set_cons_succ, List.getElem_toArray, List.getElem_cons_zero, List.getElem_cons_succ, Array.getInternal_eq_getElem]; refine wpAnyH_take (i := 2) (v := ?_) rfl (by kernel_rfl) (by kernel_rfl) (by kernel_rfl) (fun _ _ _ h => h) (Or.inl ⟨by rfl, ?_⟩) (by assumption) ?_; rotate_left; (· (intro w' hSw'; (try dsimp only at hSw'); go_simp; (try with_reducible rfl))); simp only [Act.put, List.setIfInBounds_toArray, List.set_cons_zero, List.set_cons_succ, List.getElem_toArray, List.getElem_cons_zero, List.getElem_cons_succ, Array.getInternal_eq_getElem]; refine wpAnyH_take (i := 3) (v := ?_) rfl (by kernel_rfl) (by kernel_rfl) (by kernel_rfl) (fun _ _ _ h => h) (Or.inl ⟨by rfl, ?_⟩) (by assumption) ?_; rotate_left; (· (intro w' hSw'; (try dsimp only at hSw'); go_simp; (try with_reducible rfl))); simp only [Act.put, List.setIfInBounds_toArray, List.set_cons_zero, List.set_cons_succ, List.getElem_toArray, List.getElem_cons_zero, List.getElem_cons_succ, Array.getInternal_eq_getElem]; refine wpAnyH_take (i := 4) (v := ?_) rfl (by kernel_rfl) (by kernel_rfl) (by kernel_rfl) (fun _ _ _ h => h) (Or.inl ⟨by rfl, ?_⟩) (by assumption) ?_; rotate_left; (· (intro w' hSw'; (try dsimp only at hSw'); go_simp; (try with_reducible rfl))); simp only [Act.put, List.setIfInBounds_toArray, List.set_cons_zero, List.set_cons_succ, List.getElem_toArray, List.getElem_cons_zero, List.getElem_cons_succ, Array.getInternal_eq_getElem]; refine wpAnyH_take (i := 5) (v := ?_) rfl (by kernel_rfl) (by kernel_rfl) (by kernel_rfl) (fun _ _ _ h => h) (Or.inl ⟨by rfl, ?_⟩) (by assumption) ?_; rotate_left; (· (intro w' hSw'; (try dsimp only at hSw'); go_simp; (try with_reducible rfl))); simp only [Act.put, List.setIfInBounds_toArray, List.set_cons_zero, List.set_cons_succ, List.getElem_toArray, List.getElem_cons_zero, List.getElem_cons_succ, Array.getInternal_eq_getElem]; refine wpAnyH_take (i := 6) (v := ?_) rfl (by kernel_rfl) (by kernel_rfl) (by kernel_rfl) (fun _ _ _ h => h) (Or.inl ⟨by rfl, ?_⟩) (by assumption) ?_; rotate_left; (· (intro w' hSw'; (try dsimp only at hSw'); go_simp; (try with_reducible rfl))); simp only [Act.put, List.setIfInBounds_toArray, List.set_cons_zero, List.set_cons_succ, List.getElem_toArray, List.getElem_cons_zero, List.getElem_cons_succ, Array.getInternal_eq_getElem]; refine wpAnyH_take (i := 7) (v := ?_) rfl (by kernel_rfl) (by kernel_rfl) (by kernel_rfl) (fun _ _ _ h => h) (Or.inl ⟨by rfl, ?_⟩) (by assumption) ?_; rotate_left; (· (intro w' hSw'; (try dsimp only at hSw'); go_simp; (try with_reducible rfl))); simp only [Act.put, List.setIfInBounds_toArray, List.set_cons_zero, List.set_cons_succ, List.getElem_toArray, List.getElem_cons_zero, List.getElem_cons_succ, Array.getInternal_eq_getElem]; refine wpAnyH_take (i := 8) (v := ?_) rfl (by kernel_rfl) (by kernel_rfl) (by kernel_rfl) (fun _ _ _ h => h) (Or.inl ⟨by rfl, ?_⟩) (by assumption) ?_; rotate_left; (· (intro w' hSw'; (try dsimp only at hSw'); go_simp; (try with_reducible rfl))); simp only [Act.put, List.setIfInBounds_toArray, List.set_cons_zero, List.set_cons_succ, List.getElem_toArray, List.getElem_cons_zero, List.getElem_cons_succ, Array.getInternal_eq_getElem]
      refine wpAnyH_ready (rs := [9]) (by kernel_rfl) (by simp) (AllReadyH.cons rfl (fun K hK => ?_) AllReadyH.nil); ((refine step_append_run (by rfl) (.tmp 23) (.tmp 28) 22 (by rfl) (by rfl) (by rfl) hrun ?_)); refine hK.out _ _ ?_ (fun hHeld => ?_); (· ((try dsimp only); (first | assumption | exact xe1))); clear hK K; (try simp only [Act.put, List.setIfInBounds_toArray, List.set_cons_zero, List.set_cons_succ, List.getElem_toArray, List.getElem_cons_zero, List.getElem_cons_succ, Array.getInternal_eq_getElem])
      refine wpAnyH_take (i := 10) (v := ?_) rfl (by kernel_rfl) (by kernel_rfl) (by kernel_rfl) (fun _ _ _ h => h) (Or.inl ⟨by rfl, ?_⟩) (by assumption) ?_; rotate_left; (· (intro w' hSw'; (try dsimp only at hSw'); go_simp; (try with_reducible rfl))); simp only [Act.put, List.setIfInBounds_toArray, List.set_cons_zero, List.set_cons_succ, List.getElem_toArray, List.getElem_cons_zero, List.getElem_cons_succ, Array.getInternal_eq_getElem]
      refine wpAnyH_done (by kernel_rfl) ?_ _; refine lastQ_step rfl (fun K hK => ?_); (go_simp); refine hK.out _ _ ?_; clear hK K; (try simp only [Act.put, List.setIfInBounds_toArray, List.set_cons_zero, List.set_cons_succ, List.getElem_toArray, List.getElem_cons_zero, List.getElem_cons_succ, Array.getInternal_eq_getElem])
      clear hrun
      generalize w5.setCell ⟨w3.heap.size, 1, none⟩ (.slice (some ⟨g, 0, none⟩) (l.length - 1) c3) = W7 at *
      have xq0 : W7.cell? ⟨w3.heap.size, 0, none⟩ = some (.int .i64 room) := cell_of_row _ _ 0 _ _ _ r7; have fq0 : W7.frozen? ⟨w3.heap.size, 0, none⟩ = false := frozen_of_row _ _ 0 _ _ r7; have xq1 : W7.cell? ⟨w3.heap.size, 1, none⟩ = some (.slice (some ⟨g, 0, none⟩) (l.length - 1) c3) := cell_of_row _ _ 1 _ _ _ r7; have fq1 : W7.frozen? ⟨w3.heap.size, 1, none⟩ = false := frozen_of_row _ _ 1 _ _ r7
      have xc0 : W7.cell? ⟨w.heap.size + 1, 0, none⟩ = some (.int .i64 0) := cell_of_row _ _ 0 _ _ _ z7; have fc0 : W7.frozen? ⟨w.heap.size + 1, 0, none⟩ = false := frozen_of_row _ _ 0 _ _ z7; have xc1 : W7.cell? ⟨w.heap.size + 1, 1, none⟩ = some (.slice none 0 0) := cell_of_row _ _ 1 _ _ _ z7; have fc1 : W7.frozen? ⟨w.heap.size + 1, 1, none⟩ = false := frozen_of_row _ _ 1 _ _ z7
      go_wp2
      refine bodyPost_ret (results_cell_tmp1 rfl _ _ (w.heap.size + 1) 24 #[.int .i64 room, .slice (some ⟨g, 0, none⟩) (l.length - 1) c3] (0, 0) _ rfl (set2 z7) Try.underlying24 rfl (by kernel_rfl)) rfl ?_
      refine ⟨_, by rw [HR.out.1, HR.out.2.2]; rfl, ?_, by (repeat (first | with_reducible exact Below.refl _ _ | with_reducible assumption | with_reducible refine bdraw ?_ | with_reducible refine bdrewN ?_ _ | with_reducible refine balloc ?_ _ | with_reducible refine bset ?_ (by simp <;> omega) | with_reducible refine bstep ?_ (by assumption) | with_reducible refine btrans ?_ (by assumption)))⟩
      rw [HR2.out]
      exact (((hF7.far (p := ⟨w.heap.size + 1, 0, none⟩) (z := .int .i64 room) (BO.ok _) (by simp; omega)).far (p := ⟨w.heap.size + 1, 1, none⟩) (z := .slice (some ⟨g, 0, none⟩) (l.length - 1) c3) (BO.ok _) (by simp; omega)).sl (BO.ok _)).mono (fun b fr h _ => ⟨by have := h.1; omega, h.2⟩)
end Go.Proofs.Ytnblnlbchcepjaa
