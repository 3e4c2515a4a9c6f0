/- The journal: Start. -/
import Derived.Test.YtbahiohlhhdkcaaDoorJnb
set_option linter.unusedSimpArgs false
namespace Go.Proofs.YtbahiohlhhdkcaaDoor
open Go.RowKit

def jok (room : Int) (l : List Fi) (p : List UInt8) : Prop := formedD room l = true ∧ p.length ≤ 1048576
instance (room : Int) (l : List Fi) (p : List UInt8) : Decidable (jok room l p) := by unfold jok; infer_instance
def jsE (room : Int) (l : List Fi) (p : List UInt8) : Int := if jok room l p then stE room l (sealed p) else 1
def jsF (room : Int) (l : List Fi) (p : List UInt8) : List Fi := if jok room l p then stF room l (sealed p) else []
def jsR (room : Int) (l : List Fi) (p : List UInt8) : Int := if jok room l p then stR room l (sealed p) else 0
set_option maxHeartbeats 4000000 in
theorem jstart_c {S S' : Foot} {v u : Value} {room : Int} {l : List Fi} {p : List UInt8} {w : World} (hp : Sl fiE S w v l) (hq : Sl u8E S' w u p) (ht : Tab w) :
    Calls Tryd.prog 20 #[.agg #[.int .i64 room, v], u] w (AnsS (jsR room l p) (jsF room l p) (jsE room l p) w) := by
  have hp := hp.any
  have hq := hq.any
  obtain ⟨A, cap, rfl, hc1, hc2, _⟩ := hp.shape
  obtain ⟨Ab, cb, rfl, _⟩ := hq.shape
  unfold maxLen at hc2
  have q0 : ((w.alloc (.cells #[.int .i64 room, .slice A l.length cap] 24)).alloc (.cells #[.int .i64 0, .slice none 0 0] 24)).heap[w.heap.size]? = some (.cells #[.int .i64 room, .slice A l.length cap] 24 (0, 0)) := heap_alloc2_old _ _ _
  have q1 : ((w.alloc (.cells #[.int .i64 room, .slice A l.length cap] 24)).alloc (.cells #[.int .i64 0, .slice none 0 0] 24)).heap[w.heap.size + 1]? = some (.cells #[.int .i64 0, .slice none 0 0] 24 (0, 0)) := by
    have := heap_alloc_new (w.alloc (.cells #[.int .i64 room, .slice A l.length cap] 24)) (.cells #[.int .i64 0, .slice none 0 0] 24)
    rwa [World.size_alloc] at this
  have HSe := fun (w' : World) (bb : Below w.heap.size w w') => Lib.hid (seal_c (w := w') (hq.below (by (repeat (first | with_reducible exact Below.refl _ _ | with_reducible assumption | with_reducible refine bdraw ?_ | with_reducible refine bdrewN ?_ _ | with_reducible refine balloc ?_ _ | with_reducible refine bset ?_ (by simp <;> omega) | with_reducible refine bstep ?_ (by assumption) | with_reducible refine btrans ?_ (by assumption)))) (Nat.le_refl _)) (ht.below bb (Nat.le_refl _)))
  have HF := fun (w' : World) (bb : Below w.heap.size w w') => Lib.hid (formed_c (room := room) (w := w') (hp.below (by (repeat (first | with_reducible exact Below.refl _ _ | with_reducible assumption | with_reducible refine bdraw ?_ | with_reducible refine bdrewN ?_ _ | with_reducible refine balloc ?_ _ | with_reducible refine bset ?_ (by simp <;> omega) | with_reducible refine bstep ?_ (by assumption) | with_reducible refine btrans ?_ (by assumption)))) (Nat.le_refl _)))
  by_cases hlen : p.length ≤ 1048576
  rotate_left
  · have HR : Hid (jsE room l p = 1 ∧ jsF room l p = [] ∧ jsR room l p = 0) := Lib.hid (by simp [jsE, jsF, jsR, jok, hlen])
    have e1 : sealE p = 1 := by unfold sealE; rw [if_pos (by omega)]
    rw [e1] at HSe
    generalize sealB p = sp at *
    clear e1 hlen ht
    go_enter Tryd.func20, Tryd.ntmps20
    go_wp2_with fail
    refine (HSe _ (by (repeat (first | with_reducible exact Below.refl _ _ | with_reducible assumption | with_reducible refine bdraw ?_ | with_reducible refine bdrewN ?_ _ | with_reducible refine balloc ?_ _ | with_reducible refine bset ?_ (by simp <;> omega) | with_reducible refine bstep ?_ (by assumption) | with_reducible refine btrans ?_ (by assumption))))).out.mono ?_
    rintro e w1 ⟨v1, rfl, o1, b1⟩
    have z2 := blkb q1 (w' := w1) (by (repeat (first | with_reducible exact Below.refl _ _ | with_reducible assumption | with_reducible refine bdraw ?_ | with_reducible refine bdrewN ?_ _ | with_reducible refine balloc ?_ _ | with_reducible refine bset ?_ (by simp <;> omega) | with_reducible refine bstep ?_ (by assumption) | with_reducible refine btrans ?_ (by assumption))))
    have xc0 : w1.cell? ⟨w.heap.size + 1, 0, none⟩ = some (.int .i64 0) := cell_of_row _ _ 0 _ _ _ z2; have fc0 : w1.frozen? ⟨w.heap.size + 1, 0, none⟩ = false := frozen_of_row _ _ 0 _ _ z2; have xc1 : w1.cell? ⟨w.heap.size + 1, 1, none⟩ = some (.slice none 0 0) := cell_of_row _ _ 1 _ _ _ z2; have fc1 : w1.frozen? ⟨w.heap.size + 1, 1, none⟩ = false := frozen_of_row _ _ 1 _ _ z2
    go_wp2
    refine bodyPost_ret (results_cell_tmp1 rfl _ _ (w.heap.size + 1) 24 #[.int .i64 0, .slice none 0 0] (0, 0) _ rfl (set2 z2) Tryd.underlying24 rfl (by kernel_rfl)) rfl ?_
    exact ⟨_, by rw [HR.out.1, HR.out.2.2]; rfl, by rw [HR.out.2.1]; exact Sl.nil, by (repeat (first | with_reducible exact Below.refl _ _ | with_reducible assumption | with_reducible refine bdraw ?_ | with_reducible refine bdrewN ?_ _ | with_reducible refine balloc ?_ _ | with_reducible refine bset ?_ (by simp <;> omega) | with_reducible refine bstep ?_ (by assumption) | with_reducible refine btrans ?_ (by assumption)))⟩
  · have e1 : sealE p = 0 := by unfold sealE; rw [if_neg (by omega)]
    have e2 : sealB p = sealed p := by unfold sealB; rw [if_neg (by omega)]
    rw [e1, e2] at HSe
    cases hE : formedD room l
    · have HR : Hid (jsE room l p = 1 ∧ jsF room l p = [] ∧ jsR room l p = 0) := Lib.hid (by simp [jsE, jsF, jsR, jok, hE])
      rw [hE] at HF
      generalize sealed p = sp at *
      clear e1 e2 hlen ht hE
      go_enter Tryd.func20, Tryd.ntmps20
      go_wp2_with fail
      refine (HSe _ (by (repeat (first | with_reducible exact Below.refl _ _ | with_reducible assumption | with_reducible refine bdraw ?_ | with_reducible refine bdrewN ?_ _ | with_reducible refine balloc ?_ _ | with_reducible refine bset ?_ (by simp <;> omega) | with_reducible refine bstep ?_ (by assumption) | with_reducible refine btrans ?_ (by assumption))))).out.mono ?_
      rintro e w1 ⟨v1, rfl, o1, b1⟩
      have q2 := blkb q0 (w' := w1) (by (repeat (first | with_reducible exact Below.refl _ _ | with_reducible assumption | with_reducible refine bdraw ?_ | with_reducible refine bdrewN ?_ _ | with_reducible refine balloc ?_ _ | with_reducible refine bset ?_ (by simp <;> omega) | with_reducible refine bstep ?_ (by assumption) | with_reducible refine btrans ?_ (by assumption))))
      have z2 := blkb q1 (w' := w1) (by (repeat (first | with_reducible exact Below.refl _ _ | with_reducible assumption | with_reducible refine bdraw ?_ | with_reducible refine bdrewN ?_ _ | with_reducible refine balloc ?_ _ | with_reducible refine bset ?_ (by simp <;> omega) | with_reducible refine bstep ?_ (by assumption) | with_reducible refine btrans ?_ (by assumption))))
      have xa0 : w1.cell? ⟨w.heap.size, 0, none⟩ = some (.int .i64 room) := cell_of_row _ _ 0 _ _ _ q2; have fa0 : w1.frozen? ⟨w.heap.size, 0, none⟩ = false := frozen_of_row _ _ 0 _ _ q2; have xa1 : w1.cell? ⟨w.heap.size, 1, none⟩ = some (.slice A l.length cap) := cell_of_row _ _ 1 _ _ _ q2; have fa1 : w1.frozen? ⟨w.heap.size, 1, none⟩ = false := frozen_of_row _ _ 1 _ _ q2
      go_wp2_with fail
      refine (HF _ (by (repeat (first | with_reducible exact Below.refl _ _ | with_reducible assumption | with_reducible refine bdraw ?_ | with_reducible refine bdrewN ?_ _ | with_reducible refine balloc ?_ _ | with_reducible refine bset ?_ (by simp <;> omega) | with_reducible refine bstep ?_ (by assumption) | with_reducible refine btrans ?_ (by assumption))))).out.mono ?_
      rintro e w2 ⟨rfl, b2⟩
      have z3 := blkb z2 (w' := w2) (by (repeat (first | with_reducible exact Below.refl _ _ | with_reducible assumption | with_reducible refine bdraw ?_ | with_reducible refine bdrewN ?_ _ | with_reducible refine balloc ?_ _ | with_reducible refine bset ?_ (by simp <;> omega) | with_reducible refine bstep ?_ (by assumption) | with_reducible refine btrans ?_ (by assumption))))
      have xc0 : w2.cell? ⟨w.heap.size + 1, 0, none⟩ = some (.int .i64 0) := cell_of_row _ _ 0 _ _ _ z3; have fc0 : w2.frozen? ⟨w.heap.size + 1, 0, none⟩ = false := frozen_of_row _ _ 0 _ _ z3; have xc1 : w2.cell? ⟨w.heap.size + 1, 1, none⟩ = some (.slice none 0 0) := cell_of_row _ _ 1 _ _ _ z3; have fc1 : w2.frozen? ⟨w.heap.size + 1, 1, none⟩ = false := frozen_of_row _ _ 1 _ _ z3
      go_wp2
      refine bodyPost_ret (results_cell_tmp1 rfl _ _ (w.heap.size + 1) 24 #[.int .i64 0, .slice none 0 0] (0, 0) _ rfl (set2 z3) Tryd.underlying24 rfl (by kernel_rfl)) rfl ?_
      exact ⟨_, by rw [HR.out.1, HR.out.2.2]; rfl, by rw [HR.out.2.1]; exact Sl.nil, by (repeat (first | with_reducible exact Below.refl _ _ | with_reducible assumption | with_reducible refine bdraw ?_ | with_reducible refine bdrewN ?_ _ | with_reducible refine balloc ?_ _ | with_reducible refine bset ?_ (by simp <;> omega) | with_reducible refine bstep ?_ (by assumption) | with_reducible refine btrans ?_ (by assumption)))⟩
    · have HR : Hid (jsE room l p = stE room l (sealed p) ∧ jsF room l p = stF room l (sealed p) ∧ jsR room l p = stR room l (sealed p)) := Lib.hid (by simp [jsE, jsF, jsR, jok, hE, hlen])
      have HE := Lib.hid hE
      rw [hE] at HF
      generalize sealed p = sp at *
      clear e1 e2 hlen ht hE
      go_enter Tryd.func20, Tryd.ntmps20
      go_wp2_with fail
      refine (HSe _ (by (repeat (first | with_reducible exact Below.refl _ _ | with_reducible assumption | with_reducible refine bdraw ?_ | with_reducible refine bdrewN ?_ _ | with_reducible refine balloc ?_ _ | with_reducible refine bset ?_ (by simp <;> omega) | with_reducible refine bstep ?_ (by assumption) | with_reducible refine btrans ?_ (by assumption))))).out.mono ?_
      rintro e w1 ⟨v1, rfl, o1, b1⟩
      obtain ⟨A1, c1, rfl, _⟩ := o1.slAny.shape
      have s1 := o1.slAny
      have q2 := blkb q0 (w' := w1) (by (repeat (first | with_reducible exact Below.refl _ _ | with_reducible assumption | with_reducible refine bdraw ?_ | with_reducible refine bdrewN ?_ _ | with_reducible refine balloc ?_ _ | with_reducible refine bset ?_ (by simp <;> omega) | with_reducible refine bstep ?_ (by assumption) | with_reducible refine btrans ?_ (by assumption))))
      have z2 := blkb q1 (w' := w1) (by (repeat (first | with_reducible exact Below.refl _ _ | with_reducible assumption | with_reducible refine bdraw ?_ | with_reducible refine bdrewN ?_ _ | with_reducible refine balloc ?_ _ | with_reducible refine bset ?_ (by simp <;> omega) | with_reducible refine bstep ?_ (by assumption) | with_reducible refine btrans ?_ (by assumption))))
      have xa0 : w1.cell? ⟨w.heap.size, 0, none⟩ = some (.int .i64 room) := cell_of_row _ _ 0 _ _ _ q2; have fa0 : w1.frozen? ⟨w.heap.size, 0, none⟩ = false := frozen_of_row _ _ 0 _ _ q2; have xa1 : w1.cell? ⟨w.heap.size, 1, none⟩ = some (.slice A l.length cap) := cell_of_row _ _ 1 _ _ _ q2; have fa1 : w1.frozen? ⟨w.heap.size, 1, none⟩ = false := frozen_of_row _ _ 1 _ _ q2
      go_wp2_with fail
      refine (HF _ (by (repeat (first | with_reducible exact Below.refl _ _ | with_reducible assumption | with_reducible refine bdraw ?_ | with_reducible refine bdrewN ?_ _ | with_reducible refine balloc ?_ _ | with_reducible refine bset ?_ (by simp <;> omega) | with_reducible refine bstep ?_ (by assumption) | with_reducible refine btrans ?_ (by assumption))))).out.mono ?_
      rintro e w2 ⟨rfl, b2⟩
      have q3 := blkb q2 (w' := w2) (by (repeat (first | with_reducible exact Below.refl _ _ | with_reducible assumption | with_reducible refine bdraw ?_ | with_reducible refine bdrewN ?_ _ | with_reducible refine balloc ?_ _ | with_reducible refine bset ?_ (by simp <;> omega) | with_reducible refine bstep ?_ (by assumption) | with_reducible refine btrans ?_ (by assumption))))
      have z3 := blkb z2 (w' := w2) (by (repeat (first | with_reducible exact Below.refl _ _ | with_reducible assumption | with_reducible refine bdraw ?_ | with_reducible refine bdrewN ?_ _ | with_reducible refine balloc ?_ _ | with_reducible refine bset ?_ (by simp <;> omega) | with_reducible refine bstep ?_ (by assumption) | with_reducible refine btrans ?_ (by assumption))))
      have xb0 : w2.cell? ⟨w.heap.size, 0, none⟩ = some (.int .i64 room) := cell_of_row _ _ 0 _ _ _ q3; have fb0 : w2.frozen? ⟨w.heap.size, 0, none⟩ = false := frozen_of_row _ _ 0 _ _ q3; have xb1 : w2.cell? ⟨w.heap.size, 1, none⟩ = some (.slice A l.length cap) := cell_of_row _ _ 1 _ _ _ q3; have fb1 : w2.frozen? ⟨w.heap.size, 1, none⟩ = false := frozen_of_row _ _ 1 _ _ q3
      have bw2 : Below w.heap.size w w2 := by (repeat (first | with_reducible exact Below.refl _ _ | with_reducible assumption | with_reducible refine bdraw ?_ | with_reducible refine bdrewN ?_ _ | with_reducible refine balloc ?_ _ | with_reducible refine bset ?_ (by simp <;> omega) | with_reducible refine bstep ?_ (by assumption) | with_reducible refine btrans ?_ (by assumption)))
      have hz : w.heap.size + 2 ≤ w2.heap.size := by have := b1.size; have := b2.size; simp at *; omega
      go_wp2_with fail
      refine ((start_c (room := room) (hp.below (by (repeat (first | with_reducible exact Below.refl _ _ | with_reducible assumption | with_reducible refine bdraw ?_ | with_reducible refine bdrewN ?_ _ | with_reducible refine balloc ?_ _ | with_reducible refine bset ?_ (by simp <;> omega) | with_reducible refine bstep ?_ (by assumption) | with_reducible refine btrans ?_ (by assumption)))) (Nat.le_refl _)) (s1.below (by (repeat (first | with_reducible exact Below.refl _ _ | with_reducible assumption | with_reducible refine bdraw ?_ | with_reducible refine bdrewN ?_ _ | with_reducible refine balloc ?_ _ | with_reducible refine bset ?_ (by simp <;> omega) | with_reducible refine bstep ?_ (by assumption) | with_reducible refine btrans ?_ (by assumption)))) (Nat.le_refl _)) HE.out).mono fun _ _ h => h.s).mono ?_
      rintro e w3 ⟨A3, c3, rfl, s3, b3⟩
      have z4 := blkb z3 (w' := w3) (by (repeat (first | with_reducible exact Below.refl _ _ | with_reducible assumption | with_reducible refine bdraw ?_ | with_reducible refine bdrewN ?_ _ | with_reducible refine balloc ?_ _ | with_reducible refine bset ?_ (by simp <;> omega) | with_reducible refine bstep ?_ (by assumption) | with_reducible refine btrans ?_ (by assumption))))
      have xc0 : w3.cell? ⟨w.heap.size + 1, 0, none⟩ = some (.int .i64 0) := cell_of_row _ _ 0 _ _ _ z4; have fc0 : w3.frozen? ⟨w.heap.size + 1, 0, none⟩ = false := frozen_of_row _ _ 0 _ _ z4; have xc1 : w3.cell? ⟨w.heap.size + 1, 1, none⟩ = some (.slice none 0 0) := cell_of_row _ _ 1 _ _ _ z4; have fc1 : w3.frozen? ⟨w.heap.size + 1, 1, none⟩ = false := frozen_of_row _ _ 1 _ _ z4
      go_wp2
      refine bodyPost_ret (results_cell_tmp1 rfl _ _ (w.heap.size + 1) 24 #[.int .i64 (stR room l sp), .slice A3 (stF room l sp).length c3] (0, 0) _ rfl (set2 z4) Tryd.underlying24 rfl (by kernel_rfl)) rfl ?_
      refine ⟨_, by rw [HR.out.1, HR.out.2.2]; rfl, ?_, by (repeat (first | with_reducible exact Below.refl _ _ | with_reducible assumption | with_reducible refine bdraw ?_ | with_reducible refine bdrewN ?_ _ | with_reducible refine balloc ?_ _ | with_reducible refine bset ?_ (by simp <;> omega) | with_reducible refine bstep ?_ (by assumption) | with_reducible refine btrans ?_ (by assumption)))⟩
      rw [HR.out.2.1]
      exact (sfar (sfar s3 (by simp; omega)) (by simp; omega)).mono (fun b fr h _ => ⟨by have := h.1; omega, h.2⟩)
end Go.Proofs.YtbahiohlhhdkcaaDoor
