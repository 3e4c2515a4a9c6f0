/- The journal: start, a record in a new segment. -/
import Derived.Test.YtbahiohlhhdkcaaDoorJna
set_option linter.unusedSimpArgs false
namespace Go.Proofs.YtbahiohlhhdkcaaDoor
open Go.RowKit

theorem Appended.s {room : Int} {l : List Fi} {n : Int} {b : List UInt8} {w w' : World} {e : Ending} (h : Appended room l n b w e w') : AnsS (apR room l n b) (apF room l n b) (apE room l n b) w e w' :=
  Ans.s h
theorem AnsS.s {R : Int} {L : List Fi} {E : Int} {w w' : World} {e : Ending} (h : AnsS R L E w e w') : ∃ A c, e = .returned (.tuple #[.agg #[.int .i64 R, .slice A L.length c], .int .i64 E]) ∧ Sl fiE (Hi w.heap.size) w' (.slice A L.length c) L ∧ Below w.heap.size w w' := by
  obtain ⟨v', he, hs, hb⟩ := h
  obtain ⟨A, c, rfl, _⟩ := hs.shape
  exact ⟨A, c, he, hs, hb⟩
/-- the next segment's number -/
def nextD (room : Int) (l : List Fi) : Int := (if lastD room l < 0 then 0 else lastD room l) + 1
def stE (room : Int) (l : List Fi) (f : List UInt8) : Int := if 1048576 < nextD room l then 15 else apE room (synced l) (nextD room l) f
def stF (room : Int) (l : List Fi) (f : List UInt8) : List Fi := if 1048576 < nextD room l then [] else apF room (synced l) (nextD room l) f
def stR (room : Int) (l : List Fi) (f : List UInt8) : Int := if 1048576 < nextD room l then 0 else apR room (synced l) (nextD room l) f
theorem lastD_in {room : Int} {l : List Fi} (h : formedD room l = true) : -1 ≤ lastD room l ∧ lastD room l ≤ 1048576 := by
  unfold lastD
  rw [h, if_pos rfl]
  split
  · rename_i f hf
    simp only [formedD, Bool.and_eq_true] at h
    have := fineF_low h.2 f (List.mem_iff_getElem?.2 ⟨_, hf⟩)
    omega
  · omega
set_option maxHeartbeats 4000000 in
theorem start_c {S S' : Foot} {v u : Value} {room : Int} {l : List Fi} {b : List UInt8} {w : World} (hp : Sl fiE S w v l) (hq : Sl u8E S' w u b) (hf : formedD room l = true) :
    Calls Tryd.prog 29 #[.agg #[.int .i64 room, v], u] w (AnsS (stR room l b) (stF room l b) (stE room l b) w) := by
  have hp := hp.any
  have hq := hq.any
  obtain ⟨A, cap, rfl, hc1, hc2, _⟩ := hp.shape
  obtain ⟨Ab, cb, rfl, _⟩ := hq.shape
  unfold maxLen at hc2
  have q0 : ((w.alloc (.cells #[.int .i64 room, .slice A l.length cap] 24)).alloc (.cells #[.int .i64 0, .slice none 0 0] 24)).heap[w.heap.size]? = some (.cells #[.int .i64 room, .slice A l.length cap] 24 (0, 0)) := heap_alloc2_old _ _ _
  have q1 : ((w.alloc (.cells #[.int .i64 room, .slice A l.length cap] 24)).alloc (.cells #[.int .i64 0, .slice none 0 0] 24)).heap[w.heap.size + 1]? = some (.cells #[.int .i64 0, .slice none 0 0] 24 (0, 0)) := by
    have := heap_alloc_new (w.alloc (.cells #[.int .i64 room, .slice A l.length cap] 24)) (.cells #[.int .i64 0, .slice none 0 0] 24)
    rwa [World.size_alloc] at this
  have hl := lastD_in hf
  have hsy : syE room l = 0 ∧ syF room l = synced l ∧ syR room l = room := by simp [syE, syF, syR, hf]
  have HL := fun (w' : World) (bb : Below w.heap.size w w') => Lib.hid (last_c (room := room) (w := w') (hp.below (by (repeat (first | with_reducible exact Below.refl _ _ | with_reducible assumption | with_reducible refine bdraw ?_ | with_reducible refine bdrewN ?_ _ | with_reducible refine balloc ?_ _ | with_reducible refine bset ?_ (by simp <;> omega) | with_reducible refine bstep ?_ (by assumption) | with_reducible refine btrans ?_ (by assumption)))) (Nat.le_refl _)))
  have HS := fun (w' : World) (bb : Below w.heap.size w w') => Lib.hid ((sync_c (room := room) (w := w') (hp.below (by (repeat (first | with_reducible exact Below.refl _ _ | with_reducible assumption | with_reducible refine bdraw ?_ | with_reducible refine bdrewN ?_ _ | with_reducible refine balloc ?_ _ | with_reducible refine bset ?_ (by simp <;> omega) | with_reducible refine bstep ?_ (by assumption) | with_reducible refine btrans ?_ (by assumption)))) (Nat.le_refl _))).mono fun _ _ h => (Ans.s h).s)
  rw [hsy.1, hsy.2.1, hsy.2.2] at HS
  have HE : Hid (stE room l b = (if 1048576 < nextD room l then 15 else apE room (synced l) (nextD room l) b) ∧ stF room l b = (if 1048576 < nextD room l then [] else apF room (synced l) (nextD room l) b) ∧ stR room l b = (if 1048576 < nextD room l then 0 else apR room (synced l) (nextD room l) b)) := Lib.hid ⟨rfl, rfl, rfl⟩
  have hN : (if lastD room l < 0 then (0 : Int) else lastD room l) + 1 = nextD room l := rfl
  have hNN := Lib.hid hN
  obtain ⟨hl1, hl2⟩ := hl
  have hmx : ∃ m : Int, (if lastD room l < 0 then (0 : Int) else lastD room l) = m ∧ 0 ≤ m ∧ m ≤ 1048576 := ⟨_, rfl, by split <;> omega, by split <;> omega⟩
  obtain ⟨m, hm, hm0, hm1⟩ := hmx
  rw [hm] at hN
  rw [← hN] at HE
  clear hsy hf hN hNN
  generalize lastD room l = ld at *
  have hwr : IntKind.i64.wrap (m + 1) = m + 1 := IntWalk.i64_in _ (by omega)
  go_enter Tryd.func29, Tryd.ntmps29
  go_wp2_with fail
  refine (HL _ (by (repeat (first | with_reducible exact Below.refl _ _ | with_reducible assumption | with_reducible refine bdraw ?_ | with_reducible refine bdrewN ?_ _ | with_reducible refine balloc ?_ _ | with_reducible refine bset ?_ (by simp <;> omega) | with_reducible refine bstep ?_ (by assumption) | with_reducible refine btrans ?_ (by assumption))))).out.mono ?_
  rintro e w1 ⟨rfl, b1⟩
  have q2 := blkb q0 (w' := w1) (by (repeat (first | with_reducible exact Below.refl _ _ | with_reducible assumption | with_reducible refine bdraw ?_ | with_reducible refine bdrewN ?_ _ | with_reducible refine balloc ?_ _ | with_reducible refine bset ?_ (by simp <;> omega) | with_reducible refine bstep ?_ (by assumption) | with_reducible refine btrans ?_ (by assumption))))
  have z2 := blkb q1 (w' := w1) (by (repeat (first | with_reducible exact Below.refl _ _ | with_reducible assumption | with_reducible refine bdraw ?_ | with_reducible refine bdrewN ?_ _ | with_reducible refine balloc ?_ _ | with_reducible refine bset ?_ (by simp <;> omega) | with_reducible refine bstep ?_ (by assumption) | with_reducible refine btrans ?_ (by assumption))))
  have xa0 : w1.cell? ⟨w.heap.size, 0, none⟩ = some (.int .i64 room) := cell_of_row _ _ 0 _ _ _ q2; have fa0 : w1.frozen? ⟨w.heap.size, 0, none⟩ = false := frozen_of_row _ _ 0 _ _ q2; have xa1 : w1.cell? ⟨w.heap.size, 1, none⟩ = some (.slice A l.length cap) := cell_of_row _ _ 1 _ _ _ q2; have fa1 : w1.frozen? ⟨w.heap.size, 1, none⟩ = false := frozen_of_row _ _ 1 _ _ q2
  have xc0 : w1.cell? ⟨w.heap.size + 1, 0, none⟩ = some (.int .i64 0) := cell_of_row _ _ 0 _ _ _ z2; have fc0 : w1.frozen? ⟨w.heap.size + 1, 0, none⟩ = false := frozen_of_row _ _ 0 _ _ z2; have xc1 : w1.cell? ⟨w.heap.size + 1, 1, none⟩ = some (.slice none 0 0) := cell_of_row _ _ 1 _ _ _ z2; have fc1 : w1.frozen? ⟨w.heap.size + 1, 1, none⟩ = false := frozen_of_row _ _ 1 _ _ z2
  have bw1 : Below w.heap.size w w1 := by (repeat (first | with_reducible exact Below.refl _ _ | with_reducible assumption | with_reducible refine bdraw ?_ | with_reducible refine bdrewN ?_ _ | with_reducible refine balloc ?_ _ | with_reducible refine bset ?_ (by simp <;> omega) | with_reducible refine bstep ?_ (by assumption) | with_reducible refine btrans ?_ (by assumption)))
  have hz1 := b1.size
  simp only [World.size_alloc] at hz1
  clear HL b1 q0 q1
  by_cases hbig : 1048576 < m + 1
  · simp only [if_pos hbig] at HE
    go_wp2
    refine bodyPost_ret (results_cell_tmp1 rfl _ _ (w.heap.size + 1) 24 #[.int .i64 0, .slice none 0 0] (0, 0) _ rfl (set2 z2) Tryd.underlying24 rfl (by kernel_rfl)) rfl ?_
    exact ⟨_, by rw [HE.out.1, HE.out.2.2]; rfl, by rw [HE.out.2.1]; exact Sl.nil, by (repeat (first | with_reducible exact Below.refl _ _ | with_reducible assumption | with_reducible refine bdraw ?_ | with_reducible refine bdrewN ?_ _ | with_reducible refine balloc ?_ _ | with_reducible refine bset ?_ (by simp <;> omega) | with_reducible refine bstep ?_ (by assumption) | with_reducible refine btrans ?_ (by assumption)))⟩
  · simp only [if_neg hbig] at HE
    go_wp2_with fail
    refine (HS _ (by (repeat (first | with_reducible exact Below.refl _ _ | with_reducible assumption | with_reducible refine bdraw ?_ | with_reducible refine bdrewN ?_ _ | with_reducible refine balloc ?_ _ | with_reducible refine bset ?_ (by simp <;> omega) | with_reducible refine bstep ?_ (by assumption) | with_reducible refine btrans ?_ (by assumption))))).out.mono ?_
    rintro e w2 ⟨A2, c2, rfl, s2, b2⟩
    have s3 := s2.any.below (w' := w2.alloc (.cells #[.int .i64 room, .slice A2 (synced l).length c2] 24)) (by (repeat (first | with_reducible exact Below.refl _ _ | with_reducible assumption | with_reducible refine bdraw ?_ | with_reducible refine bdrewN ?_ _ | with_reducible refine balloc ?_ _ | with_reducible refine bset ?_ (by simp <;> omega) | with_reducible refine bstep ?_ (by assumption) | with_reducible refine btrans ?_ (by assumption)))) (Nat.le_refl _)
    have z3 := blkb z2 (w' := w2.alloc (.cells #[.int .i64 room, .slice A2 (synced l).length c2] 24)) (by (repeat (first | with_reducible exact Below.refl _ _ | with_reducible assumption | with_reducible refine bdraw ?_ | with_reducible refine bdrewN ?_ _ | with_reducible refine balloc ?_ _ | with_reducible refine bset ?_ (by simp <;> omega) | with_reducible refine bstep ?_ (by assumption) | with_reducible refine btrans ?_ (by assumption))))
    have x3 := heap_alloc_new w2 (.cells #[.int .i64 room, .slice A2 (synced l).length c2] 24)
    have bw3 : Below w.heap.size w (w2.alloc (.cells #[.int .i64 room, .slice A2 (synced l).length c2] 24)) := by (repeat (first | with_reducible exact Below.refl _ _ | with_reducible assumption | with_reducible refine bdraw ?_ | with_reducible refine bdrewN ?_ _ | with_reducible refine balloc ?_ _ | with_reducible refine bset ?_ (by simp <;> omega) | with_reducible refine bstep ?_ (by assumption) | with_reducible refine btrans ?_ (by assumption)))
    have hq3 := hq.below (w' := w2.alloc (.cells #[.int .i64 room, .slice A2 (synced l).length c2] 24)) bw3 (Nat.le_refl _)
    clear HS xa0 xa1 fa0 fa1 xc0 xc1 fc0 fc1
    have xx0 : (w2.alloc (.cells #[.int .i64 room, .slice A2 (synced l).length c2] 24)).cell? ⟨w2.heap.size, 0, none⟩ = some (.int .i64 room) := cell_of_row _ _ 0 _ _ _ x3; have fx0 : (w2.alloc (.cells #[.int .i64 room, .slice A2 (synced l).length c2] 24)).frozen? ⟨w2.heap.size, 0, none⟩ = false := frozen_of_row _ _ 0 _ _ x3; have xx1 : (w2.alloc (.cells #[.int .i64 room, .slice A2 (synced l).length c2] 24)).cell? ⟨w2.heap.size, 1, none⟩ = some (.slice A2 (synced l).length c2) := cell_of_row _ _ 1 _ _ _ x3; have fx1 : (w2.alloc (.cells #[.int .i64 room, .slice A2 (synced l).length c2] 24)).frozen? ⟨w2.heap.size, 1, none⟩ = false := frozen_of_row _ _ 1 _ _ x3
    go_wp2_with fail
    refine ((append_c (room := room) (n := m + 1) s3 hq3).mono fun _ _ h => (Appended.s h).s).mono ?_
    rintro e w4 ⟨A4, c4, rfl, s4, b4⟩
    have z4 := blkb z3 (w' := w4) b4
    have hz4 := b2.size
    have xc0 : w4.cell? ⟨w.heap.size + 1, 0, none⟩ = some (.int .i64 0) := cell_of_row _ _ 0 _ _ _ z4; have fc0 : w4.frozen? ⟨w.heap.size + 1, 0, none⟩ = false := frozen_of_row _ _ 0 _ _ z4; have xc1 : w4.cell? ⟨w.heap.size + 1, 1, none⟩ = some (.slice none 0 0) := cell_of_row _ _ 1 _ _ _ z4; have fc1 : w4.frozen? ⟨w.heap.size + 1, 1, none⟩ = false := frozen_of_row _ _ 1 _ _ z4
    go_wp2
    refine bodyPost_ret (results_cell_tmp1 rfl _ _ (w.heap.size + 1) 24 #[.int .i64 (apR room (synced l) (m + 1) b), .slice A4 (apF room (synced l) (m + 1) b).length c4] (0, 0) _ rfl (set2 z4) Tryd.underlying24 rfl (by kernel_rfl)) rfl ?_
    refine ⟨_, by rw [HE.out.1, HE.out.2.2]; rfl, ?_, by (repeat (first | with_reducible exact Below.refl _ _ | with_reducible assumption | with_reducible refine bdraw ?_ | with_reducible refine bdrewN ?_ _ | with_reducible refine balloc ?_ _ | with_reducible refine bset ?_ (by simp <;> omega) | with_reducible refine bstep ?_ (by assumption) | with_reducible refine btrans ?_ (by assumption)))⟩
    rw [HE.out.2.1]
    exact (sfar (sfar s4 (by simp; omega)) (by simp; omega)).mono (fun b fr h _ => ⟨by have := h.1; simp at this; omega, h.2⟩)
end Go.Proofs.YtbahiohlhhdkcaaDoor
