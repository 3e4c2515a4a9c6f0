/- The journal: the document's Append. -/
import Derived.Test.YtbahiohlhhdkcaaDoorJne
set_option linter.unusedSimpArgs false
namespace Go.Proofs.YtbahiohlhhdkcaaDoor
open Go.RowKit

set_option maxHeartbeats 4000000 in
theorem rjappend_c {S S' : Foot} {v u : Value} {room : Int} {l : List Fi} {p : List UInt8} {w : World} (hp : Sl fiE S w v l) (hq : Sl u8E S' w u p) :
    Calls Tryd.prog 11 #[.agg #[.int .i64 room, v], u] w (AnsS (jaR room l p) (jaF room l p) (jaE room l p) w) := by
  have hp := hp.any
  have hq := hq.any
  obtain ⟨A, cap, rfl, hc1, hc2, _⟩ := hp.shape
  obtain ⟨Ab, cb, rfl, hc3, hc4, _⟩ := hq.shape
  unfold maxLen at hc2 hc4
  have q0 : ((w.alloc (.cells #[.int .i64 room, .slice A l.length cap] 24)).alloc (.cells #[.int .i64 0, .slice none 0 0] 24)).heap[w.heap.size]? = some (.cells #[.int .i64 room, .slice A l.length cap] 24 (0, 0)) := heap_alloc2_old _ _ _
  have q1 : ((w.alloc (.cells #[.int .i64 room, .slice A l.length cap] 24)).alloc (.cells #[.int .i64 0, .slice none 0 0] 24)).heap[w.heap.size + 1]? = some (.cells #[.int .i64 0, .slice none 0 0] 24 (0, 0)) := by
    have := heap_alloc_new (w.alloc (.cells #[.int .i64 room, .slice A l.length cap] 24)) (.cells #[.int .i64 0, .slice none 0 0] 24)
    rwa [World.size_alloc] at this
  have HSe := fun (w' : World) (bb : Below w.heap.size w w') => Lib.hid (rseal_c (w := w') (hq.below (by (repeat (first | with_reducible exact Below.refl _ _ | with_reducible assumption | with_reducible refine bdraw ?_ | with_reducible refine bdrewN ?_ _ | with_reducible refine balloc ?_ _ | with_reducible refine bset ?_ (by simp <;> omega) | with_reducible refine bstep ?_ (by assumption) | with_reducible refine btrans ?_ (by assumption)))) (Nat.le_refl _)))
  have HF := fun (w' : World) (bb : Below w.heap.size w w') => Lib.hid (rformed_c (room := room) (w := w') (hp.below (by (repeat (first | with_reducible exact Below.refl _ _ | with_reducible assumption | with_reducible refine bdraw ?_ | with_reducible refine bdrewN ?_ _ | with_reducible refine balloc ?_ _ | with_reducible refine bset ?_ (by simp <;> omega) | with_reducible refine bstep ?_ (by assumption) | with_reducible refine btrans ?_ (by assumption)))) (Nat.le_refl _)))
  cases hE : formedD room l
  · have HR : Hid (jaE room l p = 1 ∧ jaF room l p = [] ∧ jaR room l p = 0) := Lib.hid (by simp [jaE, jaF, jaR, jok, hE])
    rw [hE] at HF
    clear hE HSe
    go_enter Tryd.func11, Tryd.ntmps11
    go_wp2_with fail
    refine (HF _ (by (repeat (first | with_reducible exact Below.refl _ _ | with_reducible assumption | with_reducible refine bdraw ?_ | with_reducible refine bdrewN ?_ _ | with_reducible refine balloc ?_ _ | with_reducible refine bset ?_ (by simp <;> omega) | with_reducible refine bstep ?_ (by assumption) | with_reducible refine btrans ?_ (by assumption))))).out.mono ?_
    rintro e w1 ⟨rfl, b1⟩
    have z2 := blkb q1 (w' := w1) (by (repeat (first | with_reducible exact Below.refl _ _ | with_reducible assumption | with_reducible refine bdraw ?_ | with_reducible refine bdrewN ?_ _ | with_reducible refine balloc ?_ _ | with_reducible refine bset ?_ (by simp <;> omega) | with_reducible refine bstep ?_ (by assumption) | with_reducible refine btrans ?_ (by assumption))))
    have xc0 : w1.cell? ⟨w.heap.size + 1, 0, none⟩ = some (.int .i64 0) := cell_of_row _ _ 0 _ _ _ z2; have fc0 : w1.frozen? ⟨w.heap.size + 1, 0, none⟩ = false := frozen_of_row _ _ 0 _ _ z2; have xc1 : w1.cell? ⟨w.heap.size + 1, 1, none⟩ = some (.slice none 0 0) := cell_of_row _ _ 1 _ _ _ z2; have fc1 : w1.frozen? ⟨w.heap.size + 1, 1, none⟩ = false := frozen_of_row _ _ 1 _ _ z2
    go_wp2
    refine bodyPost_ret (results_cell_tmp1 rfl _ _ (w.heap.size + 1) 24 #[.int .i64 0, .slice none 0 0] (0, 0) _ rfl (set2 z2) Tryd.underlying24 rfl (by kernel_rfl)) rfl ?_
    exact ⟨_, by rw [HR.out.1, HR.out.2.2]; rfl, by rw [HR.out.2.1]; exact Sl.nil, by (repeat (first | with_reducible exact Below.refl _ _ | with_reducible assumption | with_reducible refine bdraw ?_ | with_reducible refine bdrewN ?_ _ | with_reducible refine balloc ?_ _ | with_reducible refine bset ?_ (by simp <;> omega) | with_reducible refine bstep ?_ (by assumption) | with_reducible refine btrans ?_ (by assumption)))⟩
  · have HE := Lib.hid hE
    rw [hE] at HF
    go_enter Tryd.func11, Tryd.ntmps11
    go_wp2_with fail
    refine (HF _ (by (repeat (first | with_reducible exact Below.refl _ _ | with_reducible assumption | with_reducible refine bdraw ?_ | with_reducible refine bdrewN ?_ _ | with_reducible refine balloc ?_ _ | with_reducible refine bset ?_ (by simp <;> omega) | with_reducible refine bstep ?_ (by assumption) | with_reducible refine btrans ?_ (by assumption))))).out.mono ?_
    rintro e w1 ⟨rfl, b1⟩
    have q2 := blkb q0 (w' := w1) (by (repeat (first | with_reducible exact Below.refl _ _ | with_reducible assumption | with_reducible refine bdraw ?_ | with_reducible refine bdrewN ?_ _ | with_reducible refine balloc ?_ _ | with_reducible refine bset ?_ (by simp <;> omega) | with_reducible refine bstep ?_ (by assumption) | with_reducible refine btrans ?_ (by assumption))))
    have z2 := blkb q1 (w' := w1) (by (repeat (first | with_reducible exact Below.refl _ _ | with_reducible assumption | with_reducible refine bdraw ?_ | with_reducible refine bdrewN ?_ _ | with_reducible refine balloc ?_ _ | with_reducible refine bset ?_ (by simp <;> omega) | with_reducible refine bstep ?_ (by assumption) | with_reducible refine btrans ?_ (by assumption))))
    have bw1 : Below w.heap.size w w1 := by (repeat (first | with_reducible exact Below.refl _ _ | with_reducible assumption | with_reducible refine bdraw ?_ | with_reducible refine bdrewN ?_ _ | with_reducible refine balloc ?_ _ | with_reducible refine bset ?_ (by simp <;> omega) | with_reducible refine bstep ?_ (by assumption) | with_reducible refine btrans ?_ (by assumption)))
    have hz1 : w.heap.size + 2 ≤ w1.heap.size := by have := b1.size; simp at this; omega
    clear q0 q1
    have xa0 : w1.cell? ⟨w.heap.size, 0, none⟩ = some (.int .i64 room) := cell_of_row _ _ 0 _ _ _ q2; have fa0 : w1.frozen? ⟨w.heap.size, 0, none⟩ = false := frozen_of_row _ _ 0 _ _ q2; have xa1 : w1.cell? ⟨w.heap.size, 1, none⟩ = some (.slice A l.length cap) := cell_of_row _ _ 1 _ _ _ q2; have fa1 : w1.frozen? ⟨w.heap.size, 1, none⟩ = false := frozen_of_row _ _ 1 _ _ q2
    by_cases hlen : p.length ≤ 1048576
    rotate_left
    · have HR : Hid (jaE room l p = 1 ∧ jaF room l p = [] ∧ jaR room l p = 0) := Lib.hid (by simp [jaE, jaF, jaR, jok, hlen])
      have d5 : decide ((1048576 : Int) < (p.length : Int)) = true := decide_eq_true (by omega)
      have d6 : decide (1048576 < p.length) = true := decide_eq_true (by omega)
      clear hlen hE HSe
      have xc0 : w1.cell? ⟨w.heap.size + 1, 0, none⟩ = some (.int .i64 0) := cell_of_row _ _ 0 _ _ _ z2; have fc0 : w1.frozen? ⟨w.heap.size + 1, 0, none⟩ = false := frozen_of_row _ _ 0 _ _ z2; have xc1 : w1.cell? ⟨w.heap.size + 1, 1, none⟩ = some (.slice none 0 0) := cell_of_row _ _ 1 _ _ _ z2; have fc1 : w1.frozen? ⟨w.heap.size + 1, 1, none⟩ = false := frozen_of_row _ _ 1 _ _ z2
      go_wp2
      refine bodyPost_ret (results_cell_tmp1 rfl _ _ (w.heap.size + 1) 24 #[.int .i64 0, .slice none 0 0] (0, 0) _ rfl (set2 z2) Tryd.underlying24 rfl (by kernel_rfl)) rfl ?_
      exact ⟨_, by rw [HR.out.1, HR.out.2.2]; rfl, by rw [HR.out.2.1]; exact Sl.nil, by (repeat (first | with_reducible exact Below.refl _ _ | with_reducible assumption | with_reducible refine bdraw ?_ | with_reducible refine bdrewN ?_ _ | with_reducible refine balloc ?_ _ | with_reducible refine bset ?_ (by simp <;> omega) | with_reducible refine bstep ?_ (by assumption) | with_reducible refine btrans ?_ (by assumption)))⟩
    · have d5 : decide ((1048576 : Int) < (p.length : Int)) = false := decide_eq_false (by omega)
      have d6 : decide (1048576 < p.length) = false := decide_eq_false (by omega)
      have e1 : sealE p = 0 := by unfold sealE; rw [if_neg (by omega)]
      have e2 : sealB p = sealed p := by unfold sealB; rw [if_neg (by omega)]
      rw [e1, e2] at HSe
      have hjk : jok room l p := ⟨hE, hlen⟩
      have HJ : Hid (jaE room l p = (if jhere l p then apE room l (lastD room l) (sealed p) else jsE room l p) ∧ jaF room l p = (if jhere l p then apF room l (lastD room l) (sealed p) else jsF room l p) ∧ jaR room l p = (if jhere l p then apR room l (lastD room l) (sealed p) else jsR room l p)) := Lib.hid (by
        unfold jaE jaF jaR jsE jsF jsR; rw [if_pos hjk, if_pos hjk, if_pos hjk, if_pos hjk, if_pos hjk, if_pos hjk]; exact ⟨rfl, rfl, rfl⟩)
      have hsl := Lib.hid (sealed_length p)
      generalize sealed p = sp at *
      clear e1 e2 hE hjk
      by_cases h0 : l.length = 0
      · have hno : ¬ jhere l p := fun ⟨f, h, _⟩ => by have := (List.getElem?_eq_some_iff.1 h).1; omega
        have HR := HJ.out
        rw [if_neg hno, if_neg hno, if_neg hno] at HR
        replace HR := Lib.hid HR
        have d0 : ((l.length : Int) == 0) = true := by rw [h0]; rfl
        clear h0 hno HJ
        go_wp2_with fail
        refine ((rjstart_c (room := room) (hp.below (by (repeat (first | with_reducible exact Below.refl _ _ | with_reducible assumption | with_reducible refine bdraw ?_ | with_reducible refine bdrewN ?_ _ | with_reducible refine balloc ?_ _ | with_reducible refine bset ?_ (by simp <;> omega) | with_reducible refine bstep ?_ (by assumption) | with_reducible refine btrans ?_ (by assumption)))) (Nat.le_refl _)) (hq.below (by (repeat (first | with_reducible exact Below.refl _ _ | with_reducible assumption | with_reducible refine bdraw ?_ | with_reducible refine bdrewN ?_ _ | with_reducible refine balloc ?_ _ | with_reducible refine bset ?_ (by simp <;> omega) | with_reducible refine bstep ?_ (by assumption) | with_reducible refine btrans ?_ (by assumption)))) (Nat.le_refl _))).mono fun _ _ h => h.s).mono ?_
        rintro e w5 ⟨A5, c5, rfl, s5, b5⟩
        have z5 := blkb z2 (w' := w5) (by (repeat (first | with_reducible exact Below.refl _ _ | with_reducible assumption | with_reducible refine bdraw ?_ | with_reducible refine bdrewN ?_ _ | with_reducible refine balloc ?_ _ | with_reducible refine bset ?_ (by simp <;> omega) | with_reducible refine bstep ?_ (by assumption) | with_reducible refine btrans ?_ (by assumption))))
        have xc0 : w5.cell? ⟨w.heap.size + 1, 0, none⟩ = some (.int .i64 0) := cell_of_row _ _ 0 _ _ _ z5; have fc0 : w5.frozen? ⟨w.heap.size + 1, 0, none⟩ = false := frozen_of_row _ _ 0 _ _ z5; have xc1 : w5.cell? ⟨w.heap.size + 1, 1, none⟩ = some (.slice none 0 0) := cell_of_row _ _ 1 _ _ _ z5; have fc1 : w5.frozen? ⟨w.heap.size + 1, 1, none⟩ = false := frozen_of_row _ _ 1 _ _ z5
        go_wp2
        refine bodyPost_ret (results_cell_tmp1 rfl _ _ (w.heap.size + 1) 24 #[.int .i64 (jsR room l p), .slice A5 (jsF room l p).length c5] (0, 0) _ rfl (set2 z5) Tryd.underlying24 rfl (by kernel_rfl)) rfl ?_
        refine ⟨_, by rw [HR.out.1, HR.out.2.2]; rfl, ?_, by (repeat (first | with_reducible exact Below.refl _ _ | with_reducible assumption | with_reducible refine bdraw ?_ | with_reducible refine bdrewN ?_ _ | with_reducible refine balloc ?_ _ | with_reducible refine bset ?_ (by simp <;> omega) | with_reducible refine bstep ?_ (by assumption) | with_reducible refine btrans ?_ (by assumption)))⟩
        rw [HR.out.2.1]
        exact (sfar (sfar s5 (by simp; omega)) (by simp; omega)).mono (fun b fr h _ => ⟨by have := h.1; (try simp only [World.size_alloc] at this); omega, h.2⟩)
      · have d0 : ((l.length : Int) == 0) = false := by rw [beq_eq_false_iff_ne]; omega
        have hlt : l.length - 1 < l.length := by omega
        have hLD := lastD_ok HE.out hlt
        have hsz := formedD_size HE.out
        have hmem := sizeD_mem (fs := l) (f := l[l.length - 1]) (List.getElem_mem hlt)
        have hget : l[l.length - 1]? = some l[l.length - 1] := List.getElem?_eq_getElem hlt
        have hJH : jhere l p ↔ (l[l.length - 1].b.length = 0 ∨ l[l.length - 1].b.length + 8 + p.length ≤ 512) := by
          constructor
          · rintro ⟨f, h1, h2⟩
            rw [hget] at h1; injection h1 with h1; subst h1; exact h2
          · intro h; exact ⟨_, hget, h⟩
        have hwl : IntKind.i64.wrap ((l.length : Int) - 1) = ((l.length - 1 : Nat) : Int) := by rw [IntWalk.i64_in _ (by omega)]; omega
        have hl0 : (0 : Int) ≤ ((l.length - 1 : Nat) : Int) := by omega
        have hl1 : ((l.length - 1 : Nat) : Int) < (l.length : Int) := by omega
        have HR := HJ.out
        rw [hLD] at HR
        have hbl : l[l.length - 1].b.length ≤ 16777216 := by omega
        obtain ⟨bb, off, Av, cv, rfl, k0, k1, k2, hv⟩ := (hp.below (w' := w1) (by (repeat (first | with_reducible exact Below.refl _ _ | with_reducible assumption | with_reducible refine bdraw ?_ | with_reducible refine bdrewN ?_ _ | with_reducible refine balloc ?_ _ | with_reducible refine bset ?_ (by simp <;> omega) | with_reducible refine bstep ?_ (by assumption) | with_reducible refine btrans ?_ (by assumption)))) (Nat.le_refl _)).fi hlt
        clear HJ hLD hsz hmem hget
        generalize l[l.length - 1] = x at *
        obtain ⟨_, _, e, hcv1, hcv2, _⟩ := hv.shape
        injection e with e1 e0 e2
        subst e1 e2
        clear e0
        unfold maxLen at hcv2
        have d2 := k0.cell
        have d3 := k1.cell
        have d4 := k2.cell
        clear k0 k1 k2
        have hws : IntKind.i64.wrap ((x.b.length : Int) + (p.length : Int)) = (x.b.length : Int) + (p.length : Int) := IntWalk.i64_in _ (by omega)
        have hwt : IntKind.i64.wrap ((x.b.length : Int) + (p.length : Int) + 8) = (x.b.length : Int) + (p.length : Int) + 8 := IntWalk.i64_in _ (by omega)
        have z3 := blkb z2 (w' := (w1.alloc (.cells #[.int .i64 x.n, .slice Av x.b.length cv, .int .i64 x.s] 50))) (by (repeat (first | with_reducible exact Below.refl _ _ | with_reducible assumption | with_reducible refine bdraw ?_ | with_reducible refine bdrewN ?_ _ | with_reducible refine balloc ?_ _ | with_reducible refine bset ?_ (by simp <;> omega) | with_reducible refine bstep ?_ (by assumption) | with_reducible refine btrans ?_ (by assumption))))
        have e4 := heap_alloc_new w1 (.cells #[.int .i64 x.n, .slice Av x.b.length cv, .int .i64 x.s] 50)
        have q3 := blkb q2 (w' := (w1.alloc (.cells #[.int .i64 x.n, .slice Av x.b.length cv, .int .i64 x.s] 50))) (by (repeat (first | with_reducible exact Below.refl _ _ | with_reducible assumption | with_reducible refine bdraw ?_ | with_reducible refine bdrewN ?_ _ | with_reducible refine balloc ?_ _ | with_reducible refine bset ?_ (by simp <;> omega) | with_reducible refine bstep ?_ (by assumption) | with_reducible refine btrans ?_ (by assumption))))
        have xy0 : (w1.alloc (.cells #[.int .i64 x.n, .slice Av x.b.length cv, .int .i64 x.s] 50)).cell? ⟨w.heap.size, 0, none⟩ = some (.int .i64 room) := cell_of_row _ _ 0 _ _ _ q3; have fy0 : (w1.alloc (.cells #[.int .i64 x.n, .slice Av x.b.length cv, .int .i64 x.s] 50)).frozen? ⟨w.heap.size, 0, none⟩ = false := frozen_of_row _ _ 0 _ _ q3; have xy1 : (w1.alloc (.cells #[.int .i64 x.n, .slice Av x.b.length cv, .int .i64 x.s] 50)).cell? ⟨w.heap.size, 1, none⟩ = some (.slice (some ⟨bb, off, none⟩) l.length cap) := cell_of_row _ _ 1 _ _ _ q3; have fy1 : (w1.alloc (.cells #[.int .i64 x.n, .slice Av x.b.length cv, .int .i64 x.s] 50)).frozen? ⟨w.heap.size, 1, none⟩ = false := frozen_of_row _ _ 1 _ _ q3
        have xu0 : (w1.alloc (.cells #[.int .i64 x.n, .slice Av x.b.length cv, .int .i64 x.s] 50)).cell? ⟨w1.heap.size, 0, none⟩ = some (.int .i64 x.n) := cell_of_row _ _ 0 _ _ _ e4; have fu0 : (w1.alloc (.cells #[.int .i64 x.n, .slice Av x.b.length cv, .int .i64 x.s] 50)).frozen? ⟨w1.heap.size, 0, none⟩ = false := frozen_of_row _ _ 0 _ _ e4; have xu1 : (w1.alloc (.cells #[.int .i64 x.n, .slice Av x.b.length cv, .int .i64 x.s] 50)).cell? ⟨w1.heap.size, 1, none⟩ = some (.slice Av x.b.length cv) := cell_of_row _ _ 1 _ _ _ e4; have fu1 : (w1.alloc (.cells #[.int .i64 x.n, .slice Av x.b.length cv, .int .i64 x.s] 50)).frozen? ⟨w1.heap.size, 1, none⟩ = false := frozen_of_row _ _ 1 _ _ e4; have xu2 : (w1.alloc (.cells #[.int .i64 x.n, .slice Av x.b.length cv, .int .i64 x.s] 50)).cell? ⟨w1.heap.size, 2, none⟩ = some (.int .i64 x.s) := cell_of_row _ _ 2 _ _ _ e4; have fu2 : (w1.alloc (.cells #[.int .i64 x.n, .slice Av x.b.length cv, .int .i64 x.s] 50)).frozen? ⟨w1.heap.size, 2, none⟩ = false := frozen_of_row _ _ 2 _ _ e4
        by_cases hz0 : x.b.length = 0
        · rw [if_pos (hJH.2 (.inl hz0)), if_pos (hJH.2 (.inl hz0)), if_pos (hJH.2 (.inl hz0))] at HR
          replace HR := Lib.hid HR
          have t1 : decide ((0 : Int) < (x.b.length : Int)) = false := decide_eq_false (by omega)
          have t3 : decide (0 < x.b.length) = false := decide_eq_false (by omega)
          clear hz0 hJH hsl h0
          go_wp2_with fail
          refine (HSe _ (by (repeat (first | with_reducible exact Below.refl _ _ | with_reducible assumption | with_reducible refine bdraw ?_ | with_reducible refine bdrewN ?_ _ | with_reducible refine balloc ?_ _ | with_reducible refine bset ?_ (by simp <;> omega) | with_reducible refine bstep ?_ (by assumption) | with_reducible refine btrans ?_ (by assumption))))).out.mono ?_
          rintro e w3 ⟨v3, rfl, o3, b3⟩
          obtain ⟨A3, c3, rfl, _⟩ := o3.slAny.shape
          have s3 := o3.slAny
          have q4 := blkb q3 (w' := w3) (by (repeat (first | with_reducible exact Below.refl _ _ | with_reducible assumption | with_reducible refine bdraw ?_ | with_reducible refine bdrewN ?_ _ | with_reducible refine balloc ?_ _ | with_reducible refine bset ?_ (by simp <;> omega) | with_reducible refine bstep ?_ (by assumption) | with_reducible refine btrans ?_ (by assumption))))
          have z4 := blkb z3 (w' := w3) (by (repeat (first | with_reducible exact Below.refl _ _ | with_reducible assumption | with_reducible refine bdraw ?_ | with_reducible refine bdrewN ?_ _ | with_reducible refine balloc ?_ _ | with_reducible refine bset ?_ (by simp <;> omega) | with_reducible refine bstep ?_ (by assumption) | with_reducible refine btrans ?_ (by assumption))))
          have e5 := blkb e4 (w' := w3) (by (repeat (first | with_reducible exact Below.refl _ _ | with_reducible assumption | with_reducible refine bdraw ?_ | with_reducible refine bdrewN ?_ _ | with_reducible refine balloc ?_ _ | with_reducible refine bset ?_ (by simp <;> omega) | with_reducible refine bstep ?_ (by assumption) | with_reducible refine btrans ?_ (by assumption))))
          have hz3 := b3.size
          simp only [World.size_alloc] at hz3
          clear xy0 xy1 fy0 fy1 xu0 xu1 xu2 fu0 fu1 fu2
          have xy0 : w3.cell? ⟨w.heap.size, 0, none⟩ = some (.int .i64 room) := cell_of_row _ _ 0 _ _ _ q4; have fy0 : w3.frozen? ⟨w.heap.size, 0, none⟩ = false := frozen_of_row _ _ 0 _ _ q4; have xy1 : w3.cell? ⟨w.heap.size, 1, none⟩ = some (.slice (some ⟨bb, off, none⟩) l.length cap) := cell_of_row _ _ 1 _ _ _ q4; have fy1 : w3.frozen? ⟨w.heap.size, 1, none⟩ = false := frozen_of_row _ _ 1 _ _ q4
          have xu0 : w3.cell? ⟨w1.heap.size, 0, none⟩ = some (.int .i64 x.n) := cell_of_row _ _ 0 _ _ _ e5; have fu0 : w3.frozen? ⟨w1.heap.size, 0, none⟩ = false := frozen_of_row _ _ 0 _ _ e5; have xu1 : w3.cell? ⟨w1.heap.size, 1, none⟩ = some (.slice Av x.b.length cv) := cell_of_row _ _ 1 _ _ _ e5; have fu1 : w3.frozen? ⟨w1.heap.size, 1, none⟩ = false := frozen_of_row _ _ 1 _ _ e5; have xu2 : w3.cell? ⟨w1.heap.size, 2, none⟩ = some (.int .i64 x.s) := cell_of_row _ _ 2 _ _ _ e5; have fu2 : w3.frozen? ⟨w1.heap.size, 2, none⟩ = false := frozen_of_row _ _ 2 _ _ e5
          go_wp2_with fail
          refine ((rappend_c (room := room) (n := x.n) (hp.below (by (repeat (first | with_reducible exact Below.refl _ _ | with_reducible assumption | with_reducible refine bdraw ?_ | with_reducible refine bdrewN ?_ _ | with_reducible refine balloc ?_ _ | with_reducible refine bset ?_ (by simp <;> omega) | with_reducible refine bstep ?_ (by assumption) | with_reducible refine btrans ?_ (by assumption)))) (Nat.le_refl _)) s3).mono fun _ _ h => (Appended.s h).s).mono ?_
          rintro e w5 ⟨A5, c5, rfl, s5, b5⟩
          have z5 := blkb z4 (w' := w5) (by (repeat (first | with_reducible exact Below.refl _ _ | with_reducible assumption | with_reducible refine bdraw ?_ | with_reducible refine bdrewN ?_ _ | with_reducible refine balloc ?_ _ | with_reducible refine bset ?_ (by simp <;> omega) | with_reducible refine bstep ?_ (by assumption) | with_reducible refine btrans ?_ (by assumption))))
          have xc0 : w5.cell? ⟨w.heap.size + 1, 0, none⟩ = some (.int .i64 0) := cell_of_row _ _ 0 _ _ _ z5; have fc0 : w5.frozen? ⟨w.heap.size + 1, 0, none⟩ = false := frozen_of_row _ _ 0 _ _ z5; have xc1 : w5.cell? ⟨w.heap.size + 1, 1, none⟩ = some (.slice none 0 0) := cell_of_row _ _ 1 _ _ _ z5; have fc1 : w5.frozen? ⟨w.heap.size + 1, 1, none⟩ = false := frozen_of_row _ _ 1 _ _ z5
          go_wp2
          refine bodyPost_ret (results_cell_tmp1 rfl _ _ (w.heap.size + 1) 24 #[.int .i64 (apR room l x.n sp), .slice A5 (apF room l x.n sp).length c5] (0, 0) _ rfl (set2 z5) Tryd.underlying24 rfl (by kernel_rfl)) rfl ?_
          refine ⟨_, by rw [HR.out.1, HR.out.2.2]; rfl, ?_, by (repeat (first | with_reducible exact Below.refl _ _ | with_reducible assumption | with_reducible refine bdraw ?_ | with_reducible refine bdrewN ?_ _ | with_reducible refine balloc ?_ _ | with_reducible refine bset ?_ (by simp <;> omega) | with_reducible refine bstep ?_ (by assumption) | with_reducible refine btrans ?_ (by assumption)))⟩
          rw [HR.out.2.1]
          exact (sfar (sfar s5 (by simp; omega)) (by simp; omega)).mono (fun b fr h _ => ⟨by have := h.1; (try simp only [World.size_alloc] at this); omega, h.2⟩)
        · have t1 : decide ((0 : Int) < (x.b.length : Int)) = true := decide_eq_true (by omega)
          have t3 : decide (0 < x.b.length) = true := decide_eq_true (by omega)
          by_cases hz1 : x.b.length + 8 + p.length ≤ 512
          · rw [if_pos (hJH.2 (.inr hz1)), if_pos (hJH.2 (.inr hz1)), if_pos (hJH.2 (.inr hz1))] at HR
            replace HR := Lib.hid HR
            have t2 : decide ((512 : Int) < (x.b.length : Int) + (p.length : Int) + 8) = false := decide_eq_false (by omega)
            clear hz0 hz1 hJH hsl h0
            go_wp2_with fail
            refine (HSe _ (by (repeat (first | with_reducible exact Below.refl _ _ | with_reducible assumption | with_reducible refine bdraw ?_ | with_reducible refine bdrewN ?_ _ | with_reducible refine balloc ?_ _ | with_reducible refine bset ?_ (by simp <;> omega) | with_reducible refine bstep ?_ (by assumption) | with_reducible refine btrans ?_ (by assumption))))).out.mono ?_
            rintro e w3 ⟨v3, rfl, o3, b3⟩
            obtain ⟨A3, c3, rfl, _⟩ := o3.slAny.shape
            have s3 := o3.slAny
            have q4 := blkb q3 (w' := w3) (by (repeat (first | with_reducible exact Below.refl _ _ | with_reducible assumption | with_reducible refine bdraw ?_ | with_reducible refine bdrewN ?_ _ | with_reducible refine balloc ?_ _ | with_reducible refine bset ?_ (by simp <;> omega) | with_reducible refine bstep ?_ (by assumption) | with_reducible refine btrans ?_ (by assumption))))
            have z4 := blkb z3 (w' := w3) (by (repeat (first | with_reducible exact Below.refl _ _ | with_reducible assumption | with_reducible refine bdraw ?_ | with_reducible refine bdrewN ?_ _ | with_reducible refine balloc ?_ _ | with_reducible refine bset ?_ (by simp <;> omega) | with_reducible refine bstep ?_ (by assumption) | with_reducible refine btrans ?_ (by assumption))))
            have e5 := blkb e4 (w' := w3) (by (repeat (first | with_reducible exact Below.refl _ _ | with_reducible assumption | with_reducible refine bdraw ?_ | with_reducible refine bdrewN ?_ _ | with_reducible refine balloc ?_ _ | with_reducible refine bset ?_ (by simp <;> omega) | with_reducible refine bstep ?_ (by assumption) | with_reducible refine btrans ?_ (by assumption))))
            have hz3 := b3.size
            simp only [World.size_alloc] at hz3
            clear xy0 xy1 fy0 fy1 xu0 xu1 xu2 fu0 fu1 fu2
            have xy0 : w3.cell? ⟨w.heap.size, 0, none⟩ = some (.int .i64 room) := cell_of_row _ _ 0 _ _ _ q4; have fy0 : w3.frozen? ⟨w.heap.size, 0, none⟩ = false := frozen_of_row _ _ 0 _ _ q4; have xy1 : w3.cell? ⟨w.heap.size, 1, none⟩ = some (.slice (some ⟨bb, off, none⟩) l.length cap) := cell_of_row _ _ 1 _ _ _ q4; have fy1 : w3.frozen? ⟨w.heap.size, 1, none⟩ = false := frozen_of_row _ _ 1 _ _ q4
            have xu0 : w3.cell? ⟨w1.heap.size, 0, none⟩ = some (.int .i64 x.n) := cell_of_row _ _ 0 _ _ _ e5; have fu0 : w3.frozen? ⟨w1.heap.size, 0, none⟩ = false := frozen_of_row _ _ 0 _ _ e5; have xu1 : w3.cell? ⟨w1.heap.size, 1, none⟩ = some (.slice Av x.b.length cv) := cell_of_row _ _ 1 _ _ _ e5; have fu1 : w3.frozen? ⟨w1.heap.size, 1, none⟩ = false := frozen_of_row _ _ 1 _ _ e5; have xu2 : w3.cell? ⟨w1.heap.size, 2, none⟩ = some (.int .i64 x.s) := cell_of_row _ _ 2 _ _ _ e5; have fu2 : w3.frozen? ⟨w1.heap.size, 2, none⟩ = false := frozen_of_row _ _ 2 _ _ e5
            go_wp2_with fail
            refine ((rappend_c (room := room) (n := x.n) (hp.below (by (repeat (first | with_reducible exact Below.refl _ _ | with_reducible assumption | with_reducible refine bdraw ?_ | with_reducible refine bdrewN ?_ _ | with_reducible refine balloc ?_ _ | with_reducible refine bset ?_ (by simp <;> omega) | with_reducible refine bstep ?_ (by assumption) | with_reducible refine btrans ?_ (by assumption)))) (Nat.le_refl _)) s3).mono fun _ _ h => (Appended.s h).s).mono ?_
            rintro e w5 ⟨A5, c5, rfl, s5, b5⟩
            have z5 := blkb z4 (w' := w5) (by (repeat (first | with_reducible exact Below.refl _ _ | with_reducible assumption | with_reducible refine bdraw ?_ | with_reducible refine bdrewN ?_ _ | with_reducible refine balloc ?_ _ | with_reducible refine bset ?_ (by simp <;> omega) | with_reducible refine bstep ?_ (by assumption) | with_reducible refine btrans ?_ (by assumption))))
            have xc0 : w5.cell? ⟨w.heap.size + 1, 0, none⟩ = some (.int .i64 0) := cell_of_row _ _ 0 _ _ _ z5; have fc0 : w5.frozen? ⟨w.heap.size + 1, 0, none⟩ = false := frozen_of_row _ _ 0 _ _ z5; have xc1 : w5.cell? ⟨w.heap.size + 1, 1, none⟩ = some (.slice none 0 0) := cell_of_row _ _ 1 _ _ _ z5; have fc1 : w5.frozen? ⟨w.heap.size + 1, 1, none⟩ = false := frozen_of_row _ _ 1 _ _ z5
            go_wp2
            refine bodyPost_ret (results_cell_tmp1 rfl _ _ (w.heap.size + 1) 24 #[.int .i64 (apR room l x.n sp), .slice A5 (apF room l x.n sp).length c5] (0, 0) _ rfl (set2 z5) Tryd.underlying24 rfl (by kernel_rfl)) rfl ?_
            refine ⟨_, by rw [HR.out.1, HR.out.2.2]; rfl, ?_, by (repeat (first | with_reducible exact Below.refl _ _ | with_reducible assumption | with_reducible refine bdraw ?_ | with_reducible refine bdrewN ?_ _ | with_reducible refine balloc ?_ _ | with_reducible refine bset ?_ (by simp <;> omega) | with_reducible refine bstep ?_ (by assumption) | with_reducible refine btrans ?_ (by assumption)))⟩
            rw [HR.out.2.1]
            exact (sfar (sfar s5 (by simp; omega)) (by simp; omega)).mono (fun b fr h _ => ⟨by have := h.1; (try simp only [World.size_alloc] at this); omega, h.2⟩)
          · have hno : ¬ jhere l p := fun h => by rcases hJH.1 h with h | h <;> omega
            rw [if_neg hno, if_neg hno, if_neg hno] at HR
            replace HR := Lib.hid HR
            have t2 : decide ((512 : Int) < (x.b.length : Int) + (p.length : Int) + 8) = true := decide_eq_true (by omega)
            clear hz0 hz1 hJH hsl h0 hno
            go_wp2_with fail
            refine ((rjstart_c (room := room) (hp.below (by (repeat (first | with_reducible exact Below.refl _ _ | with_reducible assumption | with_reducible refine bdraw ?_ | with_reducible refine bdrewN ?_ _ | with_reducible refine balloc ?_ _ | with_reducible refine bset ?_ (by simp <;> omega) | with_reducible refine bstep ?_ (by assumption) | with_reducible refine btrans ?_ (by assumption)))) (Nat.le_refl _)) (hq.below (by (repeat (first | with_reducible exact Below.refl _ _ | with_reducible assumption | with_reducible refine bdraw ?_ | with_reducible refine bdrewN ?_ _ | with_reducible refine balloc ?_ _ | with_reducible refine bset ?_ (by simp <;> omega) | with_reducible refine bstep ?_ (by assumption) | with_reducible refine btrans ?_ (by assumption)))) (Nat.le_refl _))).mono fun _ _ h => h.s).mono ?_
            rintro e w5 ⟨A5, c5, rfl, s5, b5⟩
            have z5 := blkb z3 (w' := w5) (by (repeat (first | with_reducible exact Below.refl _ _ | with_reducible assumption | with_reducible refine bdraw ?_ | with_reducible refine bdrewN ?_ _ | with_reducible refine balloc ?_ _ | with_reducible refine bset ?_ (by simp <;> omega) | with_reducible refine bstep ?_ (by assumption) | with_reducible refine btrans ?_ (by assumption))))
            have xc0 : w5.cell? ⟨w.heap.size + 1, 0, none⟩ = some (.int .i64 0) := cell_of_row _ _ 0 _ _ _ z5; have fc0 : w5.frozen? ⟨w.heap.size + 1, 0, none⟩ = false := frozen_of_row _ _ 0 _ _ z5; have xc1 : w5.cell? ⟨w.heap.size + 1, 1, none⟩ = some (.slice none 0 0) := cell_of_row _ _ 1 _ _ _ z5; have fc1 : w5.frozen? ⟨w.heap.size + 1, 1, none⟩ = false := frozen_of_row _ _ 1 _ _ z5
            go_wp2
            refine bodyPost_ret (results_cell_tmp1 rfl _ _ (w.heap.size + 1) 24 #[.int .i64 (jsR room l p), .slice A5 (jsF room l p).length c5] (0, 0) _ rfl (set2 z5) Tryd.underlying24 rfl (by kernel_rfl)) rfl ?_
            refine ⟨_, by rw [HR.out.1, HR.out.2.2]; rfl, ?_, by (repeat (first | with_reducible exact Below.refl _ _ | with_reducible assumption | with_reducible refine bdraw ?_ | with_reducible refine bdrewN ?_ _ | with_reducible refine balloc ?_ _ | with_reducible refine bset ?_ (by simp <;> omega) | with_reducible refine bstep ?_ (by assumption) | with_reducible refine btrans ?_ (by assumption)))⟩
            rw [HR.out.2.1]
            exact (sfar (sfar s5 (by simp; omega)) (by simp; omega)).mono (fun b fr h _ => ⟨by have := h.1; (try simp only [World.size_alloc] at this); omega, h.2⟩)
end Go.Proofs.YtbahiohlhhdkcaaDoor
