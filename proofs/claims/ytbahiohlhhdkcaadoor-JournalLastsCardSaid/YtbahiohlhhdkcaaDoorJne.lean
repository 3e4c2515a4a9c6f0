/- The journal: Append. -/
import Derived.Test.YtbahiohlhhdkcaaDoorJnd
set_option linter.unusedSimpArgs false
namespace Go.Proofs.YtbahiohlhhdkcaaDoor
open Go.RowKit

/-- the record goes behind the last segment's -/
def jhere (l : List Fi) (p : List UInt8) : Prop := ∃ f, l[l.length - 1]? = some f ∧ (f.b.length = 0 ∨ f.b.length + 8 + p.length ≤ 512)
instance (l : List Fi) (p : List UInt8) : Decidable (jhere l p) :=
  match h : l[l.length - 1]? with
  | some f => if g : f.b.length = 0 ∨ f.b.length + 8 + p.length ≤ 512 then .isTrue ⟨f, h, g⟩ else .isFalse (fun ⟨f', h1, h2⟩ => by rw [h] at h1; injection h1 with h1; subst h1; exact g h2)
  | none => .isFalse (fun ⟨f', h1, _⟩ => by rw [h] at h1; cases h1)
def jaE (room : Int) (l : List Fi) (p : List UInt8) : Int := if jok room l p then (if jhere l p then apE room l (lastD room l) (sealed p) else stE room l (sealed p)) else 1
def jaF (room : Int) (l : List Fi) (p : List UInt8) : List Fi := if jok room l p then (if jhere l p then apF room l (lastD room l) (sealed p) else stF room l (sealed p)) else []
def jaR (room : Int) (l : List Fi) (p : List UInt8) : Int := if jok room l p then (if jhere l p then apR room l (lastD room l) (sealed p) else stR room l (sealed p)) else 0
set_option maxHeartbeats 4000000 in
theorem jappend_c {S S' : Foot} {v u : Value} {room : Int} {l : List Fi} {p : List UInt8} {w : World} (hp : Sl fiE S w v l) (hq : Sl u8E S' w u p) (ht : Tab w) :
    Calls Tryd.prog 10 #[.agg #[.int .i64 room, v], u] w (AnsS (jaR room l p) (jaF room l p) (jaE room l p) w) := by
  have hp := hp.any
  have hq := hq.any
  obtain ⟨A, cap, rfl, hc1, hc2, _⟩ := hp.shape
  obtain ⟨Ab, cb, rfl, _⟩ := hq.shape
  unfold maxLen at hc2
  have q0 : ((w.alloc (.cells #[.int .i64 room, .slice A l.length cap] 24)).alloc (.cells #[.int .i64 0, .slice none 0 0] 24)).heap[w.heap.size]? = some (.cells #[.int .i64 room, .slice A l.length cap] 24 (0, 0)) := heap_alloc2_old _ _ _
  have q1 : ((w.alloc (.cells #[.int .i64 room, .slice A l.length cap] 24)).alloc (.cells #[.int .i64 0, .slice none 0 0] 24)).heap[w.heap.size + 1]? = some (.cells #[.int .i64 0, .slice none 0 0] 24 (0, 0)) := by
    have := heap_alloc_new (w.alloc (.cells #[.int .i64 room, .slice A l.length cap] 24)) (.cells #[.int .i64 0, .slice none 0 0] 24)
    rwa [World.size_alloc] at this
  have HSe := fun (w' : World) (bb : Below w.heap.size w w') => Lib.hid (seal_c (w := w') (hq.below (by (repeat (first | with_reducible exact Below.refl _ _ | with_reducible assumption | with_reducible refine bdraw ?_ | with_reducible refine bdrewN ?_ _ | with_reducible refine balloc ?_ _ | with_reducible refine bset ?_ (by simp <;> omega) | with_reducible refine bstep ?_ (by assumption) | with_reducible refine btrans ?_ (by assumption)))) (Nat.le_refl _)) (ht.below bb (Nat.le_refl _)))
  have HF := fun (w' : World) (bb : Below w.heap.size w w') => Lib.hid (formed_c (room := room) (w := w') (hp.below (by (repeat (first | with_reducible exact Below.refl _ _ | with_reducible assumption | with_reducible refine bdraw ?_ | with_reducible refine bdrewN ?_ _ | with_reducible refine balloc ?_ _ | with_reducible refine bset ?_ (by simp <;> omega) | with_reducible refine bstep ?_ (by assumption) | with_reducible refine btrans ?_ (by assumption)))) (Nat.le_refl _)))
  by_cases hlen : p.length ≤ 1048576
  rotate_left
  · have HR : Hid (jaE room l p = 1 ∧ jaF room l p = [] ∧ jaR room l p = 0) := Lib.hid (by simp [jaE, jaF, jaR, jok, hlen])
    have e1 : sealE p = 1 := by unfold sealE; rw [if_pos (by omega)]
    rw [e1] at HSe
    generalize sealB p = sp at *
    clear e1 hlen ht
    go_enter Tryd.func10, Tryd.ntmps10
    go_wp2_with fail
    refine (HSe _ (by (repeat (first | with_reducible exact Below.refl _ _ | with_reducible assumption | with_reducible refine bdraw ?_ | with_reducible refine bdrewN ?_ _ | with_reducible refine balloc ?_ _ | with_reducible refine bset ?_ (by simp <;> omega) | with_reducible refine bstep ?_ (by assumption) | with_reducible refine btrans ?_ (by assumption))))).out.mono ?_
    rintro e w1 ⟨v1, rfl, o1, b1⟩
    have z2 := blkb q1 (w' := w1) (by (repeat (first | with_reducible exact Below.refl _ _ | with_reducible assumption | with_reducible refine bdraw ?_ | with_reducible refine bdrewN ?_ _ | with_reducible refine balloc ?_ _ | with_reducible refine bset ?_ (by simp <;> omega) | with_reducible refine bstep ?_ (by assumption) | with_reducible refine btrans ?_ (by assumption))))
    have xc0 : w1.cell? ⟨w.heap.size + 1, 0, none⟩ = some (.int .i64 0) := cell_of_row _ _ 0 _ _ _ z2; have fc0 : w1.frozen? ⟨w.heap.size + 1, 0, none⟩ = false := frozen_of_row _ _ 0 _ _ z2; have xc1 : w1.cell? ⟨w.heap.size + 1, 1, none⟩ = some (.slice none 0 0) := cell_of_row _ _ 1 _ _ _ z2; have fc1 : w1.frozen? ⟨w.heap.size + 1, 1, none⟩ = false := frozen_of_row _ _ 1 _ _ z2
    go_wp2
    refine bodyPost_ret (results_cell_tmp1 rfl _ _ (w.heap.size + 1) 24 #[.int .i64 0, .slice none 0 0] (0, 0) _ rfl (set2 z2) Tryd.underlying24 rfl (by kernel_rfl)) rfl ?_
    exact ⟨_, by rw [HR.out.1, HR.out.2.2]; rfl, by rw [HR.out.2.1]; exact Sl.nil, by (repeat (first | with_reducible exact Below.refl _ _ | with_reducible assumption | with_reducible refine bdraw ?_ | with_reducible refine bdrewN ?_ _ | with_reducible refine balloc ?_ _ | with_reducible refine bset ?_ (by simp <;> omega) | with_reducible refine bstep ?_ (by assumption) | with_reducible refine btrans ?_ (by assumption)))⟩
  · have e1 : sealE p = 0 := by unfold sealE; rw [if_neg (by omega)]
    have e2 : sealB p = sealed p := by unfold sealB; rw [if_neg (by omega)]
    rw [e1, e2] at HSe
    cases hE : formedD room l
    · have HR : Hid (jaE room l p = 1 ∧ jaF room l p = [] ∧ jaR room l p = 0) := Lib.hid (by simp [jaE, jaF, jaR, jok, hE])
      rw [hE] at HF
      generalize sealed p = sp at *
      clear e1 e2 hlen ht hE
      go_enter Tryd.func10, Tryd.ntmps10
      go_wp2_with fail
      refine (HSe _ (by (repeat (first | with_reducible exact Below.refl _ _ | with_reducible assumption | with_reducible refine bdraw ?_ | with_reducible refine bdrewN ?_ _ | with_reducible refine balloc ?_ _ | with_reducible refine bset ?_ (by simp <;> omega) | with_reducible refine bstep ?_ (by assumption) | with_reducible refine btrans ?_ (by assumption))))).out.mono ?_
      rintro e w1 ⟨v1, rfl, o1, b1⟩
      have q2 := blkb q0 (w' := w1) (by (repeat (first | with_reducible exact Below.refl _ _ | with_reducible assumption | with_reducible refine bdraw ?_ | with_reducible refine bdrewN ?_ _ | with_reducible refine balloc ?_ _ | with_reducible refine bset ?_ (by simp <;> omega) | with_reducible refine bstep ?_ (by assumption) | with_reducible refine btrans ?_ (by assumption))))
      have z2 := blkb q1 (w' := w1) (by (repeat (first | with_reducible exact Below.refl _ _ | with_reducible assumption | with_reducible refine bdraw ?_ | with_reducible refine bdrewN ?_ _ | with_reducible refine balloc ?_ _ | with_reducible refine bset ?_ (by simp <;> omega) | with_reducible refine bstep ?_ (by assumption) | with_reducible refine btrans ?_ (by assumption))))
      have xa0 : w1.cell? ⟨w.heap.size, 0, none⟩ = some (.int .i64 room) := cell_of_row _ _ 0 _ _ _ q2; have fa0 : w1.frozen? ⟨w.heap.size, 0, none⟩ = false := frozen_of_row _ _ 0 _ _ q2; have xa1 : w1.cell? ⟨w.heap.size, 1, none⟩ = some (.slice A l.length cap) := cell_of_row _ _ 1 _ _ _ q2; have fa1 : w1.frozen? ⟨w.heap.size, 1, none⟩ = false := frozen_of_row _ _ 1 _ _ q2
      go_wp2_with fail
      refine (HF _ (by (repeat (first | with_reducible exact Below.refl _ _ | with_reducible assumption | with_reducible refine bdraw ?_ | with_reducible refine bdrewN ?_ _ | with_reducible refine balloc ?_ _ | with_reducible refine bset ?_ (by simp <;> omega) | with_reducible refine bstep ?_ (by assumption) | with_reducible refine btrans ?_ (by assumption))))).out.mono ?_
      rintro e w2 ⟨rfl, b2⟩
      have z3 := blkb z2 (w' := w2) (by (repeat (first | with_reducible exact Below.refl _ _ | with_reducible assumption | with_reducible refine bdraw ?_ | with_reducible refine bdrewN ?_ _ | with_reducible refine balloc ?_ _ | with_reducible refine bset ?_ (by simp <;> omega) | with_reducible refine bstep ?_ (by assumption) | with_reducible refine btrans ?_ (by assumption))))
      have xc0 : w2.cell? ⟨w.heap.size + 1, 0, none⟩ = some (.int .i64 0) := cell_of_row _ _ 0 _ _ _ z3; have fc0 : w2.frozen? ⟨w.heap.size + 1, 0, none⟩ = false := frozen_of_row _ _ 0 _ _ z3; have xc1 : w2.cell? ⟨w.heap.size + 1, 1, none⟩ = some (.slice none 0 0) := cell_of_row _ _ 1 _ _ _ z3; have fc1 : w2.frozen? ⟨w.heap.size + 1, 1, none⟩ = false := frozen_of_row _ _ 1 _ _ z3
      go_wp2
      refine bodyPost_ret (results_cell_tmp1 rfl _ _ (w.heap.size + 1) 24 #[.int .i64 0, .slice none 0 0] (0, 0) _ rfl (set2 z3) Tryd.underlying24 rfl (by kernel_rfl)) rfl ?_
      exact ⟨_, by rw [HR.out.1, HR.out.2.2]; rfl, by rw [HR.out.2.1]; exact Sl.nil, by (repeat (first | with_reducible exact Below.refl _ _ | with_reducible assumption | with_reducible refine bdraw ?_ | with_reducible refine bdrewN ?_ _ | with_reducible refine balloc ?_ _ | with_reducible refine bset ?_ (by simp <;> omega) | with_reducible refine bstep ?_ (by assumption) | with_reducible refine btrans ?_ (by assumption)))⟩
    · have HE := Lib.hid hE
      have hjk : jok room l p := ⟨hE, hlen⟩
      have HJ : Hid (jaE room l p = (if jhere l p then apE room l (lastD room l) (sealed p) else stE room l (sealed p)) ∧ jaF room l p = (if jhere l p then apF room l (lastD room l) (sealed p) else stF room l (sealed p)) ∧ jaR room l p = (if jhere l p then apR room l (lastD room l) (sealed p) else stR room l (sealed p))) := Lib.hid (by unfold jaE jaF jaR; rw [if_pos hjk, if_pos hjk, if_pos hjk]; exact ⟨rfl, rfl, rfl⟩)
      have hsl := Lib.hid (sealed_length p)
      rw [hE] at HF
      generalize sealed p = sp at *
      clear e1 e2 ht hE hjk
      go_enter Tryd.func10, Tryd.ntmps10
      go_wp2_with fail
      refine (HSe _ (by (repeat (first | with_reducible exact Below.refl _ _ | with_reducible assumption | with_reducible refine bdraw ?_ | with_reducible refine bdrewN ?_ _ | with_reducible refine balloc ?_ _ | with_reducible refine bset ?_ (by simp <;> omega) | with_reducible refine bstep ?_ (by assumption) | with_reducible refine btrans ?_ (by assumption))))).out.mono ?_
      rintro e w1 ⟨v1, rfl, o1, b1⟩
      obtain ⟨A1, c1, rfl, _⟩ := o1.slAny.shape
      have s1 := o1.slAny
      have q2 := blkb q0 (w' := w1) (by (repeat (first | with_reducible exact Below.refl _ _ | with_reducible assumption | with_reducible refine bdraw ?_ | with_reducible refine bdrewN ?_ _ | with_reducible refine balloc ?_ _ | with_reducible refine bset ?_ (by simp <;> omega) | with_reducible refine bstep ?_ (by assumption) | with_reducible refine btrans ?_ (by assumption))))
      have z2 := blkb q1 (w' := w1) (by (repeat (first | with_reducible exact Below.refl _ _ | with_reducible assumption | with_reducible refine bdraw ?_ | with_reducible refine bdrewN ?_ _ | with_reducible refine balloc ?_ _ | with_reducible refine bset ?_ (by simp <;> omega) | with_reducible refine bstep ?_ (by assumption) | with_reducible refine btrans ?_ (by assumption))))
      have xa0 : w1.cell? ⟨w.heap.size, 0, none⟩ = some (.int .i64 room) := cell_of_row _ _ 0 _ _ _ q2; have fa0 : w1.frozen? ⟨w.heap.size, 0, none⟩ = false := frozen_of_row _ _ 0 _ _ q2; have xa1 : w1.cell? ⟨w.heap.size, 1, none⟩ = some (.slice A l.length cap) := cell_of_row _ _ 1 _ _ _ q2; have fa1 : w1.frozen? ⟨w.heap.size, 1, none⟩ = false := frozen_of_row _ _ 1 _ _ q2
      go_wp2_with fail
      refine (HF _ (by (repeat (first | with_reducible exact Below.refl _ _ | with_reducible assumption | with_reducible refine bdraw ?_ | with_reducible refine bdrewN ?_ _ | with_reducible refine balloc ?_ _ | with_reducible refine bset ?_ (by simp <;> omega) | with_reducible refine bstep ?_ (by assumption) | with_reducible refine btrans ?_ (by assumption))))).out.mono ?_
      rintro e w2 ⟨rfl, b2⟩
      have q3 := blkb q2 (w' := w2) (by (repeat (first | with_reducible exact Below.refl _ _ | with_reducible assumption | with_reducible refine bdraw ?_ | with_reducible refine bdrewN ?_ _ | with_reducible refine balloc ?_ _ | with_reducible refine bset ?_ (by simp <;> omega) | with_reducible refine bstep ?_ (by assumption) | with_reducible refine btrans ?_ (by assumption))))
      have z3 := blkb z2 (w' := w2) (by (repeat (first | with_reducible exact Below.refl _ _ | with_reducible assumption | with_reducible refine bdraw ?_ | with_reducible refine bdrewN ?_ _ | with_reducible refine balloc ?_ _ | with_reducible refine bset ?_ (by simp <;> omega) | with_reducible refine bstep ?_ (by assumption) | with_reducible refine btrans ?_ (by assumption))))
      have xb0 : w2.cell? ⟨w.heap.size, 0, none⟩ = some (.int .i64 room) := cell_of_row _ _ 0 _ _ _ q3; have fb0 : w2.frozen? ⟨w.heap.size, 0, none⟩ = false := frozen_of_row _ _ 0 _ _ q3; have xb1 : w2.cell? ⟨w.heap.size, 1, none⟩ = some (.slice A l.length cap) := cell_of_row _ _ 1 _ _ _ q3; have fb1 : w2.frozen? ⟨w.heap.size, 1, none⟩ = false := frozen_of_row _ _ 1 _ _ q3
      have bw2 : Below w.heap.size w w2 := by (repeat (first | with_reducible exact Below.refl _ _ | with_reducible assumption | with_reducible refine bdraw ?_ | with_reducible refine bdrewN ?_ _ | with_reducible refine balloc ?_ _ | with_reducible refine bset ?_ (by simp <;> omega) | with_reducible refine bstep ?_ (by assumption) | with_reducible refine btrans ?_ (by assumption)))
      have hz : w.heap.size + 2 ≤ w2.heap.size := by have := b1.size; have := b2.size; simp at *; omega
      by_cases h0 : l.length = 0
      · have hno : ¬ jhere l p := fun ⟨f, h, _⟩ => by have := (List.getElem?_eq_some_iff.1 h).1; omega
        have HR := HJ.out
        rw [if_neg hno, if_neg hno, if_neg hno] at HR
        replace HR := Lib.hid HR
        have d0 : decide ((0 : Int) < (l.length : Int)) = false := decide_eq_false (by omega)
        have d1 : decide (0 < l.length) = false := decide_eq_false (by omega)
        clear h0 hno HJ
        go_wp2_with fail
        refine ((start_c (room := room) (hp.below (by (repeat (first | with_reducible exact Below.refl _ _ | with_reducible assumption | with_reducible refine bdraw ?_ | with_reducible refine bdrewN ?_ _ | with_reducible refine balloc ?_ _ | with_reducible refine bset ?_ (by simp <;> omega) | with_reducible refine bstep ?_ (by assumption) | with_reducible refine btrans ?_ (by assumption)))) (Nat.le_refl _)) (s1.below (by (repeat (first | with_reducible exact Below.refl _ _ | with_reducible assumption | with_reducible refine bdraw ?_ | with_reducible refine bdrewN ?_ _ | with_reducible refine balloc ?_ _ | with_reducible refine bset ?_ (by simp <;> omega) | with_reducible refine bstep ?_ (by assumption) | with_reducible refine btrans ?_ (by assumption)))) (Nat.le_refl _)) HE.out).mono fun _ _ h => h.s).mono ?_
        rintro e w3 ⟨A3, c3, rfl, s3, b3⟩
        have z4 := blkb z3 (w' := w3) (by (repeat (first | with_reducible exact Below.refl _ _ | with_reducible assumption | with_reducible refine bdraw ?_ | with_reducible refine bdrewN ?_ _ | with_reducible refine balloc ?_ _ | with_reducible refine bset ?_ (by simp <;> omega) | with_reducible refine bstep ?_ (by assumption) | with_reducible refine btrans ?_ (by assumption))))
        have xc0 : w3.cell? ⟨w.heap.size + 1, 0, none⟩ = some (.int .i64 0) := cell_of_row _ _ 0 _ _ _ z4; have fc0 : w3.frozen? ⟨w.heap.size + 1, 0, none⟩ = false := frozen_of_row _ _ 0 _ _ z4; have xc1 : w3.cell? ⟨w.heap.size + 1, 1, none⟩ = some (.slice none 0 0) := cell_of_row _ _ 1 _ _ _ z4; have fc1 : w3.frozen? ⟨w.heap.size + 1, 1, none⟩ = false := frozen_of_row _ _ 1 _ _ z4
        go_wp2
        refine bodyPost_ret (results_cell_tmp1 rfl _ _ (w.heap.size + 1) 24 #[.int .i64 (stR room l sp), .slice A3 (stF room l sp).length c3] (0, 0) _ rfl (set2 z4) Tryd.underlying24 rfl (by kernel_rfl)) rfl ?_
        refine ⟨_, by rw [HR.out.1, HR.out.2.2]; rfl, ?_, by (repeat (first | with_reducible exact Below.refl _ _ | with_reducible assumption | with_reducible refine bdraw ?_ | with_reducible refine bdrewN ?_ _ | with_reducible refine balloc ?_ _ | with_reducible refine bset ?_ (by simp <;> omega) | with_reducible refine bstep ?_ (by assumption) | with_reducible refine btrans ?_ (by assumption)))⟩
        rw [HR.out.2.1]
        exact (sfar (sfar s3 (by simp; omega)) (by simp; omega)).mono (fun b fr h _ => ⟨by have := h.1; omega, h.2⟩)
      · have hlt : l.length - 1 < l.length := by omega
        have hLD := lastD_ok HE.out hlt
        have hsz := formedD_size HE.out
        have hmem := sizeD_mem (fs := l) (f := l[l.length - 1]) (List.getElem_mem hlt)
        have hget : l[l.length - 1]? = some l[l.length - 1] := List.getElem?_eq_getElem hlt
        have hJH : jhere l p ↔ (l[l.length - 1].b.length = 0 ∨ l[l.length - 1].b.length + sp.length ≤ 512) := by
          rw [hsl.out]
          constructor
          · rintro ⟨f, h1, h2⟩
            rw [hget] at h1; injection h1 with h1; subst h1; omega
          · intro h; exact ⟨_, hget, by omega⟩
        have hspl : sp.length ≤ 1048584 := by rw [hsl.out]; omega
        have d0 : decide ((0 : Int) < (l.length : Int)) = true := decide_eq_true (by omega)
        have d1 : decide (0 < l.length) = true := decide_eq_true (by omega)
        have hwl : IntKind.i64.wrap ((l.length : Int) - 1) = ((l.length - 1 : Nat) : Int) := by rw [IntWalk.i64_in _ (by omega)]; omega
        have hl0 : (0 : Int) ≤ ((l.length - 1 : Nat) : Int) := by omega
        have hl1 : ((l.length - 1 : Nat) : Int) < (l.length : Int) := by omega
        have HR := HJ.out
        rw [hLD] at HR
        have hbl : l[l.length - 1].b.length ≤ 16777216 := by omega
        obtain ⟨bb, off, Av, cv, rfl, k0, k1, k2, hv⟩ := (hp.below (w' := w2) (by (repeat (first | with_reducible exact Below.refl _ _ | with_reducible assumption | with_reducible refine bdraw ?_ | with_reducible refine bdrewN ?_ _ | with_reducible refine balloc ?_ _ | with_reducible refine bset ?_ (by simp <;> omega) | with_reducible refine bstep ?_ (by assumption) | with_reducible refine btrans ?_ (by assumption)))) (Nat.le_refl _)).fi hlt
        clear HJ hLD hsz hmem hget
        generalize l[l.length - 1] = x at *
        obtain ⟨_, _, e, hcv1, hcv2, _⟩ := hv.shape
        injection e with e1 e0 e2
        subst e1 e2
        clear e0
        unfold maxLen at hcv2
        have d2 := k0.cell
        have d3 := k1.cell
        have d4 := k2.cell
        clear k0 k1 k2
        have hws : IntKind.i64.wrap ((x.b.length : Int) + (sp.length : Int)) = (x.b.length : Int) + (sp.length : Int) := IntWalk.i64_in _ (by omega)
        have z4 := blkb z3 (w' := (w2.alloc (.cells #[.int .i64 x.n, .slice Av x.b.length cv, .int .i64 x.s] 50))) (by (repeat (first | with_reducible exact Below.refl _ _ | with_reducible assumption | with_reducible refine bdraw ?_ | with_reducible refine bdrewN ?_ _ | with_reducible refine balloc ?_ _ | with_reducible refine bset ?_ (by simp <;> omega) | with_reducible refine bstep ?_ (by assumption) | with_reducible refine btrans ?_ (by assumption))))
        have e4 := heap_alloc_new w2 (.cells #[.int .i64 x.n, .slice Av x.b.length cv, .int .i64 x.s] 50)
        have q4 := blkb q3 (w' := (w2.alloc (.cells #[.int .i64 x.n, .slice Av x.b.length cv, .int .i64 x.s] 50))) (by (repeat (first | with_reducible exact Below.refl _ _ | with_reducible assumption | with_reducible refine bdraw ?_ | with_reducible refine bdrewN ?_ _ | with_reducible refine balloc ?_ _ | with_reducible refine bset ?_ (by simp <;> omega) | with_reducible refine bstep ?_ (by assumption) | with_reducible refine btrans ?_ (by assumption))))
        have xy0 : (w2.alloc (.cells #[.int .i64 x.n, .slice Av x.b.length cv, .int .i64 x.s] 50)).cell? ⟨w.heap.size, 0, none⟩ = some (.int .i64 room) := cell_of_row _ _ 0 _ _ _ q4; have fy0 : (w2.alloc (.cells #[.int .i64 x.n, .slice Av x.b.length cv, .int .i64 x.s] 50)).frozen? ⟨w.heap.size, 0, none⟩ = false := frozen_of_row _ _ 0 _ _ q4; have xy1 : (w2.alloc (.cells #[.int .i64 x.n, .slice Av x.b.length cv, .int .i64 x.s] 50)).cell? ⟨w.heap.size, 1, none⟩ = some (.slice (some ⟨bb, off, none⟩) l.length cap) := cell_of_row _ _ 1 _ _ _ q4; have fy1 : (w2.alloc (.cells #[.int .i64 x.n, .slice Av x.b.length cv, .int .i64 x.s] 50)).frozen? ⟨w.heap.size, 1, none⟩ = false := frozen_of_row _ _ 1 _ _ q4
        have xu0 : (w2.alloc (.cells #[.int .i64 x.n, .slice Av x.b.length cv, .int .i64 x.s] 50)).cell? ⟨w2.heap.size, 0, none⟩ = some (.int .i64 x.n) := cell_of_row _ _ 0 _ _ _ e4; have fu0 : (w2.alloc (.cells #[.int .i64 x.n, .slice Av x.b.length cv, .int .i64 x.s] 50)).frozen? ⟨w2.heap.size, 0, none⟩ = false := frozen_of_row _ _ 0 _ _ e4; have xu1 : (w2.alloc (.cells #[.int .i64 x.n, .slice Av x.b.length cv, .int .i64 x.s] 50)).cell? ⟨w2.heap.size, 1, none⟩ = some (.slice Av x.b.length cv) := cell_of_row _ _ 1 _ _ _ e4; have fu1 : (w2.alloc (.cells #[.int .i64 x.n, .slice Av x.b.length cv, .int .i64 x.s] 50)).frozen? ⟨w2.heap.size, 1, none⟩ = false := frozen_of_row _ _ 1 _ _ e4; have xu2 : (w2.alloc (.cells #[.int .i64 x.n, .slice Av x.b.length cv, .int .i64 x.s] 50)).cell? ⟨w2.heap.size, 2, none⟩ = some (.int .i64 x.s) := cell_of_row _ _ 2 _ _ _ e4; have fu2 : (w2.alloc (.cells #[.int .i64 x.n, .slice Av x.b.length cv, .int .i64 x.s] 50)).frozen? ⟨w2.heap.size, 2, none⟩ = false := frozen_of_row _ _ 2 _ _ e4
        by_cases hz0 : x.b.length = 0
        · rw [if_pos (hJH.2 (.inl hz0)), if_pos (hJH.2 (.inl hz0)), if_pos (hJH.2 (.inl hz0))] at HR
          replace HR := Lib.hid HR
          have t1 : ((x.b.length : Int) == 0) = true := by rw [hz0]; rfl
          clear hz0 hJH hsl h0
          go_wp2_with fail
          refine ((append_c (room := room) (n := x.n) (hp.below (by (repeat (first | with_reducible exact Below.refl _ _ | with_reducible assumption | with_reducible refine bdraw ?_ | with_reducible refine bdrewN ?_ _ | with_reducible refine balloc ?_ _ | with_reducible refine bset ?_ (by simp <;> omega) | with_reducible refine bstep ?_ (by assumption) | with_reducible refine btrans ?_ (by assumption)))) (Nat.le_refl _)) (s1.below (by (repeat (first | with_reducible exact Below.refl _ _ | with_reducible assumption | with_reducible refine bdraw ?_ | with_reducible refine bdrewN ?_ _ | with_reducible refine balloc ?_ _ | with_reducible refine bset ?_ (by simp <;> omega) | with_reducible refine bstep ?_ (by assumption) | with_reducible refine btrans ?_ (by assumption)))) (Nat.le_refl _))).mono fun _ _ h => (Appended.s h).s).mono ?_
          rintro e w3 ⟨A3, c3, rfl, s3, b3⟩
          have z5 := blkb z4 (w' := w3) (by (repeat (first | with_reducible exact Below.refl _ _ | with_reducible assumption | with_reducible refine bdraw ?_ | with_reducible refine bdrewN ?_ _ | with_reducible refine balloc ?_ _ | with_reducible refine bset ?_ (by simp <;> omega) | with_reducible refine bstep ?_ (by assumption) | with_reducible refine btrans ?_ (by assumption))))
          have xc0 : w3.cell? ⟨w.heap.size + 1, 0, none⟩ = some (.int .i64 0) := cell_of_row _ _ 0 _ _ _ z5; have fc0 : w3.frozen? ⟨w.heap.size + 1, 0, none⟩ = false := frozen_of_row _ _ 0 _ _ z5; have xc1 : w3.cell? ⟨w.heap.size + 1, 1, none⟩ = some (.slice none 0 0) := cell_of_row _ _ 1 _ _ _ z5; have fc1 : w3.frozen? ⟨w.heap.size + 1, 1, none⟩ = false := frozen_of_row _ _ 1 _ _ z5
          go_wp2
          refine bodyPost_ret (results_cell_tmp1 rfl _ _ (w.heap.size + 1) 24 #[.int .i64 (apR room l x.n sp), .slice A3 (apF room l x.n sp).length c3] (0, 0) _ rfl (set2 z5) Tryd.underlying24 rfl (by kernel_rfl)) rfl ?_
          refine ⟨_, by rw [HR.out.1, HR.out.2.2]; rfl, ?_, by (repeat (first | with_reducible exact Below.refl _ _ | with_reducible assumption | with_reducible refine bdraw ?_ | with_reducible refine bdrewN ?_ _ | with_reducible refine balloc ?_ _ | with_reducible refine bset ?_ (by simp <;> omega) | with_reducible refine bstep ?_ (by assumption) | with_reducible refine btrans ?_ (by assumption)))⟩
          rw [HR.out.2.1]
          exact (sfar (sfar s3 (by simp; omega)) (by simp; omega)).mono (fun b fr h _ => ⟨by have := h.1; simp at this; omega, h.2⟩)
        · have t1 : ((x.b.length : Int) == 0) = false := by rw [beq_eq_false_iff_ne]; omega
          by_cases hz1 : x.b.length + sp.length ≤ 512
          · rw [if_pos (hJH.2 (.inr hz1)), if_pos (hJH.2 (.inr hz1)), if_pos (hJH.2 (.inr hz1))] at HR
            replace HR := Lib.hid HR
            have t2 : decide ((x.b.length : Int) + (sp.length : Int) ≤ 512) = true := decide_eq_true (by omega)
            clear hz0 hz1 hJH hsl h0
            go_wp2_with fail
            refine ((append_c (room := room) (n := x.n) (hp.below (by (repeat (first | with_reducible exact Below.refl _ _ | with_reducible assumption | with_reducible refine bdraw ?_ | with_reducible refine bdrewN ?_ _ | with_reducible refine balloc ?_ _ | with_reducible refine bset ?_ (by simp <;> omega) | with_reducible refine bstep ?_ (by assumption) | with_reducible refine btrans ?_ (by assumption)))) (Nat.le_refl _)) (s1.below (by (repeat (first | with_reducible exact Below.refl _ _ | with_reducible assumption | with_reducible refine bdraw ?_ | with_reducible refine bdrewN ?_ _ | with_reducible refine balloc ?_ _ | with_reducible refine bset ?_ (by simp <;> omega) | with_reducible refine bstep ?_ (by assumption) | with_reducible refine btrans ?_ (by assumption)))) (Nat.le_refl _))).mono fun _ _ h => (Appended.s h).s).mono ?_
            rintro e w3 ⟨A3, c3, rfl, s3, b3⟩
            have z5 := blkb z4 (w' := w3) (by (repeat (first | with_reducible exact Below.refl _ _ | with_reducible assumption | with_reducible refine bdraw ?_ | with_reducible refine bdrewN ?_ _ | with_reducible refine balloc ?_ _ | with_reducible refine bset ?_ (by simp <;> omega) | with_reducible refine bstep ?_ (by assumption) | with_reducible refine btrans ?_ (by assumption))))
            have xc0 : w3.cell? ⟨w.heap.size + 1, 0, none⟩ = some (.int .i64 0) := cell_of_row _ _ 0 _ _ _ z5; have fc0 : w3.frozen? ⟨w.heap.size + 1, 0, none⟩ = false := frozen_of_row _ _ 0 _ _ z5; have xc1 : w3.cell? ⟨w.heap.size + 1, 1, none⟩ = some (.slice none 0 0) := cell_of_row _ _ 1 _ _ _ z5; have fc1 : w3.frozen? ⟨w.heap.size + 1, 1, none⟩ = false := frozen_of_row _ _ 1 _ _ z5
            go_wp2
            refine bodyPost_ret (results_cell_tmp1 rfl _ _ (w.heap.size + 1) 24 #[.int .i64 (apR room l x.n sp), .slice A3 (apF room l x.n sp).length c3] (0, 0) _ rfl (set2 z5) Tryd.underlying24 rfl (by kernel_rfl)) rfl ?_
            refine ⟨_, by rw [HR.out.1, HR.out.2.2]; rfl, ?_, by (repeat (first | with_reducible exact Below.refl _ _ | with_reducible assumption | with_reducible refine bdraw ?_ | with_reducible refine bdrewN ?_ _ | with_reducible refine balloc ?_ _ | with_reducible refine bset ?_ (by simp <;> omega) | with_reducible refine bstep ?_ (by assumption) | with_reducible refine btrans ?_ (by assumption)))⟩
            rw [HR.out.2.1]
            exact (sfar (sfar s3 (by simp; omega)) (by simp; omega)).mono (fun b fr h _ => ⟨by have := h.1; simp at this; omega, h.2⟩)
          · have hno : ¬ jhere l p := fun h => by rcases hJH.1 h with h | h <;> omega
            rw [if_neg hno, if_neg hno, if_neg hno] at HR
            replace HR := Lib.hid HR
            have t2 : decide ((x.b.length : Int) + (sp.length : Int) ≤ 512) = false := decide_eq_false (by omega)
            clear hz0 hz1 hJH hsl h0 hno
            go_wp2_with fail
            refine ((start_c (room := room) (hp.below (by (repeat (first | with_reducible exact Below.refl _ _ | with_reducible assumption | with_reducible refine bdraw ?_ | with_reducible refine bdrewN ?_ _ | with_reducible refine balloc ?_ _ | with_reducible refine bset ?_ (by simp <;> omega) | with_reducible refine bstep ?_ (by assumption) | with_reducible refine btrans ?_ (by assumption)))) (Nat.le_refl _)) (s1.below (by (repeat (first | with_reducible exact Below.refl _ _ | with_reducible assumption | with_reducible refine bdraw ?_ | with_reducible refine bdrewN ?_ _ | with_reducible refine balloc ?_ _ | with_reducible refine bset ?_ (by simp <;> omega) | with_reducible refine bstep ?_ (by assumption) | with_reducible refine btrans ?_ (by assumption)))) (Nat.le_refl _)) HE.out).mono fun _ _ h => h.s).mono ?_
            rintro e w3 ⟨A3, c3, rfl, s3, b3⟩
            have z5 := blkb z4 (w' := w3) (by (repeat (first | with_reducible exact Below.refl _ _ | with_reducible assumption | with_reducible refine bdraw ?_ | with_reducible refine bdrewN ?_ _ | with_reducible refine balloc ?_ _ | with_reducible refine bset ?_ (by simp <;> omega) | with_reducible refine bstep ?_ (by assumption) | with_reducible refine btrans ?_ (by assumption))))
            have xc0 : w3.cell? ⟨w.heap.size + 1, 0, none⟩ = some (.int .i64 0) := cell_of_row _ _ 0 _ _ _ z5; have fc0 : w3.frozen? ⟨w.heap.size + 1, 0, none⟩ = false := frozen_of_row _ _ 0 _ _ z5; have xc1 : w3.cell? ⟨w.heap.size + 1, 1, none⟩ = some (.slice none 0 0) := cell_of_row _ _ 1 _ _ _ z5; have fc1 : w3.frozen? ⟨w.heap.size + 1, 1, none⟩ = false := frozen_of_row _ _ 1 _ _ z5
            go_wp2
            refine bodyPost_ret (results_cell_tmp1 rfl _ _ (w.heap.size + 1) 24 #[.int .i64 (stR room l sp), .slice A3 (stF room l sp).length c3] (0, 0) _ rfl (set2 z5) Tryd.underlying24 rfl (by kernel_rfl)) rfl ?_
            refine ⟨_, by rw [HR.out.1, HR.out.2.2]; rfl, ?_, by (repeat (first | with_reducible exact Below.refl _ _ | with_reducible assumption | with_reducible refine bdraw ?_ | with_reducible refine bdrewN ?_ _ | with_reducible refine balloc ?_ _ | with_reducible refine bset ?_ (by simp <;> omega) | with_reducible refine bstep ?_ (by assumption) | with_reducible refine btrans ?_ (by assumption)))⟩
            rw [HR.out.2.1]
            exact (sfar (sfar s3 (by simp; omega)) (by simp; omega)).mono (fun b fr h _ => ⟨by have := h.1; simp at this; omega, h.2⟩)
end Go.Proofs.YtbahiohlhhdkcaaDoor
