/- Disks: Get, in both texts. -/
import Derived.Test.YtnblnlbchcepjaaDkn
set_option linter.unusedSimpArgs false
namespace Go.Proofs.Ytnblnlbchcepjaa
open Go.RowKit

theorem place_hit : ∀ {l : List Fi} {n : Int} {i : Nat} (hi : i < l.length), Lows l n i → l[i].n = n → placeP l n = (i : Int)
  | f :: r, n, 0, _, _, he => by simp at he; simp [placeP, he]
  | f :: r, n, i + 1, hi, hl, he => by
    have h0 : f.n < n := by have := hl 0 (by simp) (by omega); simpa using this
    have h1 := place_hit (l := r) (n := n) (i := i) (by simpa using hi) (fun m hm hmi => by have := hl (m + 1) (by simpa using hm) (by omega); simpa using this) (by simpa using he)
    rw [placeP, if_neg (by omega), h1, if_neg (by omega)]
    omega
theorem place_none : ∀ {l : List Fi} {n : Int}, (∀ (i : Nat) (h : i < l.length), l[i].n ≠ n) → placeP l n = -1
  | [], _, _ => rfl
  | f :: r, n, h => by
    have h0 := h 0 (by simp)
    have h1 := place_none (l := r) (n := n) (fun i hi => by have := h (i + 1) (by simpa using hi); simpa using this)
    rw [placeP, if_neg (by simpa using h0), h1, if_pos (by omega)]
/-- what the search handed back, in plain words -/
theorem placed_place {l : List Fi} {n : Int} {i : Nat} {f : Bool} (hu : Up l) (h : i ≤ l.length ∧ Lows l n i ∧ Highs l n i ∧ (f = true ↔ ∃ h : i < l.length, l[i].n = n)) :
    (f = true ∧ placeP l n = (i : Int) ∧ i < l.length) ∨ (f = false ∧ placeP l n = -1) := by
  obtain ⟨hi, hl, hh, hf⟩ := h
  cases f with
  | true =>
    obtain ⟨h1, h2⟩ := hf.1 rfl
    exact .inl ⟨rfl, place_hit h1 hl h2, h1⟩
  | false =>
    refine .inr ⟨rfl, place_none fun j hj e => ?_⟩
    rcases Nat.lt_trichotomy j i with h1 | h1 | h1
    · have := hl j hj h1; omega
    · subst h1
      have := hf.2 ⟨hj, e⟩
      cases this
    · have h2 := hh i (by omega) (Nat.le_refl _)
      have h3 := hu i j h1 hj
      omega
def gtE (room : Int) (l : List Fi) (n : Int) : Int := if formedD room l then (if placeP l n < 0 then 16 else 0) else 1
def gtB (room : Int) (l : List Fi) (n : Int) : List UInt8 := if gtE room l n = 0 then (match l[(placeP l n).toNat]? with | some f => f.b | none => []) else []
theorem gt_bad {room : Int} {l : List Fi} {n : Int} (h : formedD room l = false) : gtE room l n = 1 ∧ gtB room l n = [] := by
  have e : gtE room l n = 1 := by unfold gtE; rw [h]; rfl
  exact ⟨e, by unfold gtB; rw [e]; rfl⟩
theorem gt_none {room : Int} {l : List Fi} {n : Int} (h : formedD room l = true) (h2 : placeP l n = -1) : gtE room l n = 16 ∧ gtB room l n = [] := by
  have e : gtE room l n = 16 := by unfold gtE; rw [h, h2]; rfl
  exact ⟨e, by unfold gtB; rw [e]; rfl⟩
theorem gt_ok {room : Int} {l : List Fi} {n : Int} {i : Nat} (h : formedD room l = true) (h2 : placeP l n = (i : Int)) (hi : i < l.length) : gtE room l n = 0 ∧ gtB room l n = l[i].b := by
  have e : gtE room l n = 0 := by unfold gtE; rw [h, if_pos rfl, if_neg (by omega)]
  exact ⟨e, by unfold gtB; rw [if_pos e, h2, Int.toNat_natCast, List.getElem?_eq_getElem hi]⟩
def Got (B : List UInt8) (E : Int) (w : World) (e : Ending) (w' : World) : Prop :=
  ∃ v', e = .returned (.tuple #[v', .int .i64 E]) ∧ Own u8E Any w' w.heap.size 5 v' B ∧ Below w.heap.size w w'

set_option maxHeartbeats 4000000 in
theorem get_c {S : Foot} {v : Value} {room n : Int} {l : List Fi} {w : World} (hp : Sl fiE S w v l) :
    Calls Try.prog 22 #[.agg #[.int .i64 room, v], .int .i64 n] w (Got (gtB room l n) (gtE room l n) w) := by
  have hp := hp.any
  obtain ⟨A, cap, rfl, hc1, hc2, _⟩ := hp.shape
  unfold maxLen at hc2
  have q0 : (w.alloc (.cells #[.int .i64 room, .slice A l.length cap] 24)).heap[w.heap.size]? = some (.cells #[.int .i64 room, .slice A l.length cap] 24 (0, 0)) := heap_alloc_new _ _
  have HF := fun (w' : World) (bb : Below w.heap.size w w') => Lib.hid (formed_c (room := room) (w := w') (hp.below (by (repeat (first | with_reducible exact Below.refl _ _ | with_reducible assumption | with_reducible refine bdraw ?_ | with_reducible refine bdrewN ?_ _ | with_reducible refine balloc ?_ _ | with_reducible refine bset ?_ (by simp <;> omega) | with_reducible refine bstep ?_ (by assumption) | with_reducible refine btrans ?_ (by assumption)))) (Nat.le_refl _)))
  cases hE : formedD room l
  · have HR := Lib.hid (gt_bad (n := n) hE)
    rw [hE] at HF
    clear hE
    go_enter Try.func22, Try.ntmps22
    go_wp2_with (go_at_call 13; refine (HF _ (by (repeat (first | with_reducible exact Below.refl _ _ | with_reducible assumption | with_reducible refine bdraw ?_ | with_reducible refine bdrewN ?_ _ | with_reducible refine balloc ?_ _ | with_reducible refine bset ?_ (by simp <;> omega) | with_reducible refine bstep ?_ (by assumption) | with_reducible refine btrans ?_ (by assumption))))).out.mono ?_; rintro e w1 ⟨rfl, b1⟩)
    go_ret2
    exact ⟨_, by rw [HR.out.1]; rfl, by rw [HR.out.2]; exact Own.nil, by (repeat (first | with_reducible exact Below.refl _ _ | with_reducible assumption | with_reducible refine bdraw ?_ | with_reducible refine bdrewN ?_ _ | with_reducible refine balloc ?_ _ | with_reducible refine bset ?_ (by simp <;> omega) | with_reducible refine bstep ?_ (by assumption) | with_reducible refine btrans ?_ (by assumption)))⟩
  · have HE := Lib.hid hE
    have hlen := formedD_len hE
    have hup := formedD_up hE
    have hlow := fun f hf' => fineF_low (fs := l) (by simp only [formedD, Bool.and_eq_true] at hE; exact hE.2) f hf'
    have HLow := Lib.hid hlow
    have HUp := Lib.hid hup
    have hsz := formedD_size hE
    rw [hE] at HF
    clear hE hlow hup
    obtain ⟨hs1, hs2, hs3⟩ := hsz
    go_enter Try.func22, Try.ntmps22
    go_wp2_with fail
    refine (HF _ (by (repeat (first | with_reducible exact Below.refl _ _ | with_reducible assumption | with_reducible refine bdraw ?_ | with_reducible refine bdrewN ?_ _ | with_reducible refine balloc ?_ _ | with_reducible refine bset ?_ (by simp <;> omega) | with_reducible refine bstep ?_ (by assumption) | with_reducible refine btrans ?_ (by assumption))))).out.mono ?_
    rintro e w1 ⟨rfl, b1⟩
    have q1 := blkb q0 (w' := w1) (by (repeat (first | with_reducible exact Below.refl _ _ | with_reducible assumption | with_reducible refine bdraw ?_ | with_reducible refine bdrewN ?_ _ | with_reducible refine balloc ?_ _ | with_reducible refine bset ?_ (by simp <;> omega) | with_reducible refine bstep ?_ (by assumption) | with_reducible refine btrans ?_ (by assumption))))
    have xa0 : w1.cell? ⟨w.heap.size, 0, none⟩ = some (.int .i64 room) := cell_of_row _ _ 0 _ _ _ q1; have fa0 : w1.frozen? ⟨w.heap.size, 0, none⟩ = false := frozen_of_row _ _ 0 _ _ q1; have xa1 : w1.cell? ⟨w.heap.size, 1, none⟩ = some (.slice A l.length cap) := cell_of_row _ _ 1 _ _ _ q1; have fa1 : w1.frozen? ⟨w.heap.size, 1, none⟩ = false := frozen_of_row _ _ 1 _ _ q1
    go_wp2_with fail
    refine (find_c (room := room) (o := n) (hp.below (by (repeat (first | with_reducible exact Below.refl _ _ | with_reducible assumption | with_reducible refine bdraw ?_ | with_reducible refine bdrewN ?_ _ | with_reducible refine balloc ?_ _ | with_reducible refine bset ?_ (by simp <;> omega) | with_reducible refine bstep ?_ (by assumption) | with_reducible refine btrans ?_ (by assumption)))) (Nat.le_refl _)) HUp.out (by omega)).mono ?_
    rintro e w2 ⟨i, f, rfl, HI, b2⟩
    have q2 := blkb q1 (w' := w2) (by (repeat (first | with_reducible exact Below.refl _ _ | with_reducible assumption | with_reducible refine bdraw ?_ | with_reducible refine bdrewN ?_ _ | with_reducible refine balloc ?_ _ | with_reducible refine bset ?_ (by simp <;> omega) | with_reducible refine bstep ?_ (by assumption) | with_reducible refine btrans ?_ (by assumption))))
    have xb0 : w2.cell? ⟨w.heap.size, 0, none⟩ = some (.int .i64 room) := cell_of_row _ _ 0 _ _ _ q2; have fb0 : w2.frozen? ⟨w.heap.size, 0, none⟩ = false := frozen_of_row _ _ 0 _ _ q2; have xb1 : w2.cell? ⟨w.heap.size, 1, none⟩ = some (.slice A l.length cap) := cell_of_row _ _ 1 _ _ _ q2; have fb1 : w2.frozen? ⟨w.heap.size, 1, none⟩ = false := frozen_of_row _ _ 1 _ _ q2
    rcases placed_place HUp.out HI.out with ⟨rfl, hpl, hil⟩ | ⟨rfl, hpl⟩
    · have HR := Lib.hid (gt_ok HE.out hpl hil)
      have hiI : (i : Int) < (l.length : Int) := by omega
      have hi0 : (0 : Int) ≤ (i : Int) := by omega
      obtain ⟨bb, off, Av, cv, rfl, c0, c1, c2, hv⟩ := (hp.below (by (repeat (first | with_reducible exact Below.refl _ _ | with_reducible assumption | with_reducible refine bdraw ?_ | with_reducible refine bdrewN ?_ _ | with_reducible refine balloc ?_ _ | with_reducible refine bset ?_ (by simp <;> omega) | with_reducible refine bstep ?_ (by assumption) | with_reducible refine btrans ?_ (by assumption)))) (Nat.le_refl _)).fi hil
      have hbl : l[i].b.length ≤ 140737488355328 := by have := HLow.out _ (List.getElem_mem hil); omega
      have d0 := atb c0 (w' := w2) (by (repeat (first | with_reducible exact Below.refl _ _ | with_reducible assumption | with_reducible refine bdraw ?_ | with_reducible refine bdrewN ?_ _ | with_reducible refine balloc ?_ _ | with_reducible refine bset ?_ (by simp <;> omega) | with_reducible refine bstep ?_ (by assumption) | with_reducible refine btrans ?_ (by assumption)))); have d1 := atb c1 (w' := w2) (by (repeat (first | with_reducible exact Below.refl _ _ | with_reducible assumption | with_reducible refine bdraw ?_ | with_reducible refine bdrewN ?_ _ | with_reducible refine balloc ?_ _ | with_reducible refine bset ?_ (by simp <;> omega) | with_reducible refine bstep ?_ (by assumption) | with_reducible refine btrans ?_ (by assumption)))); have d2 := atb c2 (w' := w2) (by (repeat (first | with_reducible exact Below.refl _ _ | with_reducible assumption | with_reducible refine bdraw ?_ | with_reducible refine bdrewN ?_ _ | with_reducible refine balloc ?_ _ | with_reducible refine bset ?_ (by simp <;> omega) | with_reducible refine bstep ?_ (by assumption) | with_reducible refine btrans ?_ (by assumption))))
      clear c0 c1 c2 hpl
      generalize l[i] = x at *
      go_wp2_with fail
      refine (clone_c (hv.below (by (repeat (first | with_reducible exact Below.refl _ _ | with_reducible assumption | with_reducible refine bdraw ?_ | with_reducible refine bdrewN ?_ _ | with_reducible refine balloc ?_ _ | with_reducible refine bset ?_ (by simp <;> omega) | with_reducible refine bstep ?_ (by assumption) | with_reducible refine btrans ?_ (by assumption)))) (Nat.le_refl _)) hbl).mono ?_
      rintro e w3 ⟨v3, rfl, o3, b3⟩
      go_wp2
      go_ret2
      exact ⟨_, by rw [HR.out.1]; rfl, by rw [HR.out.2]; exact o3.base_mono (by have := b1.size; have := b2.size; simp at *; omega), by (repeat (first | with_reducible exact Below.refl _ _ | with_reducible assumption | with_reducible refine bdraw ?_ | with_reducible refine bdrewN ?_ _ | with_reducible refine balloc ?_ _ | with_reducible refine bset ?_ (by simp <;> omega) | with_reducible refine bstep ?_ (by assumption) | with_reducible refine btrans ?_ (by assumption)))⟩
    · have HR := Lib.hid (gt_none HE.out hpl)
      clear hpl
      go_wp2
      go_ret2
      exact ⟨_, by rw [HR.out.1]; rfl, by rw [HR.out.2]; exact Own.nil, by (repeat (first | with_reducible exact Below.refl _ _ | with_reducible assumption | with_reducible refine bdraw ?_ | with_reducible refine bdrewN ?_ _ | with_reducible refine balloc ?_ _ | with_reducible refine bset ?_ (by simp <;> omega) | with_reducible refine bstep ?_ (by assumption) | with_reducible refine btrans ?_ (by assumption)))⟩
set_option maxHeartbeats 4000000 in
theorem rget_c {S : Foot} {v : Value} {room n : Int} {l : List Fi} {w : World} (hp : Sl fiE S w v l) :
    Calls Try.prog 23 #[.agg #[.int .i64 room, v], .int .i64 n] w (Got (gtB room l n) (gtE room l n) w) := by
  have hp := hp.any
  obtain ⟨A, cap, rfl, hc1, hc2, _⟩ := hp.shape
  unfold maxLen at hc2
  have q0 : (w.alloc (.cells #[.int .i64 room, .slice A l.length cap] 24)).heap[w.heap.size]? = some (.cells #[.int .i64 room, .slice A l.length cap] 24 (0, 0)) := heap_alloc_new _ _
  have HF := fun (w' : World) (bb : Below w.heap.size w w') => Lib.hid (rformed_c (room := room) (w := w') (hp.below (by (repeat (first | with_reducible exact Below.refl _ _ | with_reducible assumption | with_reducible refine bdraw ?_ | with_reducible refine bdrewN ?_ _ | with_reducible refine balloc ?_ _ | with_reducible refine bset ?_ (by simp <;> omega) | with_reducible refine bstep ?_ (by assumption) | with_reducible refine btrans ?_ (by assumption)))) (Nat.le_refl _)))
  cases hE : formedD room l
  · have HR := Lib.hid (gt_bad (n := n) hE)
    rw [hE] at HF
    clear hE
    go_enter Try.func23, Try.ntmps23
    go_wp2_with (go_at_call 14; refine (HF _ (by (repeat (first | with_reducible exact Below.refl _ _ | with_reducible assumption | with_reducible refine bdraw ?_ | with_reducible refine bdrewN ?_ _ | with_reducible refine balloc ?_ _ | with_reducible refine bset ?_ (by simp <;> omega) | with_reducible refine bstep ?_ (by assumption) | with_reducible refine btrans ?_ (by assumption))))).out.mono ?_; rintro e w1 ⟨rfl, b1⟩)
    go_ret2
    exact ⟨_, by rw [HR.out.1]; rfl, by rw [HR.out.2]; exact Own.nil, by (repeat (first | with_reducible exact Below.refl _ _ | with_reducible assumption | with_reducible refine bdraw ?_ | with_reducible refine bdrewN ?_ _ | with_reducible refine balloc ?_ _ | with_reducible refine bset ?_ (by simp <;> omega) | with_reducible refine bstep ?_ (by assumption) | with_reducible refine btrans ?_ (by assumption)))⟩
  · have HE := Lib.hid hE
    have hlow := fun f hf' => fineF_low (fs := l) (by simp only [formedD, Bool.and_eq_true] at hE; exact hE.2) f hf'
    have HLow := Lib.hid hlow
    have hsz := formedD_size hE
    rw [hE] at HF
    clear hE hlow
    obtain ⟨hs1, hs2, hs3⟩ := hsz
    have hpl2 := placeP_lt l n
    by_cases hpl : placeP l n < 0
    · have e : placeP l n = -1 := by omega
      have HR := Lib.hid (gt_none HE.out e)
      have HP := fun (w' : World) (bb : Below w.heap.size w w') => Lib.hid (rplace_c (room := room) (o := n) (w := w') (hp.below (by (repeat (first | with_reducible exact Below.refl _ _ | with_reducible assumption | with_reducible refine bdraw ?_ | with_reducible refine bdrewN ?_ _ | with_reducible refine balloc ?_ _ | with_reducible refine bset ?_ (by simp <;> omega) | with_reducible refine bstep ?_ (by assumption) | with_reducible refine btrans ?_ (by assumption)))) (Nat.le_refl _)))
      rw [e] at HP
      clear hpl hpl2 e
      go_enter Try.func23, Try.ntmps23
      go_wp2_with fail
      refine (HF _ (by (repeat (first | with_reducible exact Below.refl _ _ | with_reducible assumption | with_reducible refine bdraw ?_ | with_reducible refine bdrewN ?_ _ | with_reducible refine balloc ?_ _ | with_reducible refine bset ?_ (by simp <;> omega) | with_reducible refine bstep ?_ (by assumption) | with_reducible refine btrans ?_ (by assumption))))).out.mono ?_
      rintro e w1 ⟨rfl, b1⟩
      have q1 := blkb q0 (w' := w1) (by (repeat (first | with_reducible exact Below.refl _ _ | with_reducible assumption | with_reducible refine bdraw ?_ | with_reducible refine bdrewN ?_ _ | with_reducible refine balloc ?_ _ | with_reducible refine bset ?_ (by simp <;> omega) | with_reducible refine bstep ?_ (by assumption) | with_reducible refine btrans ?_ (by assumption))))
      have xa0 : w1.cell? ⟨w.heap.size, 0, none⟩ = some (.int .i64 room) := cell_of_row _ _ 0 _ _ _ q1; have fa0 : w1.frozen? ⟨w.heap.size, 0, none⟩ = false := frozen_of_row _ _ 0 _ _ q1; have xa1 : w1.cell? ⟨w.heap.size, 1, none⟩ = some (.slice A l.length cap) := cell_of_row _ _ 1 _ _ _ q1; have fa1 : w1.frozen? ⟨w.heap.size, 1, none⟩ = false := frozen_of_row _ _ 1 _ _ q1
      go_wp2_with fail
      refine (HP _ (by (repeat (first | with_reducible exact Below.refl _ _ | with_reducible assumption | with_reducible refine bdraw ?_ | with_reducible refine bdrewN ?_ _ | with_reducible refine balloc ?_ _ | with_reducible refine bset ?_ (by simp <;> omega) | with_reducible refine bstep ?_ (by assumption) | with_reducible refine btrans ?_ (by assumption))))).out.mono ?_
      rintro e w2 ⟨rfl, b2⟩
      go_wp2
      go_ret2
      exact ⟨_, by rw [HR.out.1]; rfl, by rw [HR.out.2]; exact Own.nil, by (repeat (first | with_reducible exact Below.refl _ _ | with_reducible assumption | with_reducible refine bdraw ?_ | with_reducible refine bdrewN ?_ _ | with_reducible refine balloc ?_ _ | with_reducible refine bset ?_ (by simp <;> omega) | with_reducible refine bstep ?_ (by assumption) | with_reducible refine btrans ?_ (by assumption)))⟩
    · obtain ⟨i, hi⟩ : ∃ i : Nat, placeP l n = (i : Int) := ⟨(placeP l n).toNat, by omega⟩
      have hil : i < l.length := by omega
      have HR := Lib.hid (gt_ok HE.out hi hil)
      have HP := fun (w' : World) (bb : Below w.heap.size w w') => Lib.hid (rplace_c (room := room) (o := n) (w := w') (hp.below (by (repeat (first | with_reducible exact Below.refl _ _ | with_reducible assumption | with_reducible refine bdraw ?_ | with_reducible refine bdrewN ?_ _ | with_reducible refine balloc ?_ _ | with_reducible refine bset ?_ (by simp <;> omega) | with_reducible refine bstep ?_ (by assumption) | with_reducible refine btrans ?_ (by assumption)))) (Nat.le_refl _)))
      rw [hi] at HP
      clear hpl hpl2 hi
      have hiI : (i : Int) < (l.length : Int) := by omega
      have hi0 : (0 : Int) ≤ (i : Int) := by omega
      have hi1 : ¬ (i : Int) < 0 := by omega
      go_enter Try.func23, Try.ntmps23
      go_wp2_with fail
      refine (HF _ (by (repeat (first | with_reducible exact Below.refl _ _ | with_reducible assumption | with_reducible refine bdraw ?_ | with_reducible refine bdrewN ?_ _ | with_reducible refine balloc ?_ _ | with_reducible refine bset ?_ (by simp <;> omega) | with_reducible refine bstep ?_ (by assumption) | with_reducible refine btrans ?_ (by assumption))))).out.mono ?_
      rintro e w1 ⟨rfl, b1⟩
      have q1 := blkb q0 (w' := w1) (by (repeat (first | with_reducible exact Below.refl _ _ | with_reducible assumption | with_reducible refine bdraw ?_ | with_reducible refine bdrewN ?_ _ | with_reducible refine balloc ?_ _ | with_reducible refine bset ?_ (by simp <;> omega) | with_reducible refine bstep ?_ (by assumption) | with_reducible refine btrans ?_ (by assumption))))
      have xa0 : w1.cell? ⟨w.heap.size, 0, none⟩ = some (.int .i64 room) := cell_of_row _ _ 0 _ _ _ q1; have fa0 : w1.frozen? ⟨w.heap.size, 0, none⟩ = false := frozen_of_row _ _ 0 _ _ q1; have xa1 : w1.cell? ⟨w.heap.size, 1, none⟩ = some (.slice A l.length cap) := cell_of_row _ _ 1 _ _ _ q1; have fa1 : w1.frozen? ⟨w.heap.size, 1, none⟩ = false := frozen_of_row _ _ 1 _ _ q1
      go_wp2_with fail
      refine (HP _ (by (repeat (first | with_reducible exact Below.refl _ _ | with_reducible assumption | with_reducible refine bdraw ?_ | with_reducible refine bdrewN ?_ _ | with_reducible refine balloc ?_ _ | with_reducible refine bset ?_ (by simp <;> omega) | with_reducible refine bstep ?_ (by assumption) | with_reducible refine btrans ?_ (by assumption))))).out.mono ?_
      rintro e w2 ⟨rfl, b2⟩
      have q2 := blkb q1 (w' := w2) (by (repeat (first | with_reducible exact Below.refl _ _ | with_reducible assumption | with_reducible refine bdraw ?_ | with_reducible refine bdrewN ?_ _ | with_reducible refine balloc ?_ _ | with_reducible refine bset ?_ (by simp <;> omega) | with_reducible refine bstep ?_ (by assumption) | with_reducible refine btrans ?_ (by assumption))))
      have xb0 : w2.cell? ⟨w.heap.size, 0, none⟩ = some (.int .i64 room) := cell_of_row _ _ 0 _ _ _ q2; have fb0 : w2.frozen? ⟨w.heap.size, 0, none⟩ = false := frozen_of_row _ _ 0 _ _ q2; have xb1 : w2.cell? ⟨w.heap.size, 1, none⟩ = some (.slice A l.length cap) := cell_of_row _ _ 1 _ _ _ q2; have fb1 : w2.frozen? ⟨w.heap.size, 1, none⟩ = false := frozen_of_row _ _ 1 _ _ q2
      obtain ⟨bb, off, Av, cv, rfl, c0, c1, c2, hv⟩ := (hp.below (by (repeat (first | with_reducible exact Below.refl _ _ | with_reducible assumption | with_reducible refine bdraw ?_ | with_reducible refine bdrewN ?_ _ | with_reducible refine balloc ?_ _ | with_reducible refine bset ?_ (by simp <;> omega) | with_reducible refine bstep ?_ (by assumption) | with_reducible refine btrans ?_ (by assumption)))) (Nat.le_refl _)).fi hil
      have hbl : l[i].b.length ≤ 140737488355328 := by have := HLow.out _ (List.getElem_mem hil); omega
      have d0 := atb c0 (w' := w2) (by (repeat (first | with_reducible exact Below.refl _ _ | with_reducible assumption | with_reducible refine bdraw ?_ | with_reducible refine bdrewN ?_ _ | with_reducible refine balloc ?_ _ | with_reducible refine bset ?_ (by simp <;> omega) | with_reducible refine bstep ?_ (by assumption) | with_reducible refine btrans ?_ (by assumption)))); have d1 := atb c1 (w' := w2) (by (repeat (first | with_reducible exact Below.refl _ _ | with_reducible assumption | with_reducible refine bdraw ?_ | with_reducible refine bdrewN ?_ _ | with_reducible refine balloc ?_ _ | with_reducible refine bset ?_ (by simp <;> omega) | with_reducible refine bstep ?_ (by assumption) | with_reducible refine btrans ?_ (by assumption)))); have d2 := atb c2 (w' := w2) (by (repeat (first | with_reducible exact Below.refl _ _ | with_reducible assumption | with_reducible refine bdraw ?_ | with_reducible refine bdrewN ?_ _ | with_reducible refine balloc ?_ _ | with_reducible refine bset ?_ (by simp <;> omega) | with_reducible refine bstep ?_ (by assumption) | with_reducible refine btrans ?_ (by assumption))))
      clear c0 c1 c2
      generalize l[i] = x at *
      go_wp2_with fail
      refine (copy_c (hv.below (by (repeat (first | with_reducible exact Below.refl _ _ | with_reducible assumption | with_reducible refine bdraw ?_ | with_reducible refine bdrewN ?_ _ | with_reducible refine balloc ?_ _ | with_reducible refine bset ?_ (by simp <;> omega) | with_reducible refine bstep ?_ (by assumption) | with_reducible refine btrans ?_ (by assumption)))) (Nat.le_refl _)) hbl).mono ?_
      rintro e w3 ⟨v3, rfl, o3, b3⟩
      go_wp2
      go_ret2
      exact ⟨_, by rw [HR.out.1]; rfl, by rw [HR.out.2]; exact o3.base_mono (by have := b1.size; have := b2.size; simp at *; omega), by (repeat (first | with_reducible exact Below.refl _ _ | with_reducible assumption | with_reducible refine bdraw ?_ | with_reducible refine bdrewN ?_ _ | with_reducible refine balloc ?_ _ | with_reducible refine bset ?_ (by simp <;> omega) | with_reducible refine bstep ?_ (by assumption) | with_reducible refine btrans ?_ (by assumption)))⟩
end Go.Proofs.Ytnblnlbchcepjaa
