/- Disks: the program's Append. -/
import Derived.Test.YtbahiohlhhdkcaaDoorDkj
set_option linter.unusedSimpArgs false
namespace Go.Proofs.YtbahiohlhhdkcaaDoor
open Go.RowKit

theorem frozen_grown {w w' : World} {r : Option Nat} {b o : Nat} (hg : w.grownBy w' r) (hb : b < w.heap.size) (hn : r ≠ some b) : w'.frozen? ⟨b, o, none⟩ = w.frozen? ⟨b, o, none⟩ := by
  unfold World.frozen?
  rw [hg.block b hb (fun e => hn e.symm)]
def Appended (room : Int) (l : List Fi) (n : Int) (b : List UInt8) (w : World) (e : Ending) (w' : World) : Prop :=
  ∃ v' us, e = .returned (.tuple #[.agg #[.int .i64 (apR room l n b), v'], .int .i64 (apE room l n b)]) ∧ FP (BO w.heap.size) w.heap.size w' v' (apF room l n b) us (apF room l n b).length ∧ Below w.heap.size w w'
theorem apE_bad {room : Int} {l : List Fi} {n : Int} {b : List UInt8} (h : ¬ (formedD room l = true ∧ 0 ≤ n ∧ n ≤ 1048576)) : apE room l n b = 1 ∧ apF room l n b = [] ∧ apR room l n b = 0 := by
  have e : apE room l n b = 1 := by unfold apE; rw [if_neg h]
  exact ⟨e, by unfold apF; rw [e]; rfl, by unfold apR; rw [e]; rfl⟩
theorem apE_full {room : Int} {l : List Fi} {n : Int} {b : List UInt8} (h : formedD room l = true ∧ 0 ≤ n ∧ n ≤ 1048576) (h2 : ¬ (b.length : Int) ≤ room - sizeD l) : apE room l n b = 7 ∧ apF room l n b = [] ∧ apR room l n b = 0 := by
  have e : apE room l n b = 7 := by unfold apE; rw [if_pos h, if_neg h2]
  exact ⟨e, by unfold apF; rw [e]; rfl, by unfold apR; rw [e]; rfl⟩
theorem apE_ok {room : Int} {l : List Fi} {n : Int} {b : List UInt8} (h : formedD room l = true ∧ 0 ≤ n ∧ n ≤ 1048576) (h2 : (b.length : Int) ≤ room - sizeD l) : apE room l n b = 0 ∧ apF room l n b = app1 l n b ∧ apR room l n b = room := by
  have e : apE room l n b = 0 := by unfold apE; rw [if_pos h, if_pos h2]
  exact ⟨e, by unfold apF; rw [e]; rfl, by unfold apR; rw [e]; rfl⟩

set_option maxHeartbeats 1000000 in
theorem append_c {S S' : Foot} {v u : Value} {room n : Int} {l : List Fi} {b : List UInt8} {w : World} (hp : Sl fiE S w v l) (hq : Sl u8E S' w u b) :
    Calls Tryd.prog 28 #[.agg #[.int .i64 room, v], .int .i64 n, u] w (Appended room l n b w) := by
  have hp := hp.any
  have hq := hq.any
  obtain ⟨A, cap, rfl, hc1, hc2, _⟩ := hp.shape
  obtain ⟨Ab, cb, rfl, hc3, hc4, _⟩ := hq.shape
  unfold maxLen at hc2 hc4
  have q0 : ((w.alloc (.cells #[.int .i64 room, .slice A l.length cap] 24)).alloc (.cells #[.int .i64 0, .slice none 0 0] 24)).heap[w.heap.size]? = some (.cells #[.int .i64 room, .slice A l.length cap] 24 (0, 0)) := heap_alloc2_old _ _ _
  have q1 : ((w.alloc (.cells #[.int .i64 room, .slice A l.length cap] 24)).alloc (.cells #[.int .i64 0, .slice none 0 0] 24)).heap[w.heap.size + 1]? = some (.cells #[.int .i64 0, .slice none 0 0] 24 (0, 0)) := by
    have := heap_alloc_new (w.alloc (.cells #[.int .i64 room, .slice A l.length cap] 24)) (.cells #[.int .i64 0, .slice none 0 0] 24)
    rwa [World.size_alloc] at this
  have HF := fun (w' : World) (bb : Below w.heap.size w w') => Lib.hid (formed_c (room := room) (w := w') (hp.below (by (repeat (first | with_reducible exact Below.refl _ _ | with_reducible assumption | with_reducible refine bdraw ?_ | with_reducible refine bdrewN ?_ _ | with_reducible refine balloc ?_ _ | with_reducible refine bset ?_ (by simp <;> omega) | with_reducible refine bstep ?_ (by assumption) | with_reducible refine btrans ?_ (by assumption)))) (Nat.le_refl _)))
  have bW : Below w.heap.size w ((w.alloc (.cells #[.int .i64 room, .slice A l.length cap] 24)).alloc (.cells #[.int .i64 0, .slice none 0 0] 24)) := by (repeat (first | with_reducible exact Below.refl _ _ | with_reducible assumption | with_reducible refine bdraw ?_ | with_reducible refine bdrewN ?_ _ | with_reducible refine balloc ?_ _ | with_reducible refine bset ?_ (by simp <;> omega) | with_reducible refine bstep ?_ (by assumption) | with_reducible refine btrans ?_ (by assumption)))
  by_cases hE : formedD room l = true ∧ 0 ≤ n ∧ n ≤ 1048576
  rotate_left
  · obtain ⟨e1, e2, e3⟩ := apE_bad (b := b) hE
    have HR := Lib.hid (And.intro e1 (And.intro e2 e3))
    clear e1 e2 e3
    have h3 : formedD room l = false ∨ (formedD room l = true ∧ (n < 0 ∨ 1048576 < n)) := by
      cases h : formedD room l
      · exact .inl rfl
      · exact .inr ⟨rfl, by rw [h] at hE; simp at hE; omega⟩
    clear hE
    go_enter Tryd.func28, Tryd.ntmps28
    rcases h3 with h3 | ⟨h3, h4 | h4⟩
    all_goals
      rw [h3] at HF
      clear h3
      go_wp2_with (go_at_call 18; refine (HF _ (by (repeat (first | with_reducible exact Below.refl _ _ | with_reducible assumption | with_reducible refine bdraw ?_ | with_reducible refine bdrewN ?_ _ | with_reducible refine balloc ?_ _ | with_reducible refine bset ?_ (by simp <;> omega) | with_reducible refine bstep ?_ (by assumption) | with_reducible refine btrans ?_ (by assumption))))).out.mono ?_; rintro e w1 ⟨rfl, b1⟩; have q2 := blkb q1 (w' := w1) (by (repeat (first | with_reducible exact Below.refl _ _ | with_reducible assumption | with_reducible refine bdraw ?_ | with_reducible refine bdrewN ?_ _ | with_reducible refine balloc ?_ _ | with_reducible refine bset ?_ (by simp <;> omega) | with_reducible refine bstep ?_ (by assumption) | with_reducible refine btrans ?_ (by assumption)))); have xa0 : w1.cell? ⟨w.heap.size + 1, 0, none⟩ = some (.int .i64 0) := cell_of_row _ _ 0 _ _ _ q2; have fa0 : w1.frozen? ⟨w.heap.size + 1, 0, none⟩ = false := frozen_of_row _ _ 0 _ _ q2; have xa1 : w1.cell? ⟨w.heap.size + 1, 1, none⟩ = some (.slice none 0 0) := cell_of_row _ _ 1 _ _ _ q2; have fa1 : w1.frozen? ⟨w.heap.size + 1, 1, none⟩ = false := frozen_of_row _ _ 1 _ _ q2)
      refine bodyPost_ret (results_cell_tmp1 rfl _ _ (w.heap.size + 1) 24 #[.int .i64 0, .slice none 0 0] (0, 0) _ rfl (set2 q2) Tryd.underlying24 rfl (by kernel_rfl)) rfl ?_
      exact ⟨_, [], by rw [HR.out.1, HR.out.2.2]; rfl, by rw [HR.out.2.1]; exact FP.nil, by (repeat (first | with_reducible exact Below.refl _ _ | with_reducible assumption | with_reducible refine bdraw ?_ | with_reducible refine bdrewN ?_ _ | with_reducible refine balloc ?_ _ | with_reducible refine bset ?_ (by simp <;> omega) | with_reducible refine bstep ?_ (by assumption) | with_reducible refine btrans ?_ (by assumption)))⟩
  · obtain ⟨hf, hn0, hn1⟩ := id hE
    have HE := Lib.hid hE
    have hsz := formedD_size hf
    have hlen := formedD_len hf
    have hlow := fun f hf' => fineF_low (fs := l) (by simp only [formedD, Bool.and_eq_true] at hf; exact hf.2) f hf'
    have HU := fun (w' : World) (bb : Below w.heap.size w w') => Lib.hid (used_c (room := room) (w := w') (hp.below (by (repeat (first | with_reducible exact Below.refl _ _ | with_reducible assumption | with_reducible refine bdraw ?_ | with_reducible refine bdrewN ?_ _ | with_reducible refine balloc ?_ _ | with_reducible refine bset ?_ (by simp <;> omega) | with_reducible refine bstep ?_ (by assumption) | with_reducible refine btrans ?_ (by assumption)))) (Nat.le_refl _)))
    rw [show usedD room l = (sizeD l : Int) by unfold usedD; rw [hf]; rfl] at HU
    have HUp := Lib.hid (formedD_up hf)
    have HLow := Lib.hid hlow
    rw [hf] at HF
    clear hf hE hlow
    obtain ⟨hs1, hs2, hs3⟩ := hsz
    have hwr : IntKind.i64.wrap (room - (sizeD l : Int)) = room - (sizeD l : Int) := IntWalk.i64_in _ (by omega)
    go_enter Tryd.func28, Tryd.ntmps28
    go_wp2_with fail
    refine (HF _ (by (repeat (first | with_reducible exact Below.refl _ _ | with_reducible assumption | with_reducible refine bdraw ?_ | with_reducible refine bdrewN ?_ _ | with_reducible refine balloc ?_ _ | with_reducible refine bset ?_ (by simp <;> omega) | with_reducible refine bstep ?_ (by assumption) | with_reducible refine btrans ?_ (by assumption))))).out.mono ?_
    rintro e w1 ⟨rfl, b1⟩
    have p0 := (At.of_cell (cell_of_row _ w.heap.size 0 _ _ _ q0)).2
    have p1 := (At.of_cell (cell_of_row _ w.heap.size 1 _ _ _ q0)).2
    have a0 := atb p0 b1
    have a1 := atb p1 b1
    go_wp2_with fail
    go_region_held3 (fun w' => w'.cell? ⟨w.heap.size, 0, none⟩ = some (.int .i64 room) ∧ w'.cell? ⟨w.heap.size, 1, none⟩ = some (.slice A l.length cap))
      (first | go_keep | (refine ⟨?_, ?_⟩ <;> (first | exact atb p0 (by (repeat (first | with_reducible exact Below.refl _ _ | with_reducible assumption | with_reducible refine bdraw ?_ | with_reducible refine bdrewN ?_ _ | with_reducible refine balloc ?_ _ | with_reducible refine bset ?_ (by simp <;> omega) | with_reducible refine bstep ?_ (by assumption) | with_reducible refine btrans ?_ (by assumption)))) | exact atb p1 (by (repeat (first | with_reducible exact Below.refl _ _ | with_reducible assumption | with_reducible refine bdraw ?_ | with_reducible refine bdrewN ?_ _ | with_reducible refine balloc ?_ _ | with_reducible refine bset ?_ (by simp <;> omega) | with_reducible refine bstep ?_ (by assumption) | with_reducible refine btrans ?_ (by assumption)))))))
      (first | (go_at_call 39; go_must (refine (HU _ (by (repeat (first | with_reducible exact Below.refl _ _ | with_reducible assumption | with_reducible refine bdraw ?_ | with_reducible refine bdrewN ?_ _ | with_reducible refine balloc ?_ _ | with_reducible refine bset ?_ (by simp <;> omega) | with_reducible refine bstep ?_ (by assumption) | with_reducible refine btrans ?_ (by assumption))))).out.mono ?_; rintro e w2 ⟨rfl, b2⟩)) | fail)
    clear a0 a1
    have q2 := blkb q0 (w' := w2) (by (repeat (first | with_reducible exact Below.refl _ _ | with_reducible assumption | with_reducible refine bdraw ?_ | with_reducible refine bdrewN ?_ _ | with_reducible refine balloc ?_ _ | with_reducible refine bset ?_ (by simp <;> omega) | with_reducible refine bstep ?_ (by assumption) | with_reducible refine btrans ?_ (by assumption))))
    have q3 := blkb q1 (w' := w2) (by (repeat (first | with_reducible exact Below.refl _ _ | with_reducible assumption | with_reducible refine bdraw ?_ | with_reducible refine bdrewN ?_ _ | with_reducible refine balloc ?_ _ | with_reducible refine bset ?_ (by simp <;> omega) | with_reducible refine bstep ?_ (by assumption) | with_reducible refine btrans ?_ (by assumption))))
    have xa0 : w2.cell? ⟨w.heap.size, 0, none⟩ = some (.int .i64 room) := cell_of_row _ _ 0 _ _ _ q2; have fa0 : w2.frozen? ⟨w.heap.size, 0, none⟩ = false := frozen_of_row _ _ 0 _ _ q2; have xa1 : w2.cell? ⟨w.heap.size, 1, none⟩ = some (.slice A l.length cap) := cell_of_row _ _ 1 _ _ _ q2; have fa1 : w2.frozen? ⟨w.heap.size, 1, none⟩ = false := frozen_of_row _ _ 1 _ _ q2
    have xz0 : w2.cell? ⟨w.heap.size + 1, 0, none⟩ = some (.int .i64 0) := cell_of_row _ _ 0 _ _ _ q3; have fz0 : w2.frozen? ⟨w.heap.size + 1, 0, none⟩ = false := frozen_of_row _ _ 0 _ _ q3; have xz1 : w2.cell? ⟨w.heap.size + 1, 1, none⟩ = some (.slice none 0 0) := cell_of_row _ _ 1 _ _ _ q3; have fz1 : w2.frozen? ⟨w.heap.size + 1, 1, none⟩ = false := frozen_of_row _ _ 1 _ _ q3
    have bw2 : Below w.heap.size w w2 := by (repeat (first | with_reducible exact Below.refl _ _ | with_reducible assumption | with_reducible refine bdraw ?_ | with_reducible refine bdrewN ?_ _ | with_reducible refine balloc ?_ _ | with_reducible refine bset ?_ (by simp <;> omega) | with_reducible refine bstep ?_ (by assumption) | with_reducible refine btrans ?_ (by assumption)))
    clear q0 q1 b1 b2 p0 p1 bW hwr HF HU
    by_cases hfull : (b.length : Int) ≤ room - sizeD l
    rotate_left
    · obtain ⟨e1, e2, e3⟩ := apE_full HE.out hfull
      have HR := Lib.hid (And.intro e1 (And.intro e2 e3))
      clear e1 e2 e3
      go_wp2
      refine bodyPost_ret (results_cell_tmp1 rfl _ _ (w.heap.size + 1) 24 #[.int .i64 0, .slice none 0 0] (0, 0) _ rfl (set2 q3) Tryd.underlying24 rfl (by kernel_rfl)) rfl ?_
      exact ⟨_, [], by rw [HR.out.1, HR.out.2.2]; rfl, by rw [HR.out.2.1]; exact FP.nil, by (repeat (first | with_reducible exact Below.refl _ _ | with_reducible assumption | with_reducible refine bdraw ?_ | with_reducible refine bdrewN ?_ _ | with_reducible refine balloc ?_ _ | with_reducible refine bset ?_ (by simp <;> omega) | with_reducible refine bstep ?_ (by assumption) | with_reducible refine btrans ?_ (by assumption)))⟩
    · obtain ⟨e1, e2, e3⟩ := apE_ok HE.out hfull
      have HR := Lib.hid (And.intro e1 (And.intro e2 e3))
      clear e1 e2 e3
      go_wp2_with fail
      refine (twin_c (room := room) (hp.below (by (repeat (first | with_reducible exact Below.refl _ _ | with_reducible assumption | with_reducible refine bdraw ?_ | with_reducible refine bdrewN ?_ _ | with_reducible refine balloc ?_ _ | with_reducible refine bset ?_ (by simp <;> omega) | with_reducible refine bstep ?_ (by assumption) | with_reducible refine btrans ?_ (by assumption)))) (Nat.le_refl _)) (by omega) (fun f hf => by have := HLow.out f hf; omega)).mono ?_
      rintro e w3 ⟨v3, us, rfl, hF, b3⟩
      obtain ⟨A3, c3, hv3, hc5, hc6, _⟩ := (hF.sl (BO.ok _)).shape
      subst hv3
      unfold maxLen at hc6
      have s3 := (hF.sl (BO.ok _)).any
      have hz3 := b3.size
      have z3 := blkb q3 (w' := w3) (by (repeat (first | with_reducible exact Below.refl _ _ | with_reducible assumption | with_reducible refine bdraw ?_ | with_reducible refine bdrewN ?_ _ | with_reducible refine balloc ?_ _ | with_reducible refine bset ?_ (by simp <;> omega) | with_reducible refine bstep ?_ (by assumption) | with_reducible refine btrans ?_ (by assumption))))
      have r3 := heap_alloc_new w3 (.cells #[.int .i64 room, .slice A3 l.length c3] 24)
      go_wp2_with fail
      refine (find_c (room := room) (o := n) (s3.below (by (repeat (first | with_reducible exact Below.refl _ _ | with_reducible assumption | with_reducible refine bdraw ?_ | with_reducible refine bdrewN ?_ _ | with_reducible refine balloc ?_ _ | with_reducible refine bset ?_ (by simp <;> omega) | with_reducible refine bstep ?_ (by assumption) | with_reducible refine btrans ?_ (by assumption)))) (Nat.le_refl _)) HUp.out (by omega)).mono ?_
      rintro e w4 ⟨i, f, rfl, HI, b4⟩
      have r4 := blkb r3 (w' := w4) (by (repeat (first | with_reducible exact Below.refl _ _ | with_reducible assumption | with_reducible refine bdraw ?_ | with_reducible refine bdrewN ?_ _ | with_reducible refine balloc ?_ _ | with_reducible refine bset ?_ (by simp <;> omega) | with_reducible refine bstep ?_ (by assumption) | with_reducible refine btrans ?_ (by assumption))))
      have hz4 : w3.heap.size < w4.heap.size := (Array.getElem?_eq_some_iff.1 r4).1
      have z4 := blkb z3 (w' := w4) (by (repeat (first | with_reducible exact Below.refl _ _ | with_reducible assumption | with_reducible refine bdraw ?_ | with_reducible refine bdrewN ?_ _ | with_reducible refine balloc ?_ _ | with_reducible refine bset ?_ (by simp <;> omega) | with_reducible refine bstep ?_ (by assumption) | with_reducible refine btrans ?_ (by assumption))))
      have xr0 : w4.cell? ⟨w3.heap.size, 0, none⟩ = some (.int .i64 room) := cell_of_row _ _ 0 _ _ _ r4; have fr0 : w4.frozen? ⟨w3.heap.size, 0, none⟩ = false := frozen_of_row _ _ 0 _ _ r4; have xr1 : w4.cell? ⟨w3.heap.size, 1, none⟩ = some (.slice A3 l.length c3) := cell_of_row _ _ 1 _ _ _ r4; have fr1 : w4.frozen? ⟨w3.heap.size, 1, none⟩ = false := frozen_of_row _ _ 1 _ _ r4
      obtain ⟨i8, hi8, hy0, hy1, hy2⟩ := info_parts slice_info
      have hw2 : w.heap.size + 1 < w2.heap.size := (Array.getElem?_eq_some_iff.1 q3).1
      cases f with
      | true =>
        obtain ⟨hil, hin⟩ : ∃ h : i < l.length, l[i].n = n := HI.out.2.2.2.1 rfl
        have hhit := app1_hit (b := b) hil HI.out.2.1 hin
        have hlo := HLow.out _ (List.getElem_mem hil)
        have hfi : l[i]? = some l[i] := List.getElem?_eq_getElem hil
        obtain ⟨uu, hui⟩ := hF.get hfi
        obtain ⟨Au, cu, rfl, hcu1, hcu2, _⟩ := (BO.ok _).sl (hF.own i _ _ hui hfi hil) |>.shape
        unfold maxLen at hcu2
        obtain ⟨g, rfl, hgg1, hgg2⟩ := hF.row.form3 (by omega)
        have hub0 : ∀ g', (Value.slice Au l[i].b.length cu).ownBlock = some g' → (g' ≠ w3.heap.size ∧ g' ≠ g) ∧ w2.heap.size ≤ g' := fun g' hg' => ⟨⟨by have := (hF.lt (BO.ok _) hui hil hg').2; omega, fun e => hF.rn i _ g' hui hil hg' (by rw [e]; rfl)⟩, (hF.lt (BO.ok _) hui hil hg').1⟩
        have HRR := Lib.hid (HR.out.2.1.trans hhit)
        have hF4 := hF.below (w' := w4) (BO.ok _) (by (repeat (first | with_reducible exact Below.refl _ _ | with_reducible assumption | with_reducible refine bdraw ?_ | with_reducible refine bdrewN ?_ _ | with_reducible refine balloc ?_ _ | with_reducible refine bset ?_ (by simp <;> omega) | with_reducible refine bstep ?_ (by assumption) | with_reducible refine btrans ?_ (by assumption)))) hz3
        clear hhit hF r3
        generalize l[i] = f0 at *
        have hiI : (i : Int) < (l.length : Int) := by omega
        have hi0 : (0 : Int) ≤ (i : Int) := by omega
        have hF := hF4
        have r0 := r4
        have zz := z4
        have bw4 : Below w.heap.size w w4 := by (repeat (first | with_reducible exact Below.refl _ _ | with_reducible assumption | with_reducible refine bdraw ?_ | with_reducible refine bdrewN ?_ _ | with_reducible refine balloc ?_ _ | with_reducible refine bset ?_ (by simp <;> omega) | with_reducible refine bstep ?_ (by assumption) | with_reducible refine btrans ?_ (by assumption)))
        clear hF4 z4 z3
        go_wp2_with fail
        have HFr := Lib.hid hF
        obtain ⟨_, ca1, _⟩ := hF.row.tri3 (tris_get hfi hui)
        have hfz := hF.row.free3 (i * 3 + 1)
        have hub : ∀ g', (Value.slice Au f0.b.length cu).ownBlock = some g' → (g' ≠ w3.heap.size ∧ g' ≠ g) ∧ w2.heap.size ≤ g' := hub0
        have hown : Own u8E Any w4 w2.heap.size 5 (.slice Au f0.b.length cu) f0.b := hF.own i _ _ hui hfi (List.getElem?_eq_some_iff.1 hfi).1
        obtain ⟨hg1, hg2⟩ := hF.row.lt g rfl
        have t0 : At Any w4 w3.heap.size 1 (.slice (some ⟨g, 0, none⟩) l.length c3) := (At.of_cell (cell_of_row _ w3.heap.size 1 _ _ _ r0)).2
        have t1 : At Any w4 g (i * 3 + 1) (.slice Au f0.b.length cu) := ca1
        have HFI := Lib.hid hfi
        have HUI := Lib.hid hui
        clear hF hfi hui
        refine region_push 13 (S := (fun w' => w'.cell? ⟨w3.heap.size, 1, none⟩ = some (.slice (some ⟨g, 0, none⟩) l.length c3) ∧ w'.cell? ⟨g, i * 3 + 1, none⟩ = some (.slice Au f0.b.length cu))) (by kernel_rfl) (by kernel_rfl) ?_ (fun hHeld => ?_); (· ((try dsimp only); (refine ⟨?_, ?_⟩ <;> (first | assumption | exact atb t0 (by (repeat (first | with_reducible exact Below.refl _ _ | with_reducible assumption | with_reducible refine bdraw ?_ | with_reducible refine bdrewN ?_ _ | with_reducible refine balloc ?_ _ | with_reducible refine bset ?_ (by simp <;> omega) | with_reducible refine bstep ?_ (by assumption) | with_reducible refine btrans ?_ (by assumption)))) | exact atb t1 (by (repeat (first | with_reducible exact Below.refl _ _ | with_reducible assumption | with_reducible refine bdraw ?_ | with_reducible refine bdrewN ?_ _ | with_reducible refine balloc ?_ _ | with_reducible refine bset ?_ (by simp <;> omega) | with_reducible refine bstep ?_ (by assumption) | with_reducible refine btrans ?_ (by assumption)))))))); simp only [List.take_succ_cons, List.take_zero]
        refine wpAnyH_take (i := 0) (v := ?_) rfl (by kernel_rfl) (by kernel_rfl) (by kernel_rfl) (fun _ _ _ h => h) (Or.inl ⟨by rfl, ?_⟩) (by assumption) ?_; rotate_left; (· (intro w' hSw'; (try dsimp only at hSw'); go_simp; (try with_reducible rfl))); simp only [Act.put, List.setIfInBounds_toArray, List.set_cons_zero, List.set_cons_succ, List.getElem_toArray, List.getElem_cons_zero, List.getElem_cons_succ, Array.getInternal_eq_getElem]; refine wpAnyH_take (i := 1) (v := ?_) rfl (by kernel_rfl) (by kernel_rfl) (by kernel_rfl) (fun _ _ _ h => h) (Or.inl ⟨by rfl, ?_⟩) (by assumption) ?_; rotate_left; (· (intro w' hSw'; (try dsimp only at hSw'); go_simp; (try with_reducible rfl))); simp only [Act.put, List.setIfInBounds_toArray, List.set_cons_zero, List.set_cons_succ, List.getElem_toArray, List.getElem_cons_zero, List.getElem_cons_succ, Array.getInternal_eq_getElem]; refine wpAnyH_take (i := 2) (v := ?_) rfl (by kernel_rfl) (by kernel_rfl) (by kernel_rfl) (fun _ _ _ h => h) (Or.inl ⟨by rfl, ?_⟩) (by assumption) ?_; rotate_left; (· (intro w' hSw'; (try dsimp only at hSw'); go_simp; (try with_reducible rfl))); simp only [Act.put, List.setIfInBounds_toArray, List.set_cons_zero, List.set_cons_succ, List.getElem_toArray, List.getElem_cons_zero, List.getElem_cons_succ, Array.getInternal_eq_getElem]; refine wpAnyH_take (i := 3) (v := ?_) rfl (by kernel_rfl) (by kernel_rfl) (by kernel_rfl) (fun _ _ _ h => h) (Or.inl ⟨by rfl, ?_⟩) (by assumption) ?_; rotate_left; (· (intro w' hSw'; (try dsimp only at hSw'); go_simp; (try with_reducible rfl))); simp only [Act.put, List.setIfInBounds_toArray, List.set_cons_zero, List.set_cons_succ, List.getElem_toArray, List.getElem_cons_zero, List.getElem_cons_succ, Array.getInternal_eq_getElem]; refine wpAnyH_take (i := 4) (v := ?_) rfl (by kernel_rfl) (by kernel_rfl) (by kernel_rfl) (fun _ _ _ h => h) (Or.inl ⟨by rfl, ?_⟩) (by assumption) ?_; rotate_left; (· (intro w' hSw'; (try dsimp only at hSw'); go_simp; (try with_reducible rfl))); simp only [Act.put, List.setIfInBounds_toArray, List.set_cons_zero, List.set_cons_succ, List.getElem_toArray, List.getElem_cons_zero, List.getElem_cons_succ, Array.getInternal_eq_getElem]; refine wpAnyH_take (i := 5) (v := ?_) rfl (by kernel_rfl) (by kernel_rfl) (by kernel_rfl) (fun _ _ _ h => h) (Or.inl ⟨by rfl, ?_⟩) (by assumption) ?_; rotate_left; (· (intro w' hSw'; (try dsimp only at hSw'); go_simp; (try with_reducible rfl))); simp only [Act.put, List.setIfInBounds_toArray, List.set_cons_zero, List.set_cons_succ, List.getElem_toArray, List.getElem_cons_zero, List.getElem_cons_succ, Array.getInternal_eq_getElem]; refine wpAnyH_take (i := 6) (v := ?_) rfl (by kernel_rfl) (by kernel_rfl) (by kernel_rfl) (fun _ _ _ h => h) (Or.inl ⟨by rfl, ?_⟩) (by assumption) ?_; rotate_left; (· (intro w' hSw'; (try dsimp only at hSw'); go_simp; (try with_reducible rfl))); simp only [Act.put, List.setIfInBounds_toArray, List.set_cons_zero, List.set_cons_succ, List.getElem_toArray, List.getElem_cons_zero, List.getElem_cons_succ, Array.getInternal_eq_getElem]; refine wpAnyH_take (i := 7) (v := ?_) rfl (by kernel_rfl) (by kernel_rfl) (by kernel_rfl) (fun _ _ _ h => h) (Or.inl ⟨by rfl, ?_⟩) (by assumption) ?_; rotate_left; (· (intro w' hSw'; (try dsimp only at hSw'); go_simp; (try with_reducible rfl))); simp only [Act.put, List.setIfInBounds_toArray, List.set_cons_zero, List.set_cons_succ, List.getElem_toArray, List.getElem_cons_zero, List.getElem_cons_succ, Array.getInternal_eq_getElem]; refine wpAnyH_take (i := 8) (v := ?_) rfl (by kernel_rfl) (by kernel_rfl) (by kernel_rfl) (fun _ _ _ h => h) (Or.inl ⟨by rfl, ?_⟩) (by assumption) ?_; rotate_left; (· (intro w' hSw'; (try dsimp only at hSw'); go_simp; (try with_reducible rfl))); simp only [Act.put, List.setIfInBounds_toArray, List.set_cons_zero, List.set_cons_succ, List.getElem_toArray, List.getElem_cons_zero, List.getElem_cons_succ, Array.getInternal_eq_getElem]; refine wpAnyH_take (i := 9) (v := ?_) rfl (by kernel_rfl) (by kernel_rfl) (by kernel_rfl) (fun _ _ _ h => h) (Or.inl ⟨by rfl, ?_⟩) (by assumption) ?_; rotate_left; (· (intro w' hSw'; (try dsimp only at hSw'); go_simp; (try with_reducible rfl))); simp only [Act.put, List.setIfInBounds_toArray, List.set_cons_zero, List.set_cons_succ, List.getElem_toArray, List.getElem_cons_zero, List.getElem_cons_succ, Array.getInternal_eq_getElem]
        refine wpAnyH_ready (rs := [10]) (by kernel_rfl) (by simp) (AllReadyH.cons rfl (fun K hK => ?_) AllReadyH.nil); ((refine step_append_sl _ (by rfl) (.tmp 58) (.tmp 59) 25 (by rfl) (E := u8E) (base := w2.heap.size) Tryd.underlying25 hi8 hy0 hy1 hy2 rfl (hown.below (by (repeat (first | with_reducible exact Below.refl _ _ | with_reducible assumption | with_reducible refine bdraw ?_ | with_reducible refine bdrewN ?_ _ | with_reducible refine balloc ?_ _ | with_reducible refine bset ?_ (by simp <;> omega) | with_reducible refine bstep ?_ (by assumption) | with_reducible refine btrans ?_ (by assumption)))) (Nat.le_refl _)) (hq.below (by (repeat (first | with_reducible exact Below.refl _ _ | with_reducible assumption | with_reducible refine bdraw ?_ | with_reducible refine bdrewN ?_ _ | with_reducible refine balloc ?_ _ | with_reducible refine bset ?_ (by simp <;> omega) | with_reducible refine bstep ?_ (by assumption) | with_reducible refine btrans ?_ (by assumption)))) (Nat.le_refl _)) (by rfl) (by rfl) (by unfold maxLen; omega) (by omega) (by simp <;> omega) ?_; intro v6 w6 xs6 ys6 hrx ho6 hry g6 hv6)); refine hK.out _ _ ?_ (fun hHeld => ?_); (· ((try dsimp only); (refine ⟨?_, ?_⟩ <;> (first | exact atg (atk t0 (by (repeat (first | with_reducible exact Below.refl _ _ | with_reducible assumption | with_reducible refine bdraw ?_ | with_reducible refine bdrewN ?_ _ | with_reducible refine balloc ?_ _ | with_reducible refine bset ?_ (by simp <;> omega) | with_reducible refine bstep ?_ (by assumption) | with_reducible refine btrans ?_ (by assumption))))) g6 (fun g hg => (hub g hg).1.1) | exact atg (atk t1 (by (repeat (first | with_reducible exact Below.refl _ _ | with_reducible assumption | with_reducible refine bdraw ?_ | with_reducible refine bdrewN ?_ _ | with_reducible refine balloc ?_ _ | with_reducible refine bset ?_ (by simp <;> omega) | with_reducible refine bstep ?_ (by assumption) | with_reducible refine btrans ?_ (by assumption))))) g6 (fun g hg => (hub g hg).1.2))))); clear hK K; (try simp only [Act.put, List.setIfInBounds_toArray, List.set_cons_zero, List.set_cons_succ, List.getElem_toArray, List.getElem_cons_zero, List.getElem_cons_succ, Array.getInternal_eq_getElem])
        have o6 : Own u8E Any w6 w2.heap.size 5 v6 (f0.b ++ b) := ⟨_, ho6, (show Reps u8E Any w6 xs6 f0.b from ⟨hrx.1, hrx.2⟩).append (show Reps u8E Any w6 ys6 b from ⟨hry.1, hry.2⟩)⟩
        obtain ⟨A6, c6, rfl, _⟩ := o6.slAny.shape
        have q6 := blkg r0 (grown_undrew g6) (fun g' hg' => (hub g' hg').1.1)
        have z6 := blkg zz (grown_undrew g6) (fun g' hg' => by have := (hub g' hg').2; omega)
        have k6 : w6.frozen? ⟨g, i * 3 + 1, none⟩ = false := (frozen_grown (grown_undrew g6) hg2 (fun e => (hub g e).1.2 rfl)).trans hfz
        refine wpAnyH_take (i := 11) (v := ?_) rfl (by kernel_rfl) (by kernel_rfl) (by kernel_rfl) (fun _ _ _ h => h) (Or.inl ⟨by rfl, ?_⟩) (by assumption) ?_; rotate_left; (· (intro w' hSw'; (try dsimp only at hSw'); go_simp; (try with_reducible rfl))); simp only [Act.put, List.setIfInBounds_toArray, List.set_cons_zero, List.set_cons_succ, List.getElem_toArray, List.getElem_cons_zero, List.getElem_cons_succ, Array.getInternal_eq_getElem]; refine wpAnyH_take (i := 12) (v := ?_) rfl (by kernel_rfl) (by kernel_rfl) (by kernel_rfl) (fun _ _ _ h => h) (Or.inl ⟨by rfl, ?_⟩) (by assumption) ?_; rotate_left; (· (intro w' hSw'; (try dsimp only at hSw'); go_simp; (try with_reducible rfl))); simp only [Act.put, List.setIfInBounds_toArray, List.set_cons_zero, List.set_cons_succ, List.getElem_toArray, List.getElem_cons_zero, List.getElem_cons_succ, Array.getInternal_eq_getElem]
        refine wpAnyH_done (by kernel_rfl) ?_ _; refine lastQ_step rfl (fun K hK => ?_); (go_simp); refine hK.out _ _ ?_; clear hK K; (try simp only [Act.put, List.setIfInBounds_toArray, List.set_cons_zero, List.set_cons_succ, List.getElem_toArray, List.getElem_cons_zero, List.getElem_cons_succ, Array.getInternal_eq_getElem])
        have hfin := HFr.out.grow HFI.out HUI.out (grown_undrew g6) o6 hv6
        have b6 : Below w.heap.size w w6 := bw4.trans (bgrown (grown_undrew g6) (by have := bw4.size; omega) (fun g' hg' => by have := (hub g' hg').2; have := bw2.size; omega))
        have r7 := (heap_setCell_other w6 ⟨g, i * 3 + 1, none⟩ w3.heap.size (.slice A6 (f0.b ++ b).length c6) (by simp; omega)).trans q6
        have z7 := (heap_setCell_other w6 ⟨g, i * 3 + 1, none⟩ (w.heap.size + 1) (.slice A6 (f0.b ++ b).length c6) (by simp; omega)).trans z6
        have b7 : Below w.heap.size w (w6.setCell ⟨g, i * 3 + 1, none⟩ (.slice A6 (f0.b ++ b).length c6)) := b6.setCell (by simp <;> omega) _
        simp only [List.length_append] at hfin r7 z7 b7 ⊢
        clear q6 z6 b6 o6 hv6 hrx hry ho6 g6 k6 t0 t1 hown hub hfz ca1 HUI zz r0
        generalize w6.setCell ⟨g, i * 3 + 1, none⟩ (.slice A6 (f0.b.length + b.length) c6) = W7 at *
        have xy0 : W7.cell? ⟨w3.heap.size, 0, none⟩ = some (.int .i64 room) := cell_of_row _ _ 0 _ _ _ r7; have fy0 : W7.frozen? ⟨w3.heap.size, 0, none⟩ = false := frozen_of_row _ _ 0 _ _ r7; have xy1 : W7.cell? ⟨w3.heap.size, 1, none⟩ = some (.slice (some ⟨g, 0, none⟩) l.length c3) := cell_of_row _ _ 1 _ _ _ r7; have fy1 : W7.frozen? ⟨w3.heap.size, 1, none⟩ = false := frozen_of_row _ _ 1 _ _ r7
        have xv0 : W7.cell? ⟨w.heap.size + 1, 0, none⟩ = some (.int .i64 0) := cell_of_row _ _ 0 _ _ _ z7; have fv0 : W7.frozen? ⟨w.heap.size + 1, 0, none⟩ = false := frozen_of_row _ _ 0 _ _ z7; have xv1 : W7.cell? ⟨w.heap.size + 1, 1, none⟩ = some (.slice none 0 0) := cell_of_row _ _ 1 _ _ _ z7; have fv1 : W7.frozen? ⟨w.heap.size + 1, 1, none⟩ = false := frozen_of_row _ _ 1 _ _ z7
        go_wp2
        refine bodyPost_ret (results_cell_tmp1 rfl _ _ (w.heap.size + 1) 24 #[.int .i64 room, .slice (some ⟨g, 0, none⟩) l.length c3] (0, 0) _ rfl (set2 z7) Tryd.underlying24 rfl (by kernel_rfl)) rfl ?_
        refine ⟨_, us.set i (.slice A6 (f0.b.length + b.length) c6), by rw [HR.out.1, HR.out.2.2]; rfl, ?_, by (repeat (first | with_reducible exact Below.refl _ _ | with_reducible assumption | with_reducible refine bdraw ?_ | with_reducible refine bdrewN ?_ _ | with_reducible refine balloc ?_ _ | with_reducible refine bset ?_ (by simp <;> omega) | with_reducible refine bstep ?_ (by assumption) | with_reducible refine btrans ?_ (by assumption)))⟩
        rw [HRR.out]
        have hfin' := (show FP (BO w2.heap.size) w2.heap.size W7 _ (l.set i ⟨f0.n, f0.b ++ b, f0.s⟩) _ (l.set i ⟨f0.n, f0.b ++ b, f0.s⟩).length by rw [List.length_set]; exact hfin)
        exact ((hfin'.far (BO.ok _) (by simp; omega)).far (BO.ok _) (by simp; omega)).low (by have := bw2.size; omega)
      | false =>
        have hno : ¬ ∃ h : i < l.length, l[i].n = n := fun h => by have := HI.out.2.2.2.2 h; cases this
        have hmiss := app1_miss (b := b) HI.out.1 HI.out.2.1 HI.out.2.2.1 hno
        have HRR : Hid (apF room l n b = (l.insertIdx i ⟨n, [], 0⟩).set i ⟨n, ([] : List UInt8) ++ b, 0⟩) := Lib.hid (HR.out.2.1.trans hmiss)
        have hile := HI.out.1
        have htl := tris_len l us hF.len
        have hF4 := hF.below (w' := w4.alloc (.cells #[.int .i64 n, .slice none 0 0, .int .i64 0] 50)) (BO.ok _) (by (repeat (first | with_reducible exact Below.refl _ _ | with_reducible assumption | with_reducible refine bdraw ?_ | with_reducible refine bdrewN ?_ _ | with_reducible refine balloc ?_ _ | with_reducible refine bset ?_ (by simp <;> omega) | with_reducible refine bstep ?_ (by assumption) | with_reducible refine btrans ?_ (by assumption)))) hz3
        have HF3 := Lib.hid hF
        have HTL := Lib.hid htl
        clear hmiss hF r3 hno htl
        go_wp2_with fail
        refine (insert_c (B := w2.heap.size) (i := i) (x := ⟨.int .i64 n, .slice none 0 0, .int .i64 0⟩) ⟨rfl, rfl, rfl⟩ hF4.row (by rw [HTL.out]; exact hile) (by rw [HTL.out]; omega) (heap_alloc_new w4 _) (by simp; omega) (fun e => by have := (HF3.out.row.lt _ e).2; omega)).mono ?_
        rintro e w5 ⟨v5, rfl, o5, g5, hv5⟩
        have hF5 := hF4.insert hile o5 g5 hv5
        obtain ⟨A5, c5, hv5', hc7, hc8, _⟩ := (hF5.sl (BO.ok _)).shape
        rw [List.length_insertIdx_of_le_length hile] at hv5' hc7
        subst hv5'
        unfold maxLen at hc8
        have hblk : ∀ g', (Value.slice A3 l.length c3).ownBlock = some g' → g' < w3.heap.size ∧ w2.heap.size ≤ g' := fun g' hg' => ⟨(HF3.out.row.lt g' hg').2, (HF3.out.row.lt g' hg').1⟩
        have r5 := blkg (blkb r4 (w' := w4.alloc (.cells #[.int .i64 n, .slice none 0 0, .int .i64 0] 50)) (by (repeat (first | with_reducible exact Below.refl _ _ | with_reducible assumption | with_reducible refine bdraw ?_ | with_reducible refine bdrewN ?_ _ | with_reducible refine balloc ?_ _ | with_reducible refine bset ?_ (by simp <;> omega) | with_reducible refine bstep ?_ (by assumption) | with_reducible refine btrans ?_ (by assumption))))) g5 (fun g' hg' => by have := (hblk g' hg').1; omega)
        have z5 := blkg (blkb z4 (w' := w4.alloc (.cells #[.int .i64 n, .slice none 0 0, .int .i64 0] 50)) (by (repeat (first | with_reducible exact Below.refl _ _ | with_reducible assumption | with_reducible refine bdraw ?_ | with_reducible refine bdrewN ?_ _ | with_reducible refine balloc ?_ _ | with_reducible refine bset ?_ (by simp <;> omega) | with_reducible refine bstep ?_ (by assumption) | with_reducible refine btrans ?_ (by assumption))))) g5 (fun g' hg' => by have := (hblk g' hg').2; omega)
        have bw5 : Below w.heap.size w w5 := (by (repeat (first | with_reducible exact Below.refl _ _ | with_reducible assumption | with_reducible refine bdraw ?_ | with_reducible refine bdrewN ?_ _ | with_reducible refine balloc ?_ _ | with_reducible refine bset ?_ (by simp <;> omega) | with_reducible refine bstep ?_ (by assumption) | with_reducible refine btrans ?_ (by assumption))) : Below w.heap.size w (w4.alloc (.cells #[.int .i64 n, .slice none 0 0, .int .i64 0] 50))).trans (bgrown g5 (by have := bw2.size; simp; omega) (fun g' hg' => by have := (hblk g' hg').2; have := bw2.size; omega))
        obtain ⟨g, rfl, hgg1, hgg2⟩ := hF5.row.form3 (by omega)
        have hgT : g ≠ w3.heap.size := fun e => by
          rcases hv5 with h | h
          · have := (hblk g h.symm).1; omega
          · have h := some_blk h; simp at h; omega
        have hF6 := hF5.keepAll (w' := w5.setCell ⟨w3.heap.size, 1, none⟩ (.slice (some ⟨g, 0, none⟩) (l.length + 1) c5)) (BO.ok _) (fun g' hg' => heap_setCell_other _ _ _ _ (by have := some_blk (g := g) hg'; simp; omega)) (fun j uu g' hu hj hg' => heap_setCell_other _ _ _ _ (by
          rcases insert_get (by rw [HF3.out.len]; exact hile) hu with ⟨_, h2⟩ | ⟨_, h2⟩ | ⟨_, h2⟩
          · have := (HF3.out.lt (BO.ok _) h2 (by have := (List.getElem?_eq_some_iff.1 h2).1; rw [HF3.out.len] at this; exact this) hg').2; simp; omega
          · subst h2; cases hg'
          · have := (HF3.out.lt (BO.ok _) h2 (by have := (List.getElem?_eq_some_iff.1 h2).1; rw [HF3.out.len] at this; exact this) hg').2; simp; omega))
        have r6 := heap_setCell_same w5 w3.heap.size 1 _ _ (.slice (some ⟨g, 0, none⟩) (l.length + 1) c5) r5
        have z6 := (heap_setCell_other w5 ⟨w3.heap.size, 1, none⟩ (w.heap.size + 1) (.slice (some ⟨g, 0, none⟩) (l.length + 1) c5) (by simp; omega)).trans z5
        have bw6 : Below w.heap.size w (w5.setCell ⟨w3.heap.size, 1, none⟩ (.slice (some ⟨g, 0, none⟩) (l.length + 1) c5)) := bw5.setCell (by have := bw2.size; simp <;> omega) _
        have bw7 : Below w2.heap.size w2 (w5.setCell ⟨w3.heap.size, 1, none⟩ (.slice (some ⟨g, 0, none⟩) (l.length + 1) c5)) := ((by (repeat (first | with_reducible exact Below.refl _ _ | with_reducible assumption | with_reducible refine bdraw ?_ | with_reducible refine bdrewN ?_ _ | with_reducible refine balloc ?_ _ | with_reducible refine bset ?_ (by simp <;> omega) | with_reducible refine bstep ?_ (by assumption) | with_reducible refine btrans ?_ (by assumption))) : Below w2.heap.size w2 (w4.alloc (.cells #[.int .i64 n, .slice none 0 0, .int .i64 0] 50))).trans (bgrown g5 (by simp; omega) (fun g' hg' => (hblk g' hg').2))).setCell (by simp <;> omega) _
        have xs0 : w5.cell? ⟨w3.heap.size, 0, none⟩ = some (.int .i64 room) := cell_of_row _ _ 0 _ _ _ r5; have fs0 : w5.frozen? ⟨w3.heap.size, 0, none⟩ = false := frozen_of_row _ _ 0 _ _ r5; have xs1 : w5.cell? ⟨w3.heap.size, 1, none⟩ = some (.slice A3 l.length c3) := cell_of_row _ _ 1 _ _ _ r5; have fs1 : w5.frozen? ⟨w3.heap.size, 1, none⟩ = false := frozen_of_row _ _ 1 _ _ r5
        have hfi : (l.insertIdx i ⟨n, [], 0⟩)[i]? = some ⟨n, [], 0⟩ := by rw [List.getElem?_insertIdx_self, if_pos hile]
        have hui : (us.insertIdx i (.slice none 0 0))[i]? = some (.slice none 0 0) := by rw [List.getElem?_insertIdx_self, if_pos (by rw [HF3.out.len]; exact hile)]
        have hiI : (i : Int) < (l.length : Int) + 1 := by omega
        have hi0 : (0 : Int) ≤ (i : Int) := by omega
        have hiJ : (i : Int) < ((l.length + 1 : Nat) : Int) := by omega
        go_wp2_with fail
        clear hF4 hF5 o5 hv5 r4 r5 z4 z5 hblk bw5
        have hF := hF6
        have r0 := r6
        have zz := z6
        have bw5 := bw6
        clear hF6 r6 z6 bw6
        generalize w5.setCell ⟨w3.heap.size, 1, none⟩ (.slice (some ⟨g, 0, none⟩) (l.length + 1) c5) = W5 at *
        have HFr := Lib.hid hF
        obtain ⟨_, ca1, _⟩ := hF.row.tri3 (tris_get hfi hui)
        have hfz := hF.row.free3 (i * 3 + 1)
        have hub : ∀ g', (Value.slice none 0 0).ownBlock = some g' → (g' ≠ w3.heap.size ∧ g' ≠ g) ∧ w2.heap.size ≤ g' := (fun g' hg' => by cases hg')
        have hown : Own u8E Any W5 w2.heap.size 5 (.slice none 0 0) ([] : List UInt8) := hF.own i _ _ hui hfi (List.getElem?_eq_some_iff.1 hfi).1
        obtain ⟨hg1, hg2⟩ := hF.row.lt g rfl
        have t0 : At Any W5 w3.heap.size 1 (.slice (some ⟨g, 0, none⟩) (l.length + 1) c5) := (At.of_cell (cell_of_row _ w3.heap.size 1 _ _ _ r0)).2
        have t1 : At Any W5 g (i * 3 + 1) (.slice none 0 0) := ca1
        have HFI := Lib.hid hfi
        have HUI := Lib.hid hui
        clear hF hfi hui
        refine region_push 13 (S := (fun w' => w'.cell? ⟨w3.heap.size, 1, none⟩ = some (.slice (some ⟨g, 0, none⟩) (l.length + 1) c5) ∧ w'.cell? ⟨g, i * 3 + 1, none⟩ = some (.slice none 0 0))) (by kernel_rfl) (by kernel_rfl) ?_ (fun hHeld => ?_); (· ((try dsimp only); (refine ⟨?_, ?_⟩ <;> (first | assumption | exact atb t0 (by (repeat (first | with_reducible exact Below.refl _ _ | with_reducible assumption | with_reducible refine bdraw ?_ | with_reducible refine bdrewN ?_ _ | with_reducible refine balloc ?_ _ | with_reducible refine bset ?_ (by simp <;> omega) | with_reducible refine bstep ?_ (by assumption) | with_reducible refine btrans ?_ (by assumption)))) | exact atb t1 (by (repeat (first | with_reducible exact Below.refl _ _ | with_reducible assumption | with_reducible refine bdraw ?_ | with_reducible refine bdrewN ?_ _ | with_reducible refine balloc ?_ _ | with_reducible refine bset ?_ (by simp <;> omega) | with_reducible refine bstep ?_ (by assumption) | with_reducible refine btrans ?_ (by assumption)))))))); simp only [List.take_succ_cons, List.take_zero]
        refine wpAnyH_take (i := 0) (v := ?_) rfl (by kernel_rfl) (by kernel_rfl) (by kernel_rfl) (fun _ _ _ h => h) (Or.inl ⟨by rfl, ?_⟩) (by assumption) ?_; rotate_left; (· (intro w' hSw'; (try dsimp only at hSw'); go_simp; (try with_reducible rfl))); simp only [Act.put, List.setIfInBounds_toArray, List.set_cons_zero, List.set_cons_succ, List.getElem_toArray, List.getElem_cons_zero, List.getElem_cons_succ, Array.getInternal_eq_getElem]; refine wpAnyH_take (i := 1) (v := ?_) rfl (by kernel_rfl) (by kernel_rfl) (by kernel_rfl) (fun _ _ _ h => h) (Or.inl ⟨by rfl, ?_⟩) (by assumption) ?_; rotate_left; (· (intro w' hSw'; (try dsimp only at hSw'); go_simp; (try with_reducible rfl))); simp only [Act.put, List.setIfInBounds_toArray, List.set_cons_zero, List.set_cons_succ, List.getElem_toArray, List.getElem_cons_zero, List.getElem_cons_succ, Array.getInternal_eq_getElem]; refine wpAnyH_take (i := 2) (v := ?_) rfl (by kernel_rfl) (by kernel_rfl) (by kernel_rfl) (fun _ _ _ h => h) (Or.inl ⟨by rfl, ?_⟩) (by assumption) ?_; rotate_left; (· (intro w' hSw'; (try dsimp only at hSw'); go_simp; (try with_reducible rfl))); simp only [Act.put, List.setIfInBounds_toArray, List.set_cons_zero, List.set_cons_succ, List.getElem_toArray, List.getElem_cons_zero, List.getElem_cons_succ, Array.getInternal_eq_getElem]; refine wpAnyH_take (i := 3) (v := ?_) rfl (by kernel_rfl) (by kernel_rfl) (by kernel_rfl) (fun _ _ _ h => h) (Or.inl ⟨by rfl, ?_⟩) (by assumption) ?_; rotate_left; (· (intro w' hSw'; (try dsimp only at hSw'); go_simp; (try with_reducible rfl))); simp only [Act.put, List.setIfInBounds_toArray, List.set_cons_zero, List.set_cons_succ, List.getElem_toArray, List.getElem_cons_zero, List.getElem_cons_succ, Array.getInternal_eq_getElem]; refine wpAnyH_take (i := 4) (v := ?_) rfl (by kernel_rfl) (by kernel_rfl) (by kernel_rfl) (fun _ _ _ h => h) (Or.inl ⟨by rfl, ?_⟩) (by assumption) ?_; rotate_left; (· (intro w' hSw'; (try dsimp only at hSw'); go_simp; (try with_reducible rfl))); simp only [Act.put, List.setIfInBounds_toArray, List.set_cons_zero, List.set_cons_succ, List.getElem_toArray, List.getElem_cons_zero, List.getElem_cons_succ, Array.getInternal_eq_getElem]; refine wpAnyH_take (i := 5) (v := ?_) rfl (by kernel_rfl) (by kernel_rfl) (by kernel_rfl) (fun _ _ _ h => h) (Or.inl ⟨by rfl, ?_⟩) (by assumption) ?_; rotate_left; (· (intro w' hSw'; (try dsimp only at hSw'); go_simp; (try with_reducible rfl))); simp only [Act.put, List.setIfInBounds_toArray, List.set_cons_zero, List.set_cons_succ, List.getElem_toArray, List.getElem_cons_zero, List.getElem_cons_succ, Array.getInternal_eq_getElem]; refine wpAnyH_take (i := 6) (v := ?_) rfl (by kernel_rfl) (by kernel_rfl) (by kernel_rfl) (fun _ _ _ h => h) (Or.inl ⟨by rfl, ?_⟩) (by assumption) ?_; rotate_left; (· (intro w' hSw'; (try dsimp only at hSw'); go_simp; (try with_reducible rfl))); simp only [Act.put, List.setIfInBounds_toArray, List.set_cons_zero, List.set_cons_succ, List.getElem_toArray, List.getElem_cons_zero, List.getElem_cons_succ, Array.getInternal_eq_getElem]; refine wpAnyH_take (i := 7) (v := ?_) rfl (by kernel_rfl) (by kernel_rfl) (by kernel_rfl) (fun _ _ _ h => h) (Or.inl ⟨by rfl, ?_⟩) (by assumption) ?_; rotate_left; (· (intro w' hSw'; (try dsimp only at hSw'); go_simp; (try with_reducible rfl))); simp only [Act.put, List.setIfInBounds_toArray, List.set_cons_zero, List.set_cons_succ, List.getElem_toArray, List.getElem_cons_zero, List.getElem_cons_succ, Array.getInternal_eq_getElem]; refine wpAnyH_take (i := 8) (v := ?_) rfl (by kernel_rfl) (by kernel_rfl) (by kernel_rfl) (fun _ _ _ h => h) (Or.inl ⟨by rfl, ?_⟩) (by assumption) ?_; rotate_left; (· (intro w' hSw'; (try dsimp only at hSw'); go_simp; (try with_reducible rfl))); simp only [Act.put, List.setIfInBounds_toArray, List.set_cons_zero, List.set_cons_succ, List.getElem_toArray, List.getElem_cons_zero, List.getElem_cons_succ, Array.getInternal_eq_getElem]; refine wpAnyH_take (i := 9) (v := ?_) rfl (by kernel_rfl) (by kernel_rfl) (by kernel_rfl) (fun _ _ _ h => h) (Or.inl ⟨by rfl, ?_⟩) (by assumption) ?_; rotate_left; (· (intro w' hSw'; (try dsimp only at hSw'); go_simp; (try with_reducible rfl))); simp only [Act.put, List.setIfInBounds_toArray, List.set_cons_zero, List.set_cons_succ, List.getElem_toArray, List.getElem_cons_zero, List.getElem_cons_succ, Array.getInternal_eq_getElem]
        refine wpAnyH_ready (rs := [10]) (by kernel_rfl) (by simp) (AllReadyH.cons rfl (fun K hK => ?_) AllReadyH.nil); ((refine step_append_sl _ (by rfl) (.tmp 58) (.tmp 59) 25 (by rfl) (E := u8E) (base := w2.heap.size) Tryd.underlying25 hi8 hy0 hy1 hy2 rfl (hown.below (by (repeat (first | with_reducible exact Below.refl _ _ | with_reducible assumption | with_reducible refine bdraw ?_ | with_reducible refine bdrewN ?_ _ | with_reducible refine balloc ?_ _ | with_reducible refine bset ?_ (by simp <;> omega) | with_reducible refine bstep ?_ (by assumption) | with_reducible refine btrans ?_ (by assumption)))) (Nat.le_refl _)) (hq.below (by (repeat (first | with_reducible exact Below.refl _ _ | with_reducible assumption | with_reducible refine bdraw ?_ | with_reducible refine bdrewN ?_ _ | with_reducible refine balloc ?_ _ | with_reducible refine bset ?_ (by simp <;> omega) | with_reducible refine bstep ?_ (by assumption) | with_reducible refine btrans ?_ (by assumption)))) (Nat.le_refl _)) (by rfl) (by rfl) (by unfold maxLen; simp <;> omega) (by simp <;> omega) (by simp <;> omega) ?_; intro v6 w6 xs6 ys6 hrx ho6 hry g6 hv6)); refine hK.out _ _ ?_ (fun hHeld => ?_); (· ((try dsimp only); (refine ⟨?_, ?_⟩ <;> (first | exact atg (atk t0 (by (repeat (first | with_reducible exact Below.refl _ _ | with_reducible assumption | with_reducible refine bdraw ?_ | with_reducible refine bdrewN ?_ _ | with_reducible refine balloc ?_ _ | with_reducible refine bset ?_ (by simp <;> omega) | with_reducible refine bstep ?_ (by assumption) | with_reducible refine btrans ?_ (by assumption))))) g6 (fun g hg => (hub g hg).1.1) | exact atg (atk t1 (by (repeat (first | with_reducible exact Below.refl _ _ | with_reducible assumption | with_reducible refine bdraw ?_ | with_reducible refine bdrewN ?_ _ | with_reducible refine balloc ?_ _ | with_reducible refine bset ?_ (by simp <;> omega) | with_reducible refine bstep ?_ (by assumption) | with_reducible refine btrans ?_ (by assumption))))) g6 (fun g hg => (hub g hg).1.2))))); clear hK K; (try simp only [Act.put, List.setIfInBounds_toArray, List.set_cons_zero, List.set_cons_succ, List.getElem_toArray, List.getElem_cons_zero, List.getElem_cons_succ, Array.getInternal_eq_getElem])
        have o6 : Own u8E Any w6 w2.heap.size 5 v6 (([] : List UInt8) ++ b) := ⟨_, ho6, (show Reps u8E Any w6 xs6 ([] : List UInt8) from ⟨hrx.1, hrx.2⟩).append (show Reps u8E Any w6 ys6 b from ⟨hry.1, hry.2⟩)⟩
        obtain ⟨A6, c6, rfl, _⟩ := o6.slAny.shape
        have q6 := blkg r0 (grown_undrew g6) (fun g' hg' => (hub g' hg').1.1)
        have z6 := blkg zz (grown_undrew g6) (fun g' hg' => by have := (hub g' hg').2; omega)
        have k6 : w6.frozen? ⟨g, i * 3 + 1, none⟩ = false := (frozen_grown (grown_undrew g6) hg2 (fun e => (hub g e).1.2 rfl)).trans hfz
        refine wpAnyH_take (i := 11) (v := ?_) rfl (by kernel_rfl) (by kernel_rfl) (by kernel_rfl) (fun _ _ _ h => h) (Or.inl ⟨by rfl, ?_⟩) (by assumption) ?_; rotate_left; (· (intro w' hSw'; (try dsimp only at hSw'); go_simp; (try with_reducible rfl))); simp only [Act.put, List.setIfInBounds_toArray, List.set_cons_zero, List.set_cons_succ, List.getElem_toArray, List.getElem_cons_zero, List.getElem_cons_succ, Array.getInternal_eq_getElem]; refine wpAnyH_take (i := 12) (v := ?_) rfl (by kernel_rfl) (by kernel_rfl) (by kernel_rfl) (fun _ _ _ h => h) (Or.inl ⟨by rfl, ?_⟩) (by assumption) ?_; rotate_left; (· (intro w' hSw'; (try dsimp only at hSw'); go_simp; (try with_reducible rfl))); simp only [Act.put, List.setIfInBounds_toArray, List.set_cons_zero, List.set_cons_succ, List.getElem_toArray, List.getElem_cons_zero, List.getElem_cons_succ, Array.getInternal_eq_getElem]
        refine wpAnyH_done (by kernel_rfl) ?_ _; refine lastQ_step rfl (fun K hK => ?_); (go_simp); refine hK.out _ _ ?_; clear hK K; (try simp only [Act.put, List.setIfInBounds_toArray, List.set_cons_zero, List.set_cons_succ, List.getElem_toArray, List.getElem_cons_zero, List.getElem_cons_succ, Array.getInternal_eq_getElem])
        have hfin := HFr.out.grow HFI.out HUI.out (grown_undrew g6) o6 hv6
        have b6 : Below w.heap.size w w6 := bw5.trans (bgrown (grown_undrew g6) (by have := bw5.size; omega) (fun g' hg' => by have := (hub g' hg').2; have := bw2.size; omega))
        have r7 := (heap_setCell_other w6 ⟨g, i * 3 + 1, none⟩ w3.heap.size (.slice A6 (([] : List UInt8) ++ b).length c6) (by simp; omega)).trans q6
        have z7 := (heap_setCell_other w6 ⟨g, i * 3 + 1, none⟩ (w.heap.size + 1) (.slice A6 (([] : List UInt8) ++ b).length c6) (by simp; omega)).trans z6
        have b7 : Below w.heap.size w (w6.setCell ⟨g, i * 3 + 1, none⟩ (.slice A6 (([] : List UInt8) ++ b).length c6)) := b6.setCell (by simp <;> omega) _
        simp only [List.length_append, List.length_nil, Nat.zero_add] at hfin r7 z7 b7 ⊢
        clear q6 z6 b6 o6 hv6 hrx hry ho6 g6 k6 t0 t1 hown hub hfz ca1 HUI zz r0
        generalize w6.setCell ⟨g, i * 3 + 1, none⟩ (.slice A6 b.length c6) = W7 at *
        have xy0 : W7.cell? ⟨w3.heap.size, 0, none⟩ = some (.int .i64 room) := cell_of_row _ _ 0 _ _ _ r7; have fy0 : W7.frozen? ⟨w3.heap.size, 0, none⟩ = false := frozen_of_row _ _ 0 _ _ r7; have xy1 : W7.cell? ⟨w3.heap.size, 1, none⟩ = some (.slice (some ⟨g, 0, none⟩) (l.length + 1) c5) := cell_of_row _ _ 1 _ _ _ r7; have fy1 : W7.frozen? ⟨w3.heap.size, 1, none⟩ = false := frozen_of_row _ _ 1 _ _ r7
        have xv0 : W7.cell? ⟨w.heap.size + 1, 0, none⟩ = some (.int .i64 0) := cell_of_row _ _ 0 _ _ _ z7; have fv0 : W7.frozen? ⟨w.heap.size + 1, 0, none⟩ = false := frozen_of_row _ _ 0 _ _ z7; have xv1 : W7.cell? ⟨w.heap.size + 1, 1, none⟩ = some (.slice none 0 0) := cell_of_row _ _ 1 _ _ _ z7; have fv1 : W7.frozen? ⟨w.heap.size + 1, 1, none⟩ = false := frozen_of_row _ _ 1 _ _ z7
        go_wp2
        refine bodyPost_ret (results_cell_tmp1 rfl _ _ (w.heap.size + 1) 24 #[.int .i64 room, .slice (some ⟨g, 0, none⟩) (l.length + 1) c5] (0, 0) _ rfl (set2 z7) Tryd.underlying24 rfl (by kernel_rfl)) rfl ?_
        refine ⟨_, (us.insertIdx i (.slice none 0 0)).set i (.slice A6 b.length c6), by rw [HR.out.1, HR.out.2.2]; rfl, ?_, by (repeat (first | with_reducible exact Below.refl _ _ | with_reducible assumption | with_reducible refine bdraw ?_ | with_reducible refine bdrewN ?_ _ | with_reducible refine balloc ?_ _ | with_reducible refine bset ?_ (by simp <;> omega) | with_reducible refine bstep ?_ (by assumption) | with_reducible refine btrans ?_ (by assumption)))⟩
        rw [HRR.out]
        have hfin' := (show FP (BO w2.heap.size) w2.heap.size W7 _ ((l.insertIdx i ⟨n, [], 0⟩).set i ⟨n, ([] : List UInt8) ++ b, 0⟩) _ ((l.insertIdx i ⟨n, [], 0⟩).set i ⟨n, ([] : List UInt8) ++ b, 0⟩).length by rw [List.length_set]; exact hfin)
        exact ((hfin'.far (BO.ok _) (by simp; omega)).far (BO.ok _) (by simp; omega)).low (by have := bw2.size; omega)
end Go.Proofs.YtbahiohlhhdkcaaDoor
