/- Packets: doubled, delivered, lost, in the document's words. -/
import Derived.Test.YtggmhhbhpmfcnaaPat
import Derived.Deep.RegionLaw
namespace Go.Proofs.Ytggmhhbhpmfcnaa
open Go.RowKit

theorem one_cut {α : Type} {l : List α} {k : Nat} (hk : k < l.length) : (l.take (k + 1)).drop k = [l[k]] := by
  rw [List.take_succ_eq_append_getElem hk, List.drop_append_of_le_length (by simp; omega), List.drop_eq_nil_of_le (by simp; omega)]
  rfl
theorem fit_one {x : Pk} (h : x.s.length ≤ 140737488355328 ∧ x.h.length ≤ 140737488355328) : Fit [x] := by
  intro p hp
  rw [List.mem_singleton] at hp
  subst hp
  exact h

set_option maxHeartbeats 4000000 in
theorem rcopy_pk_c {S : Foot} {v : Value} {l : List Pk} {i : Int} {w : World} (hp : Sl pkE S w v l) (hf : Fit l) :
    Calls Try.prog 15 #[v, .int .i64 i] w fun e w' => ∃ v', e = .returned (.tuple #[v', .int .i64 (copyE l i)]) ∧
      Own pkE (HiN w.heap.size v'.ownBlock) w' w.heap.size 35 v' (copies l i) ∧ Below w.heap.size w w' := by
  have hp := hp.any
  obtain ⟨i0, hi, hz0, hz1, hz2⟩ := info_parts pk_info
  obtain ⟨A, cap, rfl, hc1, hc2, _⟩ := hp.shape
  unfold maxLen at hc2
  have HA := Lib.hid (rat_c (i := i) hp)
  by_cases hE : atE l i = 0
  · obtain ⟨k, rfl, hk, h4⟩ := atE_ok hE
    by_cases hL : l.length = 4096
    · have HV := Lib.hid (show copies l k = [] ∧ copyE l k = 15 by unfold copies copyE; simp [hE, hL])
      have d1 : ((l.length : Int) == 4096) = true := by simp; omega
      rw [hE] at HA
      clear hE hL
      go_enter Try.func15, Try.ntmps15
      go_wp2_with (go_at_call 30; refine HA.out.mono ?_; rintro e w1 ⟨rfl, b1⟩)
      go_ret2
      rw [HV.out.1, HV.out.2]
      exact ⟨_, rfl, Own.nil, by (repeat (first | with_reducible exact Below.refl _ _ | with_reducible assumption | with_reducible refine bdraw ?_ | with_reducible refine bdrewN ?_ _ | with_reducible refine balloc ?_ _ | with_reducible refine bset ?_ (by simp <;> omega) | with_reducible refine bstep ?_ (by assumption) | with_reducible refine btrans ?_ (by assumption)))⟩
    have HV : Hid (copies l k = l ++ [l[k]] ∧ copyE l k = 0) := by
      unfold Hid copies copyE
      rw [if_pos ⟨hE, hL⟩, if_pos hE, if_neg hL, Int.toNat_natCast, List.getD_eq_getElem?_getD, List.getElem?_eq_getElem hk]
      exact ⟨rfl, rfl⟩
    have d1 : ((l.length : Int) == 4096) = false := by simp; omega
    rw [hE] at HA
    clear hE hL
    obtain ⟨Ac, cc, hcut, rcut⟩ := hp.cut_lh (P := Try.prog) Try.underlying22 hi hz1 (lo := k) (hi := k + 1) (by omega) (by omega) (L := (k : Int)) (H := (k : Int) + 1) rfl rfl
    rw [one_cut hk, show k + 1 - k = 1 by omega] at hcut
    rw [show k + 1 - k = 1 by omega] at rcut
    have hx := fit_one (hf _ (List.getElem_mem hk))
    have hlI : (l.length : Int) ≤ 4096 := by omega
    have hkI : (k : Int) < (l.length : Int) := by omega
    have hk0 : (0 : Int) ≤ (k : Int) := by omega
    have hwr : IntKind.i64.wrap ((k : Int) + 1) = (k : Int) + 1 := IntWalk.i64_in _ (by omega)
    generalize l[k] = x at *
    go_enter Try.func15, Try.ntmps15
    go_wp2_with (go_at_call 30; refine HA.out.mono ?_; rintro e w1 ⟨rfl, b1⟩)
    have z1 := b1.size
    go_region_held3 (fun _ => True)
      (first | trivial)
      (first
        | (go_at_call_of 8 (Value.slice A l.length cap); go_must (refine (rcopied_c (hp.below (by (repeat (first | with_reducible exact Below.refl _ _ | with_reducible assumption | with_reducible refine bdraw ?_ | with_reducible refine bdrewN ?_ _ | with_reducible refine balloc ?_ _ | with_reducible refine bset ?_ (by simp <;> omega) | with_reducible refine bstep ?_ (by assumption) | with_reducible refine btrans ?_ (by assumption)))) (Nat.le_refl _)) (by omega) hf).mono ?_; rintro e w2 ⟨v2, rfl, o2, b2⟩; have hlt1 := o2.lt))
        | (go_at_call_of 8 (Value.slice Ac 1 cc); go_must (refine (rcopied_c (hcut.below (by (repeat (first | with_reducible exact Below.refl _ _ | with_reducible assumption | with_reducible refine bdraw ?_ | with_reducible refine bdrewN ?_ _ | with_reducible refine balloc ?_ _ | with_reducible refine bset ?_ (by simp <;> omega) | with_reducible refine bstep ?_ (by assumption) | with_reducible refine btrans ?_ (by assumption)))) (Nat.le_refl _)) (by simp) hx).mono ?_; rintro e w3 ⟨v3, rfl, o3, b3⟩; have hsl := o3.besideO (B := w1.drew.heap.size) (by have := b2.size; (first | omega | (simp; done) | (simp; omega) | (simp at *; omega))) (fun g hg => by have := (hlt1 g hg).2; (first | omega | (simp; done) | (simp; omega) | (simp at *; omega)))))
        | (refine step_append_two (by rfl) (.tmp 17) (.tmp 23) (by rfl) (E := pkE) (B := w1.drew.heap.size) Try.underlying22 hi hz0 hz1 hz2 rfl (o2.below (by (repeat (first | with_reducible exact Below.refl _ _ | with_reducible assumption | with_reducible refine bdraw ?_ | with_reducible refine bdrewN ?_ _ | with_reducible refine balloc ?_ _ | with_reducible refine bset ?_ (by simp <;> omega) | with_reducible refine bstep ?_ (by assumption) | with_reducible refine btrans ?_ (by assumption)))) (Nat.le_refl _)) (hsl.below (by (repeat (first | with_reducible exact Below.refl _ _ | with_reducible assumption | with_reducible refine bdraw ?_ | with_reducible refine bdrewN ?_ _ | with_reducible refine balloc ?_ _ | with_reducible refine bset ?_ (by simp <;> omega) | with_reducible refine bstep ?_ (by assumption) | with_reducible refine btrans ?_ (by assumption)))) (Nat.le_refl _)) (by rfl) (by rfl) (by unfold maxLen; simp; omega) (by simp; omega) (by have := b2.size; have := b3.size; simp at *; omega) ?_; intro v4 w4 hown4 hb4 hbl4 hg4; have hb4' : Below w.heap.size _ w4 := hb4.mono (by (first | omega | (simp; done) | (simp; omega) | (simp at *; omega))))
        | fail)
    all_goals
      go_wp2
      go_ret2
      rw [HV.out.1, HV.out.2]
      refine ⟨_, rfl, hown4.low (by simp; omega), ?_⟩
      (repeat (first | with_reducible exact Below.refl _ _ | with_reducible assumption | with_reducible refine bdraw ?_ | with_reducible refine bdrewN ?_ _ | with_reducible refine balloc ?_ _ | with_reducible refine bset ?_ (by simp <;> omega) | with_reducible refine bstep ?_ (by assumption) | with_reducible refine btrans ?_ (by assumption)))
  · have HV := Lib.hid (show copies l i = [] ∧ copyE l i = atE l i by unfold copies copyE; simp [hE])
    have d1 : (atE l i != 0) = true := by simpa using hE
    rw [HV.out.1, HV.out.2]
    clear HV
    generalize atE l i = ee at *
    clear hE
    go_enter Try.func15, Try.ntmps15
    go_wp2_with (go_at_call 30; refine HA.out.mono ?_; rintro e w1 ⟨rfl, b1⟩)
    go_ret2
    exact ⟨_, rfl, Own.nil, by (repeat (first | with_reducible exact Below.refl _ _ | with_reducible assumption | with_reducible refine bdraw ?_ | with_reducible refine bdrewN ?_ _ | with_reducible refine balloc ?_ _ | with_reducible refine bset ?_ (by simp <;> omega) | with_reducible refine bstep ?_ (by assumption) | with_reducible refine btrans ?_ (by assumption)))⟩

theorem pk1 {S : Foot} {w : World} {g n c : Nat} {x : Pk} (h : Sl pkE S w (.slice (some ⟨g, 0, none⟩) n c) [x]) :
    ∃ A1 c1 A2 c2, At S w g 0 (.int .i64 x.f) ∧ At S w g 1 (.int .i64 x.t) ∧ At S w g 2 (.slice A1 x.s.length c1) ∧ At S w g 3 (.slice A2 x.h.length c2) ∧ Sl u8E S w (.slice A1 x.s.length c1) x.s ∧ Sl u8E S w (.slice A2 x.h.length c2) x.h := by
  obtain ⟨b, off, A1, c1, A2, c2, e, y0, y1, y2, y3, s1, s2⟩ := h.pk (i := 0) (by simp)
  injection e with e
  injection e with e1 e2
  subst e1 e2
  exact ⟨A1, c1, A2, c2, y0, y1, y2, y3, s1, s2⟩

set_option maxHeartbeats 4000000 in
theorem rdeliver_c {S : Foot} {v : Value} {l : List Pk} {i : Int} {w : World} (hp : Sl pkE S w v l) (hf : Fit l) :
    Calls Try.prog 19 #[v, .int .i64 i] w fun e w' => ∃ A1 c1 A2 c2 vl,
      e = .returned (.tuple #[.agg #[.int .i64 (dlv l i).f, .int .i64 (dlv l i).t, .slice A1 (dlv l i).s.length c1, .slice A2 (dlv l i).h.length c2], vl, .int .i64 (atE l i)]) ∧
      Sl u8E Any w' (.slice A1 (dlv l i).s.length c1) (dlv l i).s ∧ Sl u8E Any w' (.slice A2 (dlv l i).h.length c2) (dlv l i).h ∧
      Own pkE (HiN w.heap.size vl.ownBlock) w' w.heap.size 35 vl (rest l i) ∧ Below w.heap.size w w' := by
  have hp := hp.any
  obtain ⟨i0, hi, hz0, hz1, hz2⟩ := info_parts pk_info
  obtain ⟨A, cap, rfl, hc1, hc2, _⟩ := hp.shape
  unfold maxLen at hc2
  have HA := Lib.hid (rat_c (i := i) (salloc hp (.cells #[.int .i64 0, .int .i64 0, .slice none 0 0, .slice none 0 0] 35)))
  by_cases hE : atE l i = 0
  · obtain ⟨k, rfl, hk, h4⟩ := atE_ok hE
    have HV : Hid (dlv l k = l[k] ∧ rest l k = l.eraseIdx k) := by
      unfold Hid dlv rest
      rw [if_pos hE, if_pos hE, Int.toNat_natCast, List.getD_eq_getElem?_getD, List.getElem?_eq_getElem hk]
      exact ⟨rfl, rfl⟩
    rw [HV.out.1, HV.out.2, hE]
    rw [hE] at HA
    clear hE HV
    obtain ⟨Ac, cc, hcut, rcut⟩ := hp.cut_lh (P := Try.prog) Try.underlying22 hi hz1 (lo := k) (hi := k + 1) (by omega) (by omega) (L := (k : Int)) (H := (k : Int) + 1) rfl rfl
    rw [one_cut hk, show k + 1 - k = 1 by omega] at hcut
    rw [show k + 1 - k = 1 by omega] at rcut
    have hx := fit_one (hf _ (List.getElem_mem hk))
    have hlI : (l.length : Int) ≤ 4096 := by omega
    have hkI : (k : Int) < (l.length : Int) := by omega
    have hk0 : (0 : Int) ≤ (k : Int) := by omega
    generalize l[k] = x at *
    go_enter Try.func19, Try.ntmps19
    go_wp2_with (go_at_call 30; refine HA.out.mono ?_; rintro e w1 ⟨rfl, b1⟩)
    have z1 := b1.size
    rw [World.size_alloc] at z1
    refine (rcopied_c (hp.below (by (repeat (first | with_reducible exact Below.refl _ _ | with_reducible assumption | with_reducible refine bdraw ?_ | with_reducible refine bdrewN ?_ _ | with_reducible refine balloc ?_ _ | with_reducible refine bset ?_ (by simp <;> omega) | with_reducible refine bstep ?_ (by assumption) | with_reducible refine btrans ?_ (by assumption)))) (Nat.le_refl _)) (by omega) hf).mono ?_
    rintro e w2 ⟨v2, rfl, o2, b2⟩
    obtain ⟨g, c2, rfl, hg1, hg2, hg3, hg4⟩ := o2.form1 (by omega)
    unfold maxLen at hg4
    have ht := Try.underlying22
    have q1 := run_cut_h (P := Try.prog) (E := pkE) (g := g) (n := l.length) (k := k) (cap := c2) ht hi hz1 (by omega)
    obtain ⟨Ad, hA, q2⟩ := run_cut_l (P := Try.prog) (E := pkE) (g := g) (n := l.length) (k := k + 1) (cap := c2) ht hi hz1 (by omega)
    have q1' := fun w' => q1 w' .i64 (H := (k : Int)) rfl
    have q2' := fun w' => q2 w' .i64 ((k : Int) + 1) rfl
    clear q1 q2
    have hcI : (k : Int) ≤ (c2 : Int) := by omega
    have hkl : (k : Int) + 1 ≤ (l.length : Int) := by omega
    have hk01 : (0 : Int) ≤ (k : Int) + 1 := by omega
    have qz2 := blkb (heap_alloc_new w (.cells #[.int .i64 0, .int .i64 0, .slice none 0 0, .slice none 0 0] 35)) (w' := w2) (by (repeat (first | with_reducible exact Below.refl _ _ | with_reducible assumption | with_reducible refine bdraw ?_ | with_reducible refine bdrewN ?_ _ | with_reducible refine balloc ?_ _ | with_reducible refine bset ?_ (by simp <;> omega) | with_reducible refine bstep ?_ (by assumption) | with_reducible refine btrans ?_ (by assumption))))
    have z2 := b2.size
    have hwr : IntKind.i64.wrap ((k : Int) + 1) = (k : Int) + 1 := IntWalk.i64_in _ (by omega)
    go_wp2_with fail
    go_region_law (first
      | (refine step_call (by rfl) 8 #[.tmp 22] #[22] (by rfl) Try.func8 (by decide +kernel) (fun h => by cases h) (by simp [Act.eval, Act.put]) (rcopied_c (hcut.below (by (repeat (first | with_reducible exact Below.refl _ _ | with_reducible assumption | with_reducible refine bdraw ?_ | with_reducible refine bdrewN ?_ _ | with_reducible refine balloc ?_ _ | with_reducible refine bset ?_ (by simp <;> omega) | with_reducible refine bstep ?_ (by assumption) | with_reducible refine btrans ?_ (by assumption)))) (Nat.le_refl _)) (by simp) hx) ?_; rintro e w3 ⟨v3, rfl, o3, b3⟩; obtain ⟨g3, c3, hv3, hg31, hg32, _, _⟩ := o3.form1 (by simp); have hv3 : v3 = .slice (some ⟨g3, 0, none⟩) 1 c3 := hv3; subst hv3; obtain ⟨A1, c1', A2, c2', y0, y1, y2, y3, s1, s2⟩ := pk1 o3.slHi; have yc0 := y0.cell; have yc1 := y1.cell; have yc2 := y2.cell; have yc3 := y3.cell; have zz3 := b3.size; (try rw [World.size_drew] at zz3); have o23 := o2.below (w' := w3) (by (repeat (first | with_reducible exact Below.refl _ _ | with_reducible assumption | with_reducible refine bdraw ?_ | with_reducible refine bdrewN ?_ _ | with_reducible refine balloc ?_ _ | with_reducible refine bset ?_ (by simp <;> omega) | with_reducible refine bstep ?_ (by assumption) | with_reducible refine btrans ?_ (by assumption)))) (Nat.le_refl _); obtain ⟨w4, hrun, o4, g4⟩ := run_del (P := Try.prog) (w := w3) ht hi hz1 o23 hk hA 22 (c2 - (k + 1)); have q4 := blkg (blkb qz2 (w' := w3) (by (repeat (first | with_reducible exact Below.refl _ _ | with_reducible assumption | with_reducible refine bdraw ?_ | with_reducible refine bdrewN ?_ _ | with_reducible refine balloc ?_ _ | with_reducible refine bset ?_ (by simp <;> omega) | with_reducible refine bstep ?_ (by assumption) | with_reducible refine btrans ?_ (by assumption))))) g4 (fun g' hg' => by have := some_blk (g := g) hg'; omega); have xr0 : w4.cell? ⟨w.heap.size, 0, none⟩ = some (.int .i64 0) := cell_of_row _ _ 0 _ _ _ q4; have fr0 : w4.frozen? ⟨w.heap.size, 0, none⟩ = false := frozen_of_row _ _ 0 _ _ q4; have xr1 : w4.cell? ⟨w.heap.size, 1, none⟩ = some (.int .i64 0) := cell_of_row _ _ 1 _ _ _ q4; have fr1 : w4.frozen? ⟨w.heap.size, 1, none⟩ = false := frozen_of_row _ _ 1 _ _ q4; have xr2 : w4.cell? ⟨w.heap.size, 2, none⟩ = some (.slice none 0 0) := cell_of_row _ _ 2 _ _ _ q4; have fr2 : w4.frozen? ⟨w.heap.size, 2, none⟩ = false := frozen_of_row _ _ 2 _ _ q4; have xr3 : w4.cell? ⟨w.heap.size, 3, none⟩ = some (.slice none 0 0) := cell_of_row _ _ 3 _ _ _ q4; have fr3 : w4.frozen? ⟨w.heap.size, 3, none⟩ = false := frozen_of_row _ _ 3 _ _ q4; have hne : ∀ g', (some g : Option Nat) = some g' → g' ≠ g3 := (fun g' hg' => by have := some_blk (g := g) hg'; simp at *; omega); have u0 := atg y0 g4 hne; have u1 := atg y1 g4 hne; have u2 := atg y2 g4 hne; have u3 := atg y3 g4 hne; have t1 := (sgrown s1 g4 (fun g' hg' => by have := some_blk (g := g) hg'; simp; omega)); have t2 := (sgrown s2 g4 (fun g' hg' => by have := some_blk (g := g) hg'; simp; omega)); have b4 : Below w.heap.size w3 w4 := bgrown g4 (by omega) (fun g' hg' => by have := some_blk (g := g) hg'; omega); refine ⟨_, rfl, ?_⟩)
      | (refine step_append_run (by rfl) (.tmp 28) (.tmp 32) 22 (by rfl) (by rfl) (by rfl) hrun ?_)
      | fail)
    all_goals go_wp2
    all_goals
      have q5 := set4 (a := .int .i64 x.f) (b := .int .i64 x.t) (c := .slice A1 x.s.length c1') (d := .slice A2 x.h.length c2') q4
      refine bodyPost_ret (results_cell_tmp2 rfl _ _ w.heap.size 35 #[.int .i64 x.f, .int .i64 x.t, .slice A1 x.s.length c1', .slice A2 x.h.length c2'] (0, 0) _ rfl q5 Try.underlying35 rfl (by kernel_rfl)) rfl ?_
      refine ⟨_, _, _, _, _, rfl, ?_, ?_, ?_, by (repeat (first | with_reducible exact Below.refl _ _ | with_reducible assumption | with_reducible refine bdraw ?_ | with_reducible refine bdrewN ?_ _ | with_reducible refine balloc ?_ _ | with_reducible refine bset ?_ (by simp <;> omega) | with_reducible refine bstep ?_ (by assumption) | with_reducible refine btrans ?_ (by assumption)))⟩
      · exact (sfar (sfar (sfar (sfar t1 (by simp; omega)) (by simp; omega)) (by simp; omega)) (by simp; omega)).any
      · exact (sfar (sfar (sfar (sfar t2 (by simp; omega)) (by simp; omega)) (by simp; omega)) (by simp; omega)).any
      · exact Own.low (ofarN (ofarN (ofarN (ofarN o4 (by simp; omega)) (by simp; omega)) (by simp; omega)) (by simp; omega)) (by omega)
  · have HV : Hid (dlv l i = ⟨0, 0, [], []⟩ ∧ rest l i = []) := by
      unfold Hid dlv rest
      rw [if_neg hE, if_neg hE]
      exact ⟨rfl, rfl⟩
    rw [HV.out.1, HV.out.2]
    have d1 : (atE l i != 0) = true := by simpa using hE
    clear HV
    generalize atE l i = ee at *
    clear hE
    go_enter Try.func19, Try.ntmps19
    go_wp2_with (go_at_call 30; refine HA.out.mono ?_; rintro e w1 ⟨rfl, b1⟩; have qr : w1.heap[w.heap.size]? = some (.cells #[.int .i64 0, .int .i64 0, .slice none 0 0, .slice none 0 0] 35 (0, 0)) := (b1.block _ (by (first | omega | (simp; done) | (simp; omega) | (simp at *; omega)))).trans (by first | assumption | exact heap_alloc_new _ _ | exact heap_alloc2_old _ _ _ | exact heap_alloc2_new _ _ _); have xr0 : w1.cell? ⟨w.heap.size, 0, none⟩ = some (.int .i64 0) := cell_of_row _ _ 0 _ _ _ qr; have fr0 : w1.frozen? ⟨w.heap.size, 0, none⟩ = false := frozen_of_row _ _ 0 _ _ qr; have xr1 : w1.cell? ⟨w.heap.size, 1, none⟩ = some (.int .i64 0) := cell_of_row _ _ 1 _ _ _ qr; have fr1 : w1.frozen? ⟨w.heap.size, 1, none⟩ = false := frozen_of_row _ _ 1 _ _ qr; have xr2 : w1.cell? ⟨w.heap.size, 2, none⟩ = some (.slice none 0 0) := cell_of_row _ _ 2 _ _ _ qr; have fr2 : w1.frozen? ⟨w.heap.size, 2, none⟩ = false := frozen_of_row _ _ 2 _ _ qr; have xr3 : w1.cell? ⟨w.heap.size, 3, none⟩ = some (.slice none 0 0) := cell_of_row _ _ 3 _ _ _ qr; have fr3 : w1.frozen? ⟨w.heap.size, 3, none⟩ = false := frozen_of_row _ _ 3 _ _ qr)
    have q5 := set4 (a := .int .i64 0) (b := .int .i64 0) (c := .slice none 0 0) (d := .slice none 0 0) qr
    refine bodyPost_ret (results_cell_tmp2 rfl _ _ w.heap.size 35 #[.int .i64 0, .int .i64 0, .slice none 0 0, .slice none 0 0] (0, 0) _ rfl q5 Try.underlying35 rfl (by kernel_rfl)) rfl ?_
    exact ⟨_, _, _, _, _, rfl, Sl.nil, Sl.nil, Own.nil, by (repeat (first | with_reducible exact Below.refl _ _ | with_reducible assumption | with_reducible refine bdraw ?_ | with_reducible refine bdrewN ?_ _ | with_reducible refine balloc ?_ _ | with_reducible refine bset ?_ (by simp <;> omega) | with_reducible refine bstep ?_ (by assumption) | with_reducible refine btrans ?_ (by assumption)))⟩
end Go.Proofs.Ytggmhhbhpmfcnaa
