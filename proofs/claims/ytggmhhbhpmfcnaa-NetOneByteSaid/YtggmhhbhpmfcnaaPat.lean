/- Packets: delivered, lost, doubled. -/
import Derived.Test.YtggmhhbhpmfcnaaPas
import Derived.Test.YtggmhhbhpmfcnaaRow
namespace Go.Proofs.Ytggmhhbhpmfcnaa
open Go.RowKit

/-- a builtin append at a step of a region that draws its order, by its run -/
theorem step_append_run {P : Program} {w w' : World} {ops : Array Oper} {o : Oper} {ac : Act} {K : Act → World → Prop} {Q : Exit → Act → World → Prop} {X : Prop} (hgd : o.guard = none) (s y : Operand) (t : TypeId)
    (ho : o.op = .call { callee := .builtin .append, args := #[s, y], argTypes := #[t, t] }) {v x v' : Value} (hs : ac.eval s = v) (hy : ac.eval y = x)
    (hrun : (Builtin.append_ #[t, t] o.type #[v, x]).run P w = .ok v' w') (h : K (ac.put o.dst v') w') : if Region.wanted o (yielded ops ac.tmps) = true then Oper.wp P o ac w K Q else X := by
  have hw : Region.wanted o (yielded ops ac.tmps) = true := by simp [Region.wanted, hgd]
  rw [if_pos hw]
  unfold Oper.wp execOp
  simp only [ho, resolve, invoke, builtin, Sem.run_bind, Sem.run_pure, Result.andThen_ok, List.map_toArray, List.map_cons, List.map_nil, hs, hy, hrun]
  exact h

set_option maxHeartbeats 4000000 in
theorem delete_c {B g cap k : Nat} {l : List Pk} {w : World} (h : Own pkE (HiN B (some g)) w B 35 (.slice (some ⟨g, 0, none⟩) l.length cap) l) (hk : k < l.length) (hl : l.length ≤ cap) :
    Calls Try.prog 32 #[.slice (some ⟨g, 0, none⟩) l.length cap, .int .i64 k, .int .i64 ((k : Int) + 1)] w fun e w' =>
      e = .returned (.slice (some ⟨g, 0, none⟩) (l.length - 1) cap) ∧ Own pkE (HiN B (some g)) w' B 35 (.slice (some ⟨g, 0, none⟩) (l.length - 1) cap) (l.eraseIdx k) ∧ w.grownBy w' (some g) := by
  obtain ⟨i0, hi, hz0, hz1, hz2⟩ := info_parts pk_info
  have ht := Try.underlying22
  have q1 := run_cut_h (P := Try.prog) (E := pkE) (g := g) (n := l.length) (k := k) (cap := cap) ht hi hz1 (by omega)
  obtain ⟨A, hA, q2⟩ := run_cut_l (P := Try.prog) (E := pkE) (g := g) (n := l.length) (k := k + 1) (cap := cap) ht hi hz1 (by omega)
  obtain ⟨v0, q0⟩ := run_cut_lhm (P := Try.prog) (E := pkE) (g := g) (n := l.length) (lo := k) (hh := k + 1) (mx := l.length) (cap := cap) ht hi hz1 (by omega) (by omega) hl
  obtain ⟨w2, hrun, o2, g2⟩ := run_del (P := Try.prog) (w := w.drew) ht hi hz1 (odraw h) hk hA 22 (cap - (k + 1))
  have hE : (l.eraseIdx k).length = l.length - 1 := by rw [List.length_eraseIdx, if_pos hk]
  have o2' := o2
  rw [← hE] at o2'
  obtain ⟨w3, hclr, o3, g3⟩ := run_clear (P := Try.prog) ht hi hz0 rfl (by simp [Value.cells, Value.oneCell']) o2' (n := 1) (c := cap - (l.length - 1)) (by omega) 0
  rw [hE] at hclr o3
  have q3 := run_cut_lh (P := Try.prog) (E := pkE) (g := g) (n := l.length - 1) (lo := l.length - 1) (hh := l.length) (cap := cap) ht hi hz1 (by omega) hl (by omega)
  rw [show l.length - (l.length - 1) = 1 by omega] at q3
  have G := grown_trans (grown_trans (⟨rfl, rfl, rfl, Nat.le_refl _, fun _ _ _ => rfl⟩ : w.grownBy w.drew (some g)) g2) g3
  go_enter Try.func32, Try.ntmps32
  go_wp2_with fail
  go_region_held3 (fun _ => True)
    (first | trivial)
    (first | (refine step_append_run (by rfl) (.tmp 22) (.tmp 25) 22 (by rfl) (by rfl) (by rfl) hrun ?_))
  clear hrun o2 o2'
  go_wp2
  go_ret
  exact ⟨rfl, o3, G⟩

def dlv (l : List Pk) (i : Int) : Pk := if atE l i = 0 then l.getD i.toNat ⟨0, 0, [], []⟩ else ⟨0, 0, [], []⟩
def rest (l : List Pk) (i : Int) : List Pk := if atE l i = 0 then l.eraseIdx i.toNat else []
theorem atE_ok {l : List Pk} {i : Int} (h : atE l i = 0) : ∃ k : Nat, i = k ∧ k < l.length ∧ l.length ≤ 4096 := by
  unfold atE at h
  split at h
  · rename_i hf
    split at h
    · rename_i hi
      exact ⟨i.toNat, by omega, by omega, formedB_len hf⟩
    · omega
  · omega

set_option maxHeartbeats 4000000 in
theorem deliver_c {S : Foot} {v : Value} {l : List Pk} {i : Int} {w : World} (hp : Sl pkE S w v l) (hf : Fit l) :
    Calls Try.prog 18 #[v, .int .i64 i] w fun e w' => ∃ A1 c1 A2 c2 vl,
      e = .returned (.tuple #[.agg #[.int .i64 (dlv l i).f, .int .i64 (dlv l i).t, .slice A1 (dlv l i).s.length c1, .slice A2 (dlv l i).h.length c2], vl, .int .i64 (atE l i)]) ∧
      Own u8E Any w' w.heap.size 5 (.slice A1 (dlv l i).s.length c1) (dlv l i).s ∧ Own u8E Any w' w.heap.size 5 (.slice A2 (dlv l i).h.length c2) (dlv l i).h ∧
      Own pkE (HiN w.heap.size vl.ownBlock) w' w.heap.size 35 vl (rest l i) ∧ Below w.heap.size w w' := by
  have hp := hp.any
  obtain ⟨A, cap, rfl, hc1, hc2, _⟩ := hp.shape
  unfold maxLen at hc2
  have HA := Lib.hid (at_c (i := i) (salloc hp (.cells #[.int .i64 0, .int .i64 0, .slice none 0 0, .slice none 0 0] 35)))
  by_cases hE : atE l i = 0
  · obtain ⟨k, rfl, hk, h4⟩ := atE_ok hE
    have HV : Hid (dlv l k = l[k] ∧ rest l k = l.eraseIdx k) := by
      unfold Hid dlv rest
      rw [if_pos hE, if_pos hE, Int.toNat_natCast, List.getD_eq_getElem?_getD, List.getElem?_eq_getElem hk]
      exact ⟨rfl, rfl⟩
    rw [HV.out.1, HV.out.2, hE]
    rw [hE] at HA
    clear hE HV
    obtain ⟨b, off, As, cs, Ah, ch, rfl, a0, a1, a2, a3, hs, hh⟩ := (hp.below (by (repeat (first | with_reducible exact Below.refl _ _ | with_reducible assumption | with_reducible refine bdraw ?_ | with_reducible refine bdrewN ?_ _ | with_reducible refine balloc ?_ _ | with_reducible refine bset ?_ (by simp <;> omega) | with_reducible refine bstep ?_ (by assumption) | with_reducible refine btrans ?_ (by assumption)))) (Nat.le_refl _)).pk hk
    have hx := hf _ (List.getElem_mem hk)
    have hlI : (l.length : Int) ≤ 4096 := by omega
    have hkI : (k : Int) < (l.length : Int) := by omega
    generalize l[k] = x at *
    go_enter Try.func18, Try.ntmps18
    go_wp2_with (go_at_call 29; refine HA.out.mono ?_; rintro e w1 ⟨rfl, b1⟩)
    have z1 := b1.size
    rw [World.size_alloc] at z1
    refine (own_c (hp.below (by (repeat (first | with_reducible exact Below.refl _ _ | with_reducible assumption | with_reducible refine bdraw ?_ | with_reducible refine bdrewN ?_ _ | with_reducible refine balloc ?_ _ | with_reducible refine bset ?_ (by simp <;> omega) | with_reducible refine bstep ?_ (by assumption) | with_reducible refine btrans ?_ (by assumption)))) (Nat.le_refl _)) h4 hf).mono ?_
    rintro e w2 ⟨v2, rfl, o2, b2⟩
    obtain ⟨g, c2, rfl, hg1, hg2, hg3, hg4⟩ := o2.form1 (by omega)
    unfold maxLen at hg4
    have c0 := atb a0 (w' := w2) (by (repeat (first | with_reducible exact Below.refl _ _ | with_reducible assumption | with_reducible refine bdraw ?_ | with_reducible refine bdrewN ?_ _ | with_reducible refine balloc ?_ _ | with_reducible refine bset ?_ (by simp <;> omega) | with_reducible refine bstep ?_ (by assumption) | with_reducible refine btrans ?_ (by assumption)))); have c1 := atb a1 (w' := w2) (by (repeat (first | with_reducible exact Below.refl _ _ | with_reducible assumption | with_reducible refine bdraw ?_ | with_reducible refine bdrewN ?_ _ | with_reducible refine balloc ?_ _ | with_reducible refine bset ?_ (by simp <;> omega) | with_reducible refine bstep ?_ (by assumption) | with_reducible refine btrans ?_ (by assumption)))); have c2 := atb a2 (w' := w2) (by (repeat (first | with_reducible exact Below.refl _ _ | with_reducible assumption | with_reducible refine bdraw ?_ | with_reducible refine bdrewN ?_ _ | with_reducible refine balloc ?_ _ | with_reducible refine bset ?_ (by simp <;> omega) | with_reducible refine bstep ?_ (by assumption) | with_reducible refine btrans ?_ (by assumption)))); have c3 := atb a3 (w' := w2) (by (repeat (first | with_reducible exact Below.refl _ _ | with_reducible assumption | with_reducible refine bdraw ?_ | with_reducible refine bdrewN ?_ _ | with_reducible refine balloc ?_ _ | with_reducible refine bset ?_ (by simp <;> omega) | with_reducible refine bstep ?_ (by assumption) | with_reducible refine btrans ?_ (by assumption))))
    go_wp2_with fail
    refine (twin_c (hs.below (by (repeat (first | with_reducible exact Below.refl _ _ | with_reducible assumption | with_reducible refine bdraw ?_ | with_reducible refine bdrewN ?_ _ | with_reducible refine balloc ?_ _ | with_reducible refine bset ?_ (by simp <;> omega) | with_reducible refine bstep ?_ (by assumption) | with_reducible refine btrans ?_ (by assumption)))) (Nat.le_refl _)) (hh.below (by (repeat (first | with_reducible exact Below.refl _ _ | with_reducible assumption | with_reducible refine bdraw ?_ | with_reducible refine bdrewN ?_ _ | with_reducible refine balloc ?_ _ | with_reducible refine bset ?_ (by simp <;> omega) | with_reducible refine bstep ?_ (by assumption) | with_reducible refine btrans ?_ (by assumption)))) (Nat.le_refl _)) hx.1 hx.2).mono ?_
    rintro e w3 ⟨A1, c1', A2, c2', rfl, o31, o32, b3⟩
    go_wp2_with fail
    refine (delete_c (o2.below (by (repeat (first | with_reducible exact Below.refl _ _ | with_reducible assumption | with_reducible refine bdraw ?_ | with_reducible refine bdrewN ?_ _ | with_reducible refine balloc ?_ _ | with_reducible refine bset ?_ (by simp <;> omega) | with_reducible refine bstep ?_ (by assumption) | with_reducible refine btrans ?_ (by assumption)))) (Nat.le_refl _)) hk hg3).mono ?_
    rintro e w4 ⟨rfl, o4, g4⟩
    have q3 := blkb (heap_alloc_new w (.cells #[.int .i64 0, .int .i64 0, .slice none 0 0, .slice none 0 0] 35)) (w' := w3) (by (repeat (first | with_reducible exact Below.refl _ _ | with_reducible assumption | with_reducible refine bdraw ?_ | with_reducible refine bdrewN ?_ _ | with_reducible refine balloc ?_ _ | with_reducible refine bset ?_ (by simp <;> omega) | with_reducible refine bstep ?_ (by assumption) | with_reducible refine btrans ?_ (by assumption))))
    have q4 := blkg q3 g4 (fun g' hg' => by have := some_blk (g := g) hg'; omega)
    have xr0 : w4.cell? ⟨w.heap.size, 0, none⟩ = some (.int .i64 0) := cell_of_row _ _ 0 _ _ _ q4; have fr0 : w4.frozen? ⟨w.heap.size, 0, none⟩ = false := frozen_of_row _ _ 0 _ _ q4; have xr1 : w4.cell? ⟨w.heap.size, 1, none⟩ = some (.int .i64 0) := cell_of_row _ _ 1 _ _ _ q4; have fr1 : w4.frozen? ⟨w.heap.size, 1, none⟩ = false := frozen_of_row _ _ 1 _ _ q4; have xr2 : w4.cell? ⟨w.heap.size, 2, none⟩ = some (.slice none 0 0) := cell_of_row _ _ 2 _ _ _ q4; have fr2 : w4.frozen? ⟨w.heap.size, 2, none⟩ = false := frozen_of_row _ _ 2 _ _ q4; have xr3 : w4.cell? ⟨w.heap.size, 3, none⟩ = some (.slice none 0 0) := cell_of_row _ _ 3 _ _ _ q4; have fr3 : w4.frozen? ⟨w.heap.size, 3, none⟩ = false := frozen_of_row _ _ 3 _ _ q4
    go_wp2
    have q5 := set4 (a := .int .i64 x.f) (b := .int .i64 x.t) (c := .slice A1 x.s.length c1') (d := .slice A2 x.h.length c2') q4
    have z2 := b2.size
    have z3 := b3.size
    have hb4 : Below w.heap.size w3 w4 := bgrown g4 (by omega) (fun g' hg' => by have := some_blk (g := g) hg'; omega)
    have n1 : ∀ g', (Value.slice A1 x.s.length c1').ownBlock = some g' → g' ≠ w.heap.size := fun g' hg' => by have := (o31.lt g' hg').1; omega
    have n2 : ∀ g', (Value.slice A2 x.h.length c2').ownBlock = some g' → g' ≠ w.heap.size := fun g' hg' => by have := (o32.lt g' hg').1; omega
    have o41 := (ogrown8 o31 g4 (fun g' hg' => by have := some_blk (g := g) hg'; omega)).base_mono (base' := w.heap.size) (by omega)
    have o42 := (ogrown8 o32 g4 (fun g' hg' => by have := some_blk (g := g) hg'; omega)).base_mono (base' := w.heap.size) (by omega)
    refine bodyPost_ret (results_cell_tmp2 rfl _ _ w.heap.size 35 #[.int .i64 x.f, .int .i64 x.t, .slice A1 x.s.length c1', .slice A2 x.h.length c2'] (0, 0) _ rfl q5 Try.underlying35 rfl (by kernel_rfl)) rfl ?_
    refine ⟨_, _, _, _, _, rfl, ?_, ?_, ?_, by (repeat (first | with_reducible exact Below.refl _ _ | with_reducible assumption | with_reducible refine bdraw ?_ | with_reducible refine bdrewN ?_ _ | with_reducible refine balloc ?_ _ | with_reducible refine bset ?_ (by simp <;> omega) | with_reducible refine bstep ?_ (by assumption) | with_reducible refine btrans ?_ (by assumption)))⟩
    · exact oset (oset (oset (oset o41 n1) n1) n1) n1
    · exact oset (oset (oset (oset o42 n2) n2) n2) n2
    · exact Own.low (ofarN (ofarN (ofarN (ofarN o4 (by simp; omega)) (by simp; omega)) (by simp; omega)) (by simp; omega)) (by omega)
  · have HV : Hid (dlv l i = ⟨0, 0, [], []⟩ ∧ rest l i = []) := by
      unfold Hid dlv rest
      rw [if_neg hE, if_neg hE]
      exact ⟨rfl, rfl⟩
    rw [HV.out.1, HV.out.2]
    have d1 : (atE l i != 0) = true := by simpa using hE
    clear HV
    generalize atE l i = ee at *
    clear hE
    go_enter Try.func18, Try.ntmps18
    go_wp2_with (go_at_call 29; refine HA.out.mono ?_; rintro e w1 ⟨rfl, b1⟩; have qr : w1.heap[w.heap.size]? = some (.cells #[.int .i64 0, .int .i64 0, .slice none 0 0, .slice none 0 0] 35 (0, 0)) := (b1.block _ (by (first | omega | (simp; done) | (simp; omega) | (simp at *; omega)))).trans (by first | assumption | exact heap_alloc_new _ _ | exact heap_alloc2_old _ _ _ | exact heap_alloc2_new _ _ _); have xr0 : w1.cell? ⟨w.heap.size, 0, none⟩ = some (.int .i64 0) := cell_of_row _ _ 0 _ _ _ qr; have fr0 : w1.frozen? ⟨w.heap.size, 0, none⟩ = false := frozen_of_row _ _ 0 _ _ qr; have xr1 : w1.cell? ⟨w.heap.size, 1, none⟩ = some (.int .i64 0) := cell_of_row _ _ 1 _ _ _ qr; have fr1 : w1.frozen? ⟨w.heap.size, 1, none⟩ = false := frozen_of_row _ _ 1 _ _ qr; have xr2 : w1.cell? ⟨w.heap.size, 2, none⟩ = some (.slice none 0 0) := cell_of_row _ _ 2 _ _ _ qr; have fr2 : w1.frozen? ⟨w.heap.size, 2, none⟩ = false := frozen_of_row _ _ 2 _ _ qr; have xr3 : w1.cell? ⟨w.heap.size, 3, none⟩ = some (.slice none 0 0) := cell_of_row _ _ 3 _ _ _ qr; have fr3 : w1.frozen? ⟨w.heap.size, 3, none⟩ = false := frozen_of_row _ _ 3 _ _ qr)
    have q5 := set4 (a := .int .i64 0) (b := .int .i64 0) (c := .slice none 0 0) (d := .slice none 0 0) qr
    refine bodyPost_ret (results_cell_tmp2 rfl _ _ w.heap.size 35 #[.int .i64 0, .int .i64 0, .slice none 0 0, .slice none 0 0] (0, 0) _ rfl q5 Try.underlying35 rfl (by kernel_rfl)) rfl ?_
    exact ⟨_, _, _, _, _, rfl, Own.nil, Own.nil, Own.nil, by (repeat (first | with_reducible exact Below.refl _ _ | with_reducible assumption | with_reducible refine bdraw ?_ | with_reducible refine bdrewN ?_ _ | with_reducible refine balloc ?_ _ | with_reducible refine bset ?_ (by simp <;> omega) | with_reducible refine bstep ?_ (by assumption) | with_reducible refine btrans ?_ (by assumption)))⟩

def copies (l : List Pk) (i : Int) : List Pk := if atE l i = 0 ∧ l.length ≠ 4096 then l ++ [l.getD i.toNat ⟨0, 0, [], []⟩] else []
def copyE (l : List Pk) (i : Int) : Int := if atE l i = 0 then (if l.length = 4096 then 15 else 0) else atE l i

set_option maxHeartbeats 4000000 in
theorem copy_pk_c {S : Foot} {v : Value} {l : List Pk} {i : Int} {w : World} (hp : Sl pkE S w v l) (hf : Fit l) :
    Calls Try.prog 14 #[v, .int .i64 i] w fun e w' => ∃ v', e = .returned (.tuple #[v', .int .i64 (copyE l i)]) ∧
      Own pkE (HiN w.heap.size v'.ownBlock) w' w.heap.size 35 v' (copies l i) ∧ Below w.heap.size w w' := by
  have hp := hp.any
  obtain ⟨i0, hi, hz0, hz1, hz2⟩ := info_parts pk_info
  obtain ⟨A, cap, rfl, hc1, hc2, _⟩ := hp.shape
  unfold maxLen at hc2
  have HA := Lib.hid (at_c (i := i) hp)
  by_cases hE : atE l i = 0
  · obtain ⟨k, rfl, hk, h4⟩ := atE_ok hE
    by_cases hL : l.length = 4096
    · have HV := Lib.hid (show copies l k = [] ∧ copyE l k = 15 by unfold copies copyE; simp [hE, hL])
      have d1 : ((l.length : Int) == 4096) = true := by simp; omega
      rw [hE] at HA
      clear hE hL
      go_enter Try.func14, Try.ntmps14
      go_wp2_with (go_at_call 29; refine HA.out.mono ?_; rintro e w1 ⟨rfl, b1⟩)
      go_ret2
      rw [HV.out.1, HV.out.2]
      exact ⟨_, rfl, Own.nil, by (repeat (first | with_reducible exact Below.refl _ _ | with_reducible assumption | with_reducible refine bdraw ?_ | with_reducible refine bdrewN ?_ _ | with_reducible refine balloc ?_ _ | with_reducible refine bset ?_ (by simp <;> omega) | with_reducible refine bstep ?_ (by assumption) | with_reducible refine btrans ?_ (by assumption)))⟩
    have HV : Hid (copies l k = l ++ [l[k]] ∧ copyE l k = 0) := by
      unfold Hid copies copyE
      rw [if_pos ⟨hE, hL⟩, if_pos hE, if_neg hL, Int.toNat_natCast, List.getD_eq_getElem?_getD, List.getElem?_eq_getElem hk]
      exact ⟨rfl, rfl⟩
    have d1 : ((l.length : Int) == 4096) = false := by simp; omega
    rw [hE] at HA
    clear hE hL
    obtain ⟨b, off, As, cs, Ah, ch, rfl, a0, a1, a2, a3, hs, hh⟩ := (hp.below (by (repeat (first | with_reducible exact Below.refl _ _ | with_reducible assumption | with_reducible refine bdraw ?_ | with_reducible refine bdrewN ?_ _ | with_reducible refine balloc ?_ _ | with_reducible refine bset ?_ (by simp <;> omega) | with_reducible refine bstep ?_ (by assumption) | with_reducible refine btrans ?_ (by assumption)))) (Nat.le_refl _)).pk hk
    have hx := hf _ (List.getElem_mem hk)
    have hlI : (l.length : Int) ≤ 4096 := by omega
    have hkI : (k : Int) < (l.length : Int) := by omega
    have hk0 : (0 : Int) ≤ (k : Int) := by omega
    generalize l[k] = x at *
    go_enter Try.func14, Try.ntmps14
    go_wp2_with (go_at_call 29; refine HA.out.mono ?_; rintro e w1 ⟨rfl, b1⟩)
    have c0 := atb a0 (w' := w1) (by (repeat (first | with_reducible exact Below.refl _ _ | with_reducible assumption | with_reducible refine bdraw ?_ | with_reducible refine bdrewN ?_ _ | with_reducible refine balloc ?_ _ | with_reducible refine bset ?_ (by simp <;> omega) | with_reducible refine bstep ?_ (by assumption) | with_reducible refine btrans ?_ (by assumption)))); have c1 := atb a1 (w' := w1) (by (repeat (first | with_reducible exact Below.refl _ _ | with_reducible assumption | with_reducible refine bdraw ?_ | with_reducible refine bdrewN ?_ _ | with_reducible refine balloc ?_ _ | with_reducible refine bset ?_ (by simp <;> omega) | with_reducible refine bstep ?_ (by assumption) | with_reducible refine btrans ?_ (by assumption)))); have c2 := atb a2 (w' := w1) (by (repeat (first | with_reducible exact Below.refl _ _ | with_reducible assumption | with_reducible refine bdraw ?_ | with_reducible refine bdrewN ?_ _ | with_reducible refine balloc ?_ _ | with_reducible refine bset ?_ (by simp <;> omega) | with_reducible refine bstep ?_ (by assumption) | with_reducible refine btrans ?_ (by assumption)))); have c3 := atb a3 (w' := w1) (by (repeat (first | with_reducible exact Below.refl _ _ | with_reducible assumption | with_reducible refine bdraw ?_ | with_reducible refine bdrewN ?_ _ | with_reducible refine balloc ?_ _ | with_reducible refine bset ?_ (by simp <;> omega) | with_reducible refine bstep ?_ (by assumption) | with_reducible refine btrans ?_ (by assumption))))
    have z1 := b1.size
    go_region_held3 (fun w' => w'.cell? ⟨b, off + k * 4, none⟩ = some (.int .i64 x.f) ∧ w'.cell? ⟨b, off + k * 4 + 1, none⟩ = some (.int .i64 x.t) ∧ w'.cell? ⟨b, off + k * 4 + 2, none⟩ = some (.slice As x.s.length cs) ∧ w'.cell? ⟨b, off + k * 4 + 3, none⟩ = some (.slice Ah x.h.length ch))
      (first | go_keep | (refine ⟨?_, ?_, ?_, ?_⟩ <;> (first | assumption | exact atb a0 (by (repeat (first | with_reducible exact Below.refl _ _ | with_reducible assumption | with_reducible refine bdraw ?_ | with_reducible refine bdrewN ?_ _ | with_reducible refine balloc ?_ _ | with_reducible refine bset ?_ (by simp <;> omega) | with_reducible refine bstep ?_ (by assumption) | with_reducible refine btrans ?_ (by assumption)))) | exact atb a1 (by (repeat (first | with_reducible exact Below.refl _ _ | with_reducible assumption | with_reducible refine bdraw ?_ | with_reducible refine bdrewN ?_ _ | with_reducible refine balloc ?_ _ | with_reducible refine bset ?_ (by simp <;> omega) | with_reducible refine bstep ?_ (by assumption) | with_reducible refine btrans ?_ (by assumption)))) | exact atb a2 (by (repeat (first | with_reducible exact Below.refl _ _ | with_reducible assumption | with_reducible refine bdraw ?_ | with_reducible refine bdrewN ?_ _ | with_reducible refine balloc ?_ _ | with_reducible refine bset ?_ (by simp <;> omega) | with_reducible refine bstep ?_ (by assumption) | with_reducible refine btrans ?_ (by assumption)))) | exact atb a3 (by (repeat (first | with_reducible exact Below.refl _ _ | with_reducible assumption | with_reducible refine bdraw ?_ | with_reducible refine bdrewN ?_ _ | with_reducible refine balloc ?_ _ | with_reducible refine bset ?_ (by simp <;> omega) | with_reducible refine bstep ?_ (by assumption) | with_reducible refine btrans ?_ (by assumption)))))))
      (first
        | (go_at_call 23; go_must (refine (own_c (hp.below (by (repeat (first | with_reducible exact Below.refl _ _ | with_reducible assumption | with_reducible refine bdraw ?_ | with_reducible refine bdrewN ?_ _ | with_reducible refine balloc ?_ _ | with_reducible refine bset ?_ (by simp <;> omega) | with_reducible refine bstep ?_ (by assumption) | with_reducible refine btrans ?_ (by assumption)))) (Nat.le_refl _)) h4 hf).mono ?_; rintro e w2 ⟨v2, rfl, o2, b2⟩; have hlt1 := o2.lt))
        | (go_at_call 24; go_must (refine (twin_c (hs.below (by (repeat (first | with_reducible exact Below.refl _ _ | with_reducible assumption | with_reducible refine bdraw ?_ | with_reducible refine bdrewN ?_ _ | with_reducible refine balloc ?_ _ | with_reducible refine bset ?_ (by simp <;> omega) | with_reducible refine bstep ?_ (by assumption) | with_reducible refine btrans ?_ (by assumption)))) (Nat.le_refl _)) (hh.below (by (repeat (first | with_reducible exact Below.refl _ _ | with_reducible assumption | with_reducible refine bdraw ?_ | with_reducible refine bdrewN ?_ _ | with_reducible refine balloc ?_ _ | with_reducible refine bset ?_ (by simp <;> omega) | with_reducible refine bstep ?_ (by assumption) | with_reducible refine btrans ?_ (by assumption)))) (Nat.le_refl _)) hx.1 hx.2).mono ?_; rintro e w3 ⟨A1, c1', A2, c2', rfl, o31, o32, b3⟩; have hsl := o31.beside (B := w1.drew.heap.size) (by have := b2.size; (first | omega | (simp; done) | (simp; omega) | (simp at *; omega))) (fun g hg => by have := (hlt1 g hg).2; (first | omega | (simp; done) | (simp; omega) | (simp at *; omega))); have hsl2 := o32.beside (B := w1.drew.heap.size) (by have := b2.size; (first | omega | (simp; done) | (simp; omega) | (simp at *; omega))) (fun g hg => by have := (hlt1 g hg).2; (first | omega | (simp; done) | (simp; omega) | (simp at *; omega)))))
        | (refine step_append_one _ (by rfl) (.tmp 17) (.tmp 23) 22 (by rfl) (E := pkE) (base := w1.drew.heap.size) Try.underlying22 hi hz0 hz1 hz2 rfl (o2.below (by (repeat (first | with_reducible exact Below.refl _ _ | with_reducible assumption | with_reducible refine bdraw ?_ | with_reducible refine bdrewN ?_ _ | with_reducible refine balloc ?_ _ | with_reducible refine bset ?_ (by simp <;> omega) | with_reducible refine bstep ?_ (by assumption) | with_reducible refine btrans ?_ (by assumption)))) (Nat.le_refl _)) (a := x) ⟨_, _, rfl, (hsl.below (by (repeat (first | with_reducible exact Below.refl _ _ | with_reducible assumption | with_reducible refine bdraw ?_ | with_reducible refine bdrewN ?_ _ | with_reducible refine balloc ?_ _ | with_reducible refine bset ?_ (by simp <;> omega) | with_reducible refine bstep ?_ (by assumption) | with_reducible refine btrans ?_ (by assumption)))) (Nat.le_refl _)), (hsl2.below (by (repeat (first | with_reducible exact Below.refl _ _ | with_reducible assumption | with_reducible refine bdraw ?_ | with_reducible refine bdrewN ?_ _ | with_reducible refine balloc ?_ _ | with_reducible refine bset ?_ (by simp <;> omega) | with_reducible refine bstep ?_ (by assumption) | with_reducible refine btrans ?_ (by assumption)))) (Nat.le_refl _))⟩ (new_cells w3 [.int .i64 x.f, .int .i64 x.t, .slice A1 x.s.length c1', .slice A2 x.h.length c2'] 35) (by rfl) (by rfl) (by unfold maxLen; omega) (by omega) (by have := b2.size; have := b3.size; simp at *; omega) ?_; intro v4 w4 hown4 hb4 hbl4 hg4; have hb4' : Below w.heap.size _ w4 := hb4.mono (by (first | omega | (simp; done) | (simp; omega) | (simp at *; omega)))))
    all_goals
      go_wp2
      go_ret2
      rw [HV.out.1, HV.out.2]
      refine ⟨_, rfl, hown4.low (by simp; omega), ?_⟩
      (repeat (first | with_reducible exact Below.refl _ _ | with_reducible assumption | with_reducible refine bdraw ?_ | with_reducible refine bdrewN ?_ _ | with_reducible refine balloc ?_ _ | with_reducible refine bset ?_ (by simp <;> omega) | with_reducible refine bstep ?_ (by assumption) | with_reducible refine btrans ?_ (by assumption)))
  · have HV := Lib.hid (show copies l i = [] ∧ copyE l i = atE l i by unfold copies copyE; simp [hE])
    have d1 : (atE l i != 0) = true := by simpa using hE
    rw [HV.out.1, HV.out.2]
    clear HV
    generalize atE l i = ee at *
    clear hE
    go_enter Try.func14, Try.ntmps14
    go_wp2_with (go_at_call 29; refine HA.out.mono ?_; rintro e w1 ⟨rfl, b1⟩)
    go_ret2
    exact ⟨_, rfl, Own.nil, by (repeat (first | with_reducible exact Below.refl _ _ | with_reducible assumption | with_reducible refine bdraw ?_ | with_reducible refine bdrewN ?_ _ | with_reducible refine balloc ?_ _ | with_reducible refine bset ?_ (by simp <;> omega) | with_reducible refine bstep ?_ (by assumption) | with_reducible refine btrans ?_ (by assumption)))⟩
end Go.Proofs.Ytggmhhbhpmfcnaa
