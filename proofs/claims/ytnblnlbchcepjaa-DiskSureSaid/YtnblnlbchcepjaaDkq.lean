/- Disks: the document's Crash. -/
import Derived.Test.YtnblnlbchcepjaaDkp
set_option linter.unusedSimpArgs false
namespace Go.Proofs.Ytnblnlbchcepjaa
open Go.RowKit

attribute [local go_sem] u8_xr
set_option maxRecDepth 100000 in
set_option maxHeartbeats 8000000 in
theorem rcrash_c {S : Foot} {v : Value} {room keep turn : Int} {l : List Fi} {w : World} (hp : Sl fiE S w v l) (hkp : keep ≤ 9223372036854775807) :
    Calls Try.prog 18 #[.agg #[.int .i64 room, v], .int .i64 keep, .int .i64 turn] w (AnsS (crR room l keep turn) (crF room l keep turn) (crE room l keep turn) w) := by
  have hp := hp.any
  obtain ⟨A, cap, rfl, hc1, hc2, _⟩ := hp.shape
  unfold maxLen at hc2
  have q0 : ((w.alloc (.cells #[.int .i64 room, .slice A l.length cap] 24)).alloc (.cells #[.int .i64 0, .slice none 0 0] 24)).heap[w.heap.size]? = some (.cells #[.int .i64 room, .slice A l.length cap] 24 (0, 0)) := heap_alloc2_old _ _ _
  have q1 : ((w.alloc (.cells #[.int .i64 room, .slice A l.length cap] 24)).alloc (.cells #[.int .i64 0, .slice none 0 0] 24)).heap[w.heap.size + 1]? = some (.cells #[.int .i64 0, .slice none 0 0] 24 (0, 0)) := by
    have := heap_alloc_new (w.alloc (.cells #[.int .i64 room, .slice A l.length cap] 24)) (.cells #[.int .i64 0, .slice none 0 0] 24)
    rwa [World.size_alloc] at this
  have HF := fun (w' : World) (bb : Below w.heap.size w w') => Lib.hid (rformed_c (room := room) (w := w') (hp.below (by (repeat (first | with_reducible exact Below.refl _ _ | with_reducible assumption | with_reducible refine bdraw ?_ | with_reducible refine bdrewN ?_ _ | with_reducible refine balloc ?_ _ | with_reducible refine bset ?_ (by simp <;> omega) | with_reducible refine bstep ?_ (by assumption) | with_reducible refine btrans ?_ (by assumption)))) (Nat.le_refl _)))
  by_cases hE : crOk room l keep turn
  rotate_left
  · have HR : Hid (crE room l keep turn = 1 ∧ crF room l keep turn = [] ∧ crR room l keep turn = 0) := Lib.hid (by simp [crE, crF, crR, hE])
    have h3 : formedD room l = false ∨ (formedD room l = true ∧ (keep < 0 ∨ 0 ≤ keep ∧ turn < 0 ∨ 0 ≤ keep ∧ 0 ≤ turn ∧ 255 < turn)) := by
      cases h : formedD room l
      · exact .inl rfl
      · exact .inr ⟨rfl, by unfold crOk at hE; rw [h] at hE; simp at hE; omega⟩
    clear hE
    go_enter Try.func18, Try.ntmps18
    rcases h3 with h3 | ⟨h3, h4 | ⟨h4, h5⟩ | ⟨h4, h5, h6⟩⟩
    all_goals
      rw [h3] at HF
      clear h3
      go_wp2_with (go_at_call 14; refine (HF _ (by (repeat (first | with_reducible exact Below.refl _ _ | with_reducible assumption | with_reducible refine bdraw ?_ | with_reducible refine bdrewN ?_ _ | with_reducible refine balloc ?_ _ | with_reducible refine bset ?_ (by simp <;> omega) | with_reducible refine bstep ?_ (by assumption) | with_reducible refine btrans ?_ (by assumption))))).out.mono ?_; rintro e w1 ⟨rfl, b1⟩; have q2 := blkb q1 (w' := w1) (by (repeat (first | with_reducible exact Below.refl _ _ | with_reducible assumption | with_reducible refine bdraw ?_ | with_reducible refine bdrewN ?_ _ | with_reducible refine balloc ?_ _ | with_reducible refine bset ?_ (by simp <;> omega) | with_reducible refine bstep ?_ (by assumption) | with_reducible refine btrans ?_ (by assumption)))); have xa0 : w1.cell? ⟨w.heap.size + 1, 0, none⟩ = some (.int .i64 0) := cell_of_row _ _ 0 _ _ _ q2; have fa0 : w1.frozen? ⟨w.heap.size + 1, 0, none⟩ = false := frozen_of_row _ _ 0 _ _ q2; have xa1 : w1.cell? ⟨w.heap.size + 1, 1, none⟩ = some (.slice none 0 0) := cell_of_row _ _ 1 _ _ _ q2; have fa1 : w1.frozen? ⟨w.heap.size + 1, 1, none⟩ = false := frozen_of_row _ _ 1 _ _ q2)
      refine bodyPost_ret (results_cell_tmp1 rfl _ _ (w.heap.size + 1) 24 #[.int .i64 0, .slice none 0 0] (0, 0) _ rfl (set2 q2) Try.underlying24 rfl (by kernel_rfl)) rfl ?_
      exact ⟨_, by rw [HR.out.1, HR.out.2.2]; rfl, by rw [HR.out.2.1]; exact Sl.nil, by (repeat (first | with_reducible exact Below.refl _ _ | with_reducible assumption | with_reducible refine bdraw ?_ | with_reducible refine bdrewN ?_ _ | with_reducible refine balloc ?_ _ | with_reducible refine bset ?_ (by simp <;> omega) | with_reducible refine bstep ?_ (by assumption) | with_reducible refine btrans ?_ (by assumption)))⟩
  · obtain ⟨hE, hk0, ht0, ht1⟩ := id hE
    have HR : Hid (crE room l keep turn = 0 ∧ crF room l keep turn = flipAt (cr l keep).1 (cr l keep).2.2 (UInt8.ofNat turn.toNat) ∧ crR room l keep turn = room) := Lib.hid (by simp [crE, crF, crR, crOk, hE, hk0, ht0, ht1])
    have hlen := formedD_len hE
    have hsz := formedD_size hE
    have hlow := fun f hf' => fineF_low (fs := l) (by simp only [formedD, Bool.and_eq_true] at hE; exact hE.2) f hf'
    have HLow := Lib.hid hlow
    rw [hE] at HF
    clear hE hlow
    obtain ⟨hs1, hs2, hs3⟩ := hsz
    go_enter Try.func18, Try.ntmps18
    go_wp2_with fail
    refine (HF _ (by (repeat (first | with_reducible exact Below.refl _ _ | with_reducible assumption | with_reducible refine bdraw ?_ | with_reducible refine bdrewN ?_ _ | with_reducible refine balloc ?_ _ | with_reducible refine bset ?_ (by simp <;> omega) | with_reducible refine bstep ?_ (by assumption) | with_reducible refine btrans ?_ (by assumption))))).out.mono ?_
    rintro e w1 ⟨rfl, b1⟩
    have p0 := (At.of_cell (cell_of_row _ w.heap.size 0 _ _ _ q0)).2
    have p1 := (At.of_cell (cell_of_row _ w.heap.size 1 _ _ _ q0)).2
    have a0 := atb p0 b1
    have a1 := atb p1 b1
    go_wp2_with fail
    refine (rcopy_c (room := room) (hp.below (by (repeat (first | with_reducible exact Below.refl _ _ | with_reducible assumption | with_reducible refine bdraw ?_ | with_reducible refine bdrewN ?_ _ | with_reducible refine balloc ?_ _ | with_reducible refine bset ?_ (by simp <;> omega) | with_reducible refine bstep ?_ (by assumption) | with_reducible refine btrans ?_ (by assumption)))) (Nat.le_refl _)) (by omega) (fun f hf => by have := HLow.out f hf; omega)).mono ?_
    rintro e w3 ⟨v3, us, rfl, hF, b3⟩
    obtain ⟨A3, c3, hv3, hc5, hc6, _⟩ := (hF.sl (BO.ok _)).shape
    subst hv3
    unfold maxLen at hc6
    have hz1 : w.heap.size + 2 ≤ w1.heap.size := by have := b1.size; simp at this; omega
    have hz3 := b3.size
    have z3 := blkb q1 (w' := w3) (by (repeat (first | with_reducible exact Below.refl _ _ | with_reducible assumption | with_reducible refine bdraw ?_ | with_reducible refine bdrewN ?_ _ | with_reducible refine balloc ?_ _ | with_reducible refine bset ?_ (by simp <;> omega) | with_reducible refine bstep ?_ (by assumption) | with_reducible refine btrans ?_ (by assumption))))
    have r3 := heap_alloc_new w3 (.cells #[.int .i64 room, .slice A3 l.length c3] 24)
    have hF0 : FP (BW w1.heap.size) w1.heap.size (w3.alloc (.cells #[.int .i64 room, .slice A3 l.length c3] 24)) (.slice A3 l.length c3) ((cr (l.take 0) keep).1 ++ l.drop 0) us l.length :=
      hF.w.below (BW.ok _) (by (repeat (first | with_reducible exact Below.refl _ _ | with_reducible assumption | with_reducible refine bdraw ?_ | with_reducible refine bdrewN ?_ _ | with_reducible refine balloc ?_ _ | with_reducible refine bset ?_ (by simp <;> omega) | with_reducible refine bstep ?_ (by assumption) | with_reducible refine btrans ?_ (by assumption)))) hz3
    have bW : Below w.heap.size w (w3.alloc (.cells #[.int .i64 room, .slice A3 l.length c3] 24)) := by (repeat (first | with_reducible exact Below.refl _ _ | with_reducible assumption | with_reducible refine bdraw ?_ | with_reducible refine bdrewN ?_ _ | with_reducible refine balloc ?_ _ | with_reducible refine bset ?_ (by simp <;> omega) | with_reducible refine bstep ?_ (by assumption) | with_reducible refine btrans ?_ (by assumption)))
    have z4 := blkb z3 (w' := w3.alloc (.cells #[.int .i64 room, .slice A3 l.length c3] 24)) (by (repeat (first | with_reducible exact Below.refl _ _ | with_reducible assumption | with_reducible refine bdraw ?_ | with_reducible refine bdrewN ?_ _ | with_reducible refine balloc ?_ _ | with_reducible refine bset ?_ (by simp <;> omega) | with_reducible refine bstep ?_ (by assumption) | with_reducible refine btrans ?_ (by assumption))))
    have hw3 : w1.heap.size ≤ w3.heap.size := hz3
    have hws : w3.heap.size < (w3.alloc (.cells #[.int .i64 room, .slice A3 l.length c3] 24)).heap.size := by simp
    have hrs : ∀ g, (Value.slice A3 l.length c3).ownBlock = some g → g < w3.heap.size := fun g hg => (hF.row.lt g hg).2
    have HU0 : Hid (∀ (i : Nat) (u : Value) (g : Nat), us[i]? = some u → u.ownBlock = some g → g < w3.heap.size) := Lib.hid (fun i u g hu hg => (hF.lt (BO.ok _) hu (by have := (List.getElem?_eq_some_iff.1 hu).1; rw [hF.len] at this; exact this) hg).2)
    have xx0 : (w3.alloc (.cells #[.int .i64 room, .slice A3 l.length c3] 24)).cell? ⟨w3.heap.size, 0, none⟩ = some (.int .i64 room) := cell_of_row _ _ 0 _ _ _ r3; have fx0 : (w3.alloc (.cells #[.int .i64 room, .slice A3 l.length c3] 24)).frozen? ⟨w3.heap.size, 0, none⟩ = false := frozen_of_row _ _ 0 _ _ r3; have xx1 : (w3.alloc (.cells #[.int .i64 room, .slice A3 l.length c3] 24)).cell? ⟨w3.heap.size, 1, none⟩ = some (.slice A3 l.length c3) := cell_of_row _ _ 1 _ _ _ r3; have fx1 : (w3.alloc (.cells #[.int .i64 room, .slice A3 l.length c3] 24)).frozen? ⟨w3.heap.size, 1, none⟩ = false := frozen_of_row _ _ 1 _ _ r3
    go_wp2
    clear hF z3 q0 q1 p0 p1 a0 a1 xx0 xx1 fx0 fx1
    generalize w3.alloc (.cells #[.int .i64 room, .slice A3 l.length c3] 24) = W4 at *
    clear b1 b3 HF
    go_loopw [10, 11, 12, 1, 9] (fun iv _ _ kv lv wr => ∃ (k : Nat) (L : List Fi) (kp j : Int) (us : List Value), k ≤ l.length ∧ iv = .int .i64 k ∧ kv = .int .i64 kp ∧ Hid (cr (l.take k) keep = (L, kp, j)) ∧ L.length = k ∧ 0 ≤ kp ∧ kp ≤ keep ∧ lv = .int .i64 j ∧ Hid (∃ lp, Lst L us j lp) ∧ Hid (∀ (i : Nat) (u : Value) (g : Nat), us[i]? = some u → u.ownBlock = some g → g < w3.heap.size) ∧ FP (BW w1.heap.size) w1.heap.size wr (.slice A3 l.length c3) (L ++ l.drop k) us l.length ∧ Hid (wr.heap[w3.heap.size]? = some (.cells #[.int .i64 room, .slice A3 l.length c3] 24 (0, 0)) ∧ wr.heap[w.heap.size + 1]? = some (.cells #[.int .i64 0, .slice none 0 0] 24 (0, 0))) ∧ Below w.heap.size w wr) (fun iv _ _ _ _ _ => l.length - (intOf iv).toNat)
    case atStart => exact ⟨0, [], keep, -1, us, Nat.zero_le _, by go_num, rfl, Lib.hid rfl, rfl, hk0, Int.le_refl _, rfl, Lib.hid ⟨_, .inl ⟨rfl, rfl⟩⟩, HU0, hF0, Lib.hid ⟨r3, z4⟩, bW⟩
    case round =>
      clear hF0 r3 z4 bW HU0
      obtain ⟨k, L, kp, j, us, hk, rfl, rfl, HC, hL, hp0, hp1, rfl, HLs, HUU, hF, HQ, hbr⟩ := hrel
      obtain ⟨q0, q1⟩ := HQ.out
      have xa0 : wr.cell? ⟨w3.heap.size, 0, none⟩ = some (.int .i64 room) := cell_of_row _ _ 0 _ _ _ q0; have fa0 : wr.frozen? ⟨w3.heap.size, 0, none⟩ = false := frozen_of_row _ _ 0 _ _ q0; have xa1 : wr.cell? ⟨w3.heap.size, 1, none⟩ = some (.slice A3 l.length c3) := cell_of_row _ _ 1 _ _ _ q0; have fa1 : wr.frozen? ⟨w3.heap.size, 1, none⟩ = false := frozen_of_row _ _ 1 _ _ q0
      by_cases hlt : k < l.length
      · have hkI : (k : Int) < (l.length : Int) := by omega
        have hk0 : (0 : Int) ≤ (k : Int) := by omega
        have hlo := HLow.out _ (List.getElem_mem hlt)
        have HST := Lib.hid (cr_step l keep hlt)
        have hf : (L ++ l.drop k)[k]? = some l[k] := by rw [List.getElem?_append_right (by omega), hL, Nat.sub_self, List.getElem?_drop, Nat.add_zero]; exact List.getElem?_eq_getElem hlt
        have hdr : ∀ y, (L ++ l.drop k).set k y = (L ++ [y]) ++ l.drop (k + 1) := fun y => by rw [List.set_append_right _ _ (by omega), hL, Nat.sub_self, List.drop_eq_getElem_cons hlt, List.set_cons_zero, List.append_assoc]; rfl
        generalize l[k] = x at *
        obtain ⟨u, hu⟩ := hF.get hf
        obtain ⟨hbs, Au, cu, rfl, hAu⟩ := id (hF.own k u _ hu hf hlt)
        obtain ⟨_, _, e, hcu1, hcu2, hcu3⟩ := hbs.shape
        injection e with e1 _ e2
        subst e1 e2
        unfold maxLen at hcu2
        obtain ⟨g, rfl, hg1, hg2⟩ := hF.row.form3 (by omega)
        have hgr := hrs g rfl
        obtain ⟨d, hd⟩ : ∃ d : Nat, crN kp x = (d : Int) := ⟨(crN kp x).toNat, by have := crN_in (f := x) hp0 (by omega); omega⟩
        obtain ⟨s0, hs0⟩ : ∃ s0 : Nat, x.s = (s0 : Int) := ⟨x.s.toNat, by omega⟩
        have hN := crN_in (f := x) (k := kp) hp0 (by omega)
        rw [hd, hs0] at hN
        obtain ⟨hN0, hN1, hN2⟩ := hN
        have hd' : (if (x.b.length : Int) - (s0 : Int) < kp then (x.b.length : Int) - (s0 : Int) else kp) = (d : Int) := by rw [← hd, ← hs0]; rfl
        obtain ⟨a0, a1, a2⟩ := hF.row.tri3 (tris_get hf hu)
        have ac0 := a0.cell
        have hfz1 := hF.row.free3 (k * 3 + 1)
        have hfz2 := hF.row.free3 (k * 3 + 2)
        have ac1 := a1.cell
        have ac2 := a2.cell
        rw [hs0] at ac2
        have hwr1 : IntKind.i64.wrap ((x.b.length : Int) - (s0 : Int)) = (x.b.length : Int) - (s0 : Int) := IntWalk.i64_in _ (by omega)
        have hwr2 : IntKind.i64.wrap ((s0 : Int) + (d : Int)) = (s0 : Int) + (d : Int) := IntWalk.i64_in _ (by omega)
        have hwr3 : IntKind.i64.wrap (kp - (d : Int)) = kp - (d : Int) := IntWalk.i64_in _ (by omega)
        clear hs1 a0 a1 a2
        have e0 := heap_alloc_new wr (.cells #[.int .i64 x.n, .slice Au x.b.length cu, .int .i64 (s0 : Int)] 39)
        have hF0 := hF.below (w' := (wr.alloc (.cells #[.int .i64 x.n, .slice Au x.b.length cu, .int .i64 (s0 : Int)] 39))) (BW.ok _) ((Below.refl _ _).alloc (Nat.le_refl _) _) (by have := hbr.size; have := (Array.getElem?_eq_some_iff.1 q0).1; omega)
        have zlt : w3.heap.size < wr.heap.size := (Array.getElem?_eq_some_iff.1 q0).1
        have Q1 := blkb HQ.out.1 (w' := (wr.alloc (.cells #[.int .i64 x.n, .slice Au x.b.length cu, .int .i64 (s0 : Int)] 39))) (by (repeat (first | with_reducible exact Below.refl _ _ | with_reducible assumption | with_reducible refine bdraw ?_ | with_reducible refine bdrewN ?_ _ | with_reducible refine balloc ?_ _ | with_reducible refine bset ?_ (by simp <;> omega) | with_reducible refine bstep ?_ (by assumption) | with_reducible refine btrans ?_ (by assumption))))
        have Q2 := blkb HQ.out.2 (w' := (wr.alloc (.cells #[.int .i64 x.n, .slice Au x.b.length cu, .int .i64 (s0 : Int)] 39))) (by (repeat (first | with_reducible exact Below.refl _ _ | with_reducible assumption | with_reducible refine bdraw ?_ | with_reducible refine bdrewN ?_ _ | with_reducible refine balloc ?_ _ | with_reducible refine bset ?_ (by simp <;> omega) | with_reducible refine bstep ?_ (by assumption) | with_reducible refine btrans ?_ (by assumption))))
        have hb0 : Below w.heap.size w (wr.alloc (.cells #[.int .i64 x.n, .slice Au x.b.length cu, .int .i64 (s0 : Int)] 39)) := by (repeat (first | with_reducible exact Below.refl _ _ | with_reducible assumption | with_reducible refine bdraw ?_ | with_reducible refine bdrewN ?_ _ | with_reducible refine balloc ?_ _ | with_reducible refine bset ?_ (by simp <;> omega) | with_reducible refine bstep ?_ (by assumption) | with_reducible refine btrans ?_ (by assumption)))
        have hcut := fun w' => run_cut_h0 (hF.own k _ _ hu hf hlt) (m := s0 + d) (by omega) w' (H := (s0 : Int) + (d : Int)) (by simp)
        have hm1 : (s0 : Int) + (d : Int) ≤ (cu : Int) := by omega
        go_wp2_with fail
        go_region
        have HC2 : Hid (cr (l.take (k + 1)) keep = (L ++ [⟨x.n, x.b.take (s0 + d), (s0 : Int) + (d : Int)⟩], kp - (d : Int), if 0 < (d : Int) then (k : Int) else j)) := Lib.hid (by
          rw [HST.out, HC.out]
          simp only [crS, crOne, hd, hs0, hL]
          rw [show ((s0 : Int) + (d : Int)).toNat = s0 + d by omega])
        have hF1 := (hF0.cutW (m := s0 + d) (c' := cu) hf hu hlt (by omega) (by omega) (by omega)).draw (BW.ok _)
        have P1 := (heap_setCell_other (wr.alloc (.cells #[.int .i64 x.n, .slice Au x.b.length cu, .int .i64 (s0 : Int)] 39)) ⟨g, k * 3 + 1, none⟩ w3.heap.size (.slice Au (s0 + d) cu) (by simp; omega)).trans Q1
        have P2 := (heap_setCell_other (wr.alloc (.cells #[.int .i64 x.n, .slice Au x.b.length cu, .int .i64 (s0 : Int)] 39)) ⟨g, k * 3 + 1, none⟩ (w.heap.size + 1) (.slice Au (s0 + d) cu) (by simp; omega)).trans Q2
        have P3 := (heap_setCell_other (wr.alloc (.cells #[.int .i64 x.n, .slice Au x.b.length cu, .int .i64 (s0 : Int)] 39)) ⟨g, k * 3 + 1, none⟩ wr.heap.size (.slice Au (s0 + d) cu) (by simp; omega)).trans e0
        replace HQ : Hid (((wr.alloc (.cells #[.int .i64 x.n, .slice Au x.b.length cu, .int .i64 (s0 : Int)] 39)).setCell ⟨g, k * 3 + 1, none⟩ (.slice Au (s0 + d) cu)).drew.heap[w3.heap.size]? = _ ∧ ((wr.alloc (.cells #[.int .i64 x.n, .slice Au x.b.length cu, .int .i64 (s0 : Int)] 39)).setCell ⟨g, k * 3 + 1, none⟩ (.slice Au (s0 + d) cu)).drew.heap[w.heap.size + 1]? = _ ∧ ((wr.alloc (.cells #[.int .i64 x.n, .slice Au x.b.length cu, .int .i64 (s0 : Int)] 39)).setCell ⟨g, k * 3 + 1, none⟩ (.slice Au (s0 + d) cu)).drew.heap[wr.heap.size]? = _) := Lib.hid ⟨P1, P2, P3⟩
        have hb1 := bdraw (hb0.setCell (p := ⟨g, k * 3 + 1, none⟩) (by simp; omega) (.slice Au (s0 + d) cu))
        have hu2 : (us.set k (.slice Au (s0 + d) cu))[k]? = some (.slice Au (s0 + d) cu) := by rw [List.getElem?_set_self (List.getElem?_eq_some_iff.1 hu).1]
        have hf1 : ((L ++ l.drop k).set k ⟨x.n, x.b.take (s0 + d), x.s⟩)[k]? = some ⟨x.n, x.b.take (s0 + d), x.s⟩ := by
          rw [List.getElem?_set_self (List.getElem?_eq_some_iff.1 hf).1]
        have HUU2 : Hid (∀ (i : Nat) (u : Value) (g : Nat), (us.set k (.slice Au (s0 + d) cu))[i]? = some u → u.ownBlock = some g → g < w3.heap.size) := Lib.hid (fun i v g' hv hg' => by
          rw [List.getElem?_set] at hv
          split at hv
          · rw [if_pos (List.getElem?_eq_some_iff.1 hu).1] at hv
            injection hv with hv
            subst hv
            exact HUU.out k _ g' hu (by rw [← hg']; cases Au <;> rfl)
          · exact HUU.out i v g' hv hg')
        have hF2 := hF1.markW (s := (s0 : Int) + (d : Int)) hf1 hlt
        rw [List.set_set] at hF2
        have hdx : (L ++ l.drop k).set k ⟨x.n, x.b.take (s0 + d), (s0 : Int) + (d : Int)⟩ = (L ++ [⟨x.n, x.b.take (s0 + d), (s0 : Int) + (d : Int)⟩]) ++ l.drop (k + 1) := hdr _
        have hF2' : FP (BW w1.heap.size) w1.heap.size (((wr.alloc (.cells #[.int .i64 x.n, .slice Au x.b.length cu, .int .i64 (s0 : Int)] 39)).setCell ⟨g, k * 3 + 1, none⟩ (.slice Au (s0 + d) cu)).drew.setCell ⟨g, k * 3 + 2, none⟩ (.int .i64 ((s0 : Int) + (d : Int)))) (.slice (some ⟨g, 0, none⟩) l.length c3) ((L ++ [⟨x.n, x.b.take (s0 + d), (s0 : Int) + (d : Int)⟩]) ++ l.drop (k + 1)) (us.set k (.slice Au (s0 + d) cu)) l.length := by rw [← hdx]; exact hF2
        obtain ⟨_, _, a2⟩ := hF1.row.tri3 (tris_get hf1 hu2)
        have hfz3 := hF1.row.free3 (k * 3 + 2)
        have ac3 := a2.cell
        clear Q1 Q2 P1 P2 P3 hF hF0 hF1 hF2 q0 q1 xa0 xa1 fa0 fa1 ac0 ac1 ac2 hfz1 hfz2 hbr hb0 hwr1 hwr3 hd' hdx hdr hf hf1 HC HST hcut a2 e0
        have hcm := World.setCell_alloc_past (w := wr) (.cells #[.int .i64 x.n, .slice Au x.b.length cu, .int .i64 (s0 : Int)] 39) g (k * 3 + 1) (.slice Au (s0 + d) cu) hg2
        rw [hcm] at HQ hb1 hF2' hfz3 ac3
        clear hcm
        generalize ((wr.setCell ⟨g, k * 3 + 1, none⟩ (.slice Au (s0 + d) cu)).alloc (.cells #[.int .i64 x.n, .slice Au x.b.length cu, .int .i64 (s0 : Int)] 39)).drew = W1 at *
        obtain ⟨q0, q1, q2⟩ := HQ.out
        have xa0 : W1.cell? ⟨w3.heap.size, 0, none⟩ = some (.int .i64 room) := cell_of_row _ _ 0 _ _ _ q0; have fa0 : W1.frozen? ⟨w3.heap.size, 0, none⟩ = false := frozen_of_row _ _ 0 _ _ q0; have xa1 : W1.cell? ⟨w3.heap.size, 1, none⟩ = some (.slice (some ⟨g, 0, none⟩) l.length c3) := cell_of_row _ _ 1 _ _ _ q0; have fa1 : W1.frozen? ⟨w3.heap.size, 1, none⟩ = false := frozen_of_row _ _ 1 _ _ q0
        have xb0 : W1.cell? ⟨wr.heap.size, 0, none⟩ = some (.int .i64 x.n) := cell_of_row _ _ 0 _ _ _ q2; have fb0 : W1.frozen? ⟨wr.heap.size, 0, none⟩ = false := frozen_of_row _ _ 0 _ _ q2; have xb1 : W1.cell? ⟨wr.heap.size, 1, none⟩ = some (.slice Au x.b.length cu) := cell_of_row _ _ 1 _ _ _ q2; have fb1 : W1.frozen? ⟨wr.heap.size, 1, none⟩ = false := frozen_of_row _ _ 1 _ _ q2; have xb2 : W1.cell? ⟨wr.heap.size, 2, none⟩ = some (.int .i64 (s0 : Int)) := cell_of_row _ _ 2 _ _ _ q2; have fb2 : W1.frozen? ⟨wr.heap.size, 2, none⟩ = false := frozen_of_row _ _ 2 _ _ q2
        have hfin : Hid ((W1.setCell ⟨g, k * 3 + 2, none⟩ (.int .i64 ((s0 : Int) + (d : Int)))).heap[w3.heap.size]? = some (.cells #[.int .i64 room, .slice (some ⟨g, 0, none⟩) l.length c3] 24 (0, 0)) ∧ (W1.setCell ⟨g, k * 3 + 2, none⟩ (.int .i64 ((s0 : Int) + (d : Int)))).heap[w.heap.size + 1]? = some (.cells #[.int .i64 0, .slice none 0 0] 24 (0, 0))) :=
          Lib.hid ⟨(heap_setCell_other W1 ⟨g, k * 3 + 2, none⟩ w3.heap.size _ (by simp; omega)).trans q0, (heap_setCell_other W1 ⟨g, k * 3 + 2, none⟩ (w.heap.size + 1) _ (by simp; omega)).trans q1⟩
        have hb2 := hb1.setCell (p := ⟨g, k * 3 + 2, none⟩) (by simp; omega) (.int .i64 ((s0 : Int) + (d : Int)))
        have HF2 := Lib.hid hF2'
        clear q0 q1 q2 hF2'
        by_cases hd0 : 0 < (d : Int)
        · rw [if_pos hd0] at HC2
          rcases hAu with rfl | ⟨y, rfl, hy1, hy2⟩
          · have := hcu3 rfl
            omega
          go_wp2
          go_roundw
          case rel =>
            refine ⟨k + 1, _, _, _, _, by omega, by go_num, rfl, HC2, by simp; omega, by omega, by omega, rfl, Lib.hid ⟨_, .inr ⟨k, _, y, s0 + d, cu, rfl, by simp [hL]; rfl, by simp; omega, hu2, rfl⟩⟩, HUU2, HF2.out, hfin, hb2⟩
          case measure => simp [intOf]; omega
        · rw [if_neg hd0] at HC2
          go_wp2
          go_roundw
          case rel =>
            refine ⟨k + 1, _, _, _, _, by omega, by go_num, rfl, HC2, by simp; omega, by omega, by omega, rfl, Lib.hid ⟨_, HLs.out.choose_spec.ext hL _ _⟩, HUU2, HF2.out, hfin, hb2⟩
          case measure => simp [intOf]; omega
      · have hkI : ¬ (k : Int) < (l.length : Int) := by omega
        have hkl : k = l.length := by omega
        subst hkl
        rw [List.take_length] at HC
        have hFL : FP (BW w1.heap.size) w1.heap.size wr (.slice A3 L.length c3) L us L.length := by
          rw [List.drop_length, List.append_nil, ← hL] at hF; exact hF
        clear hF hlt
        have HR2 : Hid (crE room l keep turn = 0 ∧ crF room l keep turn = flipAt L j (UInt8.ofNat turn.toNat) ∧ crR room l keep turn = room) := Lib.hid (by
          have := HR.out; rw [HC.out] at this; exact this)
        clear HR HC
        obtain ⟨lp, hls⟩ := HLs.out
        rcases hls with ⟨rfl, rfl⟩ | ⟨i, f, y, n, c, rfl, hfi, hfb, hui, rfl⟩
        · have xz0 : wr.cell? ⟨w.heap.size + 1, 0, none⟩ = some (.int .i64 0) := cell_of_row _ _ 0 _ _ _ q1; have fz0 : wr.frozen? ⟨w.heap.size + 1, 0, none⟩ = false := frozen_of_row _ _ 0 _ _ q1; have xz1 : wr.cell? ⟨w.heap.size + 1, 1, none⟩ = some (.slice none 0 0) := cell_of_row _ _ 1 _ _ _ q1; have fz1 : wr.frozen? ⟨w.heap.size + 1, 1, none⟩ = false := frozen_of_row _ _ 1 _ _ q1
          go_wp2
          refine bodyPost_ret (results_cell_tmp1 rfl _ _ (w.heap.size + 1) 24 #[.int .i64 room, .slice A3 l.length c3] (0, 0) _ rfl (set2 q1) Try.underlying24 rfl (by kernel_rfl)) rfl ?_
          refine ⟨_, by rw [HR2.out.1, HR2.out.2.2]; rfl, ?_, by (repeat (first | with_reducible exact Below.refl _ _ | with_reducible assumption | with_reducible refine bdraw ?_ | with_reducible refine bdrewN ?_ _ | with_reducible refine balloc ?_ _ | with_reducible refine bset ?_ (by simp <;> omega) | with_reducible refine bstep ?_ (by assumption) | with_reducible refine btrans ?_ (by assumption)))⟩
          rw [HR2.out.2.1, flipAt_none]
          rw [← hL]
          exact (((hFL.far (BW.ok _) (by simp; omega)).far (BW.ok _) (by simp; omega)).sl (BW.ok _)).mono (fun b fr h _ => ⟨by have := h.1; omega, h.2⟩)
        · obtain ⟨u, rfl⟩ : ∃ u : UInt8, turn = (u.toNat : Int) := ⟨UInt8.ofNat turn.toNat, by simp; omega⟩
          have hil := (List.getElem?_eq_some_iff.1 hfi).1
          have hb1 : f.b.length - 1 < f.b.length := by omega
          obtain ⟨g, hg, _⟩ := hFL.row.form3 (by omega)
          subst hg
          have hrg := hrs g rfl
          obtain ⟨y', e, hyg, hy1, hy2, hat, hF3⟩ := hFL.byteW (x := xr f.b[f.b.length - 1] u) hfi hui hil hb1
          injection e with e
          injection e with e
          subst e
          have HR3 : Hid (crF room l keep (u.toNat : Int) = L.set i ⟨f.n, f.b.set (f.b.length - 1) (xr f.b[f.b.length - 1] u), f.s⟩) := Lib.hid (by rw [HR2.out.2.1, Int.toNat_natCast, UInt8.ofNat_toNat, flipAt_some hfi hb1])
          have hc := hat.cell
          have hfz := hat.frozen (fun _ _ h => h)
          have hmod : (u.toNat : Int) % 256 = (u.toNat : Int) := by have := u.toNat_lt; omega
          have hyt := HUU.out i _ y hui rfl
          obtain ⟨_, ai1, _⟩ := hFL.row.tri3 (tris_get hfi hui)
          have aic := ai1.cell
          obtain ⟨_, An, cn, en, _⟩ := hFL.own i _ _ hui hfi hil
          injection en with en1 en2 en3
          clear en1 en3
          subst en2
          have hflen : f.b.length ≤ 9223372036854775807 := by
            have := ((BW.ok _).sl (hFL.own i _ _ hui hfi hil)).max
            exact this
          have hwl : IntKind.i64.wrap ((f.b.length : Int) - 1) = ((f.b.length - 1 : Nat) : Int) := by rw [IntWalk.i64_in _ (by omega)]; omega
          have hl0 : (0 : Int) ≤ ((f.b.length - 1 : Nat) : Int) := by omega
          have hl1 : ((f.b.length - 1 : Nat) : Int) < (f.b.length : Int) := by omega
          have hi0' : (0 : Int) ≤ (i : Int) := by omega
          have hi1' : (i : Int) < (L.length : Int) := by omega
          have hi2' : (i : Int) < (l.length : Int) := by omega
          clear ai1
          clear hat
          generalize f.b[f.b.length - 1] = xb at *
          have q0' := (heap_setCell_other wr ⟨y, f.b.length - 1, none⟩ w3.heap.size (.int .u8 ((xr xb u).toNat : Int)) (by simp; omega)).trans q0
          have q1' := (heap_setCell_other wr ⟨y, f.b.length - 1, none⟩ (w.heap.size + 1) (.int .u8 ((xr xb u).toNat : Int)) (by simp; omega)).trans q1
          have xs0 : (wr.setCell ⟨y, f.b.length - 1, none⟩ (.int .u8 ((xr xb u).toNat : Int))).cell? ⟨w3.heap.size, 0, none⟩ = some (.int .i64 room) := cell_of_row _ _ 0 _ _ _ q0'; have fs0 : (wr.setCell ⟨y, f.b.length - 1, none⟩ (.int .u8 ((xr xb u).toNat : Int))).frozen? ⟨w3.heap.size, 0, none⟩ = false := frozen_of_row _ _ 0 _ _ q0'; have xs1 : (wr.setCell ⟨y, f.b.length - 1, none⟩ (.int .u8 ((xr xb u).toNat : Int))).cell? ⟨w3.heap.size, 1, none⟩ = some (.slice (some ⟨g, 0, none⟩) l.length c3) := cell_of_row _ _ 1 _ _ _ q0'; have fs1 : (wr.setCell ⟨y, f.b.length - 1, none⟩ (.int .u8 ((xr xb u).toNat : Int))).frozen? ⟨w3.heap.size, 1, none⟩ = false := frozen_of_row _ _ 1 _ _ q0'
          have xz0 : (wr.setCell ⟨y, f.b.length - 1, none⟩ (.int .u8 ((xr xb u).toNat : Int))).cell? ⟨w.heap.size + 1, 0, none⟩ = some (.int .i64 0) := cell_of_row _ _ 0 _ _ _ q1'; have fz0 : (wr.setCell ⟨y, f.b.length - 1, none⟩ (.int .u8 ((xr xb u).toNat : Int))).frozen? ⟨w.heap.size + 1, 0, none⟩ = false := frozen_of_row _ _ 0 _ _ q1'; have xz1 : (wr.setCell ⟨y, f.b.length - 1, none⟩ (.int .u8 ((xr xb u).toNat : Int))).cell? ⟨w.heap.size + 1, 1, none⟩ = some (.slice none 0 0) := cell_of_row _ _ 1 _ _ _ q1'; have fz1 : (wr.setCell ⟨y, f.b.length - 1, none⟩ (.int .u8 ((xr xb u).toNat : Int))).frozen? ⟨w.heap.size + 1, 1, none⟩ = false := frozen_of_row _ _ 1 _ _ q1'
          go_wp2
          refine bodyPost_ret (results_cell_tmp1 rfl _ _ (w.heap.size + 1) 24 #[.int .i64 room, .slice (some ⟨g, 0, none⟩) l.length c3] (0, 0) _ rfl (set2 q1') Try.underlying24 rfl (by kernel_rfl)) rfl ?_
          have hb9 := hbr.setCell (p := ⟨y, f.b.length - 1, none⟩) (by simp; omega) (.int .u8 ((xr xb u).toNat : Int))
          refine ⟨_, by rw [HR2.out.1, HR2.out.2.2]; rfl, ?_, by (repeat (first | with_reducible exact Below.refl _ _ | with_reducible assumption | with_reducible refine bdraw ?_ | with_reducible refine bdrewN ?_ _ | with_reducible refine balloc ?_ _ | with_reducible refine bset ?_ (by simp <;> omega) | with_reducible refine bstep ?_ (by assumption) | with_reducible refine btrans ?_ (by assumption)))⟩
          rw [HR3.out]
          have hF4 : FP (BW w1.heap.size) w1.heap.size (wr.setCell ⟨y, f.b.length - 1, none⟩ (.int .u8 ((xr xb u).toNat : Int))) (.slice (some ⟨g, 0, none⟩) l.length c3) (L.set i ⟨f.n, f.b.set (f.b.length - 1) (xr xb u), f.s⟩) us (L.set i ⟨f.n, f.b.set (f.b.length - 1) (xr xb u), f.s⟩).length := by
            rw [List.length_set, ← hL]; exact hF3
          exact (((hF4.far (BW.ok _) (by simp; omega)).far (BW.ok _) (by simp; omega)).sl (BW.ok _)).mono (fun b fr h _ => ⟨by have := h.1; omega, h.2⟩)
end Go.Proofs.Ytnblnlbchcepjaa
