/- The journal: Drop, in both texts. -/
import Derived.Test.YtbahiohlhhdkcaaDoorJnp
set_option linter.unusedSimpArgs false
namespace Go.Proofs.YtbahiohlhhdkcaaDoor
open Go.RowKit

theorem snot {α : Type} {E : Enc α} {w : World} {B g : Nat} {v : Value} {l : List α} (h : Sl E (HiN B (some g)) w v l) (o : Nat) (u : Value) : Sl E (HiN B (some g)) (w.setCell ⟨g, o, none⟩ u) v l :=
  h.keep fun b _ hs _ => heap_setCell_other w _ b u (fun e => hs.2.2 (by rw [e]))
def drE (room : Int) (l : List Fi) : Int := if formedD room l then (if l.length = 0 then 16 else 0) else 1
def drF (room : Int) (l : List Fi) : List Fi := if drE room l = 0 then l.drop (l.length - 1) else []
def drR (room : Int) (l : List Fi) : Int := if drE room l = 0 then room else 0
theorem dr_bad {room : Int} {l : List Fi} (h : formedD room l = false) : drE room l = 1 ∧ drF room l = [] ∧ drR room l = 0 := by
  have e : drE room l = 1 := by unfold drE; rw [h]; rfl
  exact ⟨e, by unfold drF; rw [e]; rfl, by unfold drR; rw [e]; rfl⟩
theorem dr_none {room : Int} {l : List Fi} (h : formedD room l = true) (h0 : l.length = 0) : drE room l = 16 ∧ drF room l = [] ∧ drR room l = 0 := by
  have e : drE room l = 16 := by unfold drE; rw [h, if_pos rfl, if_pos h0]
  exact ⟨e, by unfold drF; rw [e]; rfl, by unfold drR; rw [e]; rfl⟩
theorem dr_ok {room : Int} {l : List Fi} (h : formedD room l = true) (h0 : l.length ≠ 0) : drE room l = 0 ∧ drF room l = l.drop (l.length - 1) ∧ drR room l = room := by
  have e : drE room l = 0 := by unfold drE; rw [h, if_pos rfl, if_neg h0]
  exact ⟨e, by unfold drF; rw [if_pos e], by unfold drR; rw [if_pos e]⟩
theorem formed_drop {room : Int} {l : List Fi} (k : Nat) (h : formedD room l = true) : formedD room (l.drop k) = true := by
  simp only [formedD, Bool.and_eq_true, decide_eq_true_eq] at *
  exact ⟨h.1, fine_drop k h.2 h.1.1⟩
theorem rm_head {room : Int} {l : List Fi} {k : Nat} (h : formedD room l = true) (hk : k < l.length) :
    gtE room (l.drop k) l[k].n = 0 ∧ idR room (l.drop k) l[k].n = room ∧ rmF room (l.drop k) l[k].n = l.drop (k + 1) := by
  have hd := formed_drop k h
  have h0 : 0 < (l.drop k).length := by rw [List.length_drop]; omega
  have he : (l.drop k)[0] = l[k] := by simp
  have hp := up_place (formedD_up hd) h0
  rw [he] at hp
  obtain ⟨g1, _, g3⟩ := id_ok hd hp h0
  refine ⟨g1, g3, ?_⟩
  rw [rm_ok g1 hp, List.eraseIdx_zero, List.tail_drop]
theorem app_nil {room : Int} {l : List Fi} {k : Nat} (h : formedD room l = true) (hk : k < l.length) : apE room l l[k].n [] = 0 ∧ apF room l l[k].n [] = l ∧ apR room l l[k].n [] = room := by
  have hs := formedD_size h
  have hf : -1 < l[k].n ∧ l[k].n ≤ 1048576 := by
    simp only [formedD, Bool.and_eq_true, decide_eq_true_eq] at h
    have := fineF_low h.2 _ (List.getElem_mem hk)
    omega
  have hu := formedD_up h
  obtain ⟨a1, a2, a3⟩ := apE_ok (n := l[k].n) (b := []) ⟨h, by omega, hf.2⟩ (by simp; omega)
  refine ⟨a1, ?_, a3⟩
  rw [a2, app1_hit hk (fun m _ hm => hu m k hm hk) rfl, List.append_nil]
  exact List.set_getElem_self hk

set_option maxHeartbeats 4000000 in
theorem jdrop_c {S : Foot} {v : Value} {room : Int} {l : List Fi} {w : World} (hp : Sl fiE S w v l) :
    Calls Tryd.prog 22 #[.agg #[.int .i64 room, v]] w (AnsS (drR room l) (drF room l) (drE room l) w) := by
  have hp := hp.any
  obtain ⟨A, cap, rfl, hc1, hc2, _⟩ := hp.shape
  unfold maxLen at hc2
  have q0 : ((w.alloc (.cells #[.int .i64 room, .slice A l.length cap] 24)).alloc (.cells #[.int .i64 0, .slice none 0 0] 24)).heap[w.heap.size]? = some (.cells #[.int .i64 room, .slice A l.length cap] 24 (0, 0)) := heap_alloc2_old _ _ _
  have q1 : ((w.alloc (.cells #[.int .i64 room, .slice A l.length cap] 24)).alloc (.cells #[.int .i64 0, .slice none 0 0] 24)).heap[w.heap.size + 1]? = some (.cells #[.int .i64 0, .slice none 0 0] 24 (0, 0)) := by
    have := heap_alloc_new (w.alloc (.cells #[.int .i64 room, .slice A l.length cap] 24)) (.cells #[.int .i64 0, .slice none 0 0] 24)
    rwa [World.size_alloc] at this
  have HF := fun (w' : World) (bb : Below w.heap.size w w') => Lib.hid (formed_c (room := room) (w := w') (hp.below (by (repeat (first | with_reducible exact Below.refl _ _ | with_reducible assumption | with_reducible refine bdraw ?_ | with_reducible refine bdrewN ?_ _ | with_reducible refine balloc ?_ _ | with_reducible refine bset ?_ (by simp <;> omega) | with_reducible refine bstep ?_ (by assumption) | with_reducible refine btrans ?_ (by assumption)))) (Nat.le_refl _)))
  have HL := fun (w' : World) (bb : Below w.heap.size w w') => Lib.hid (last_c (room := room) (w := w') (hp.below (by (repeat (first | with_reducible exact Below.refl _ _ | with_reducible assumption | with_reducible refine bdraw ?_ | with_reducible refine bdrewN ?_ _ | with_reducible refine balloc ?_ _ | with_reducible refine bset ?_ (by simp <;> omega) | with_reducible refine bstep ?_ (by assumption) | with_reducible refine btrans ?_ (by assumption)))) (Nat.le_refl _)))
  cases hE : formedD room l
  · have HR := Lib.hid (dr_bad hE)
    rw [hE] at HF
    clear hE HL
    go_enter Tryd.func22, Tryd.ntmps22
    go_wp2_with fail
    refine (HF _ (by (repeat (first | with_reducible exact Below.refl _ _ | with_reducible assumption | with_reducible refine bdraw ?_ | with_reducible refine bdrewN ?_ _ | with_reducible refine balloc ?_ _ | with_reducible refine bset ?_ (by simp <;> omega) | with_reducible refine bstep ?_ (by assumption) | with_reducible refine btrans ?_ (by assumption))))).out.mono ?_
    rintro e w1 ⟨rfl, b1⟩
    have z2 := blkb q1 (w' := w1) (by (repeat (first | with_reducible exact Below.refl _ _ | with_reducible assumption | with_reducible refine bdraw ?_ | with_reducible refine bdrewN ?_ _ | with_reducible refine balloc ?_ _ | with_reducible refine bset ?_ (by simp <;> omega) | with_reducible refine bstep ?_ (by assumption) | with_reducible refine btrans ?_ (by assumption))))
    have xc0 : w1.cell? ⟨w.heap.size + 1, 0, none⟩ = some (.int .i64 0) := cell_of_row _ _ 0 _ _ _ z2; have fc0 : w1.frozen? ⟨w.heap.size + 1, 0, none⟩ = false := frozen_of_row _ _ 0 _ _ z2; have xc1 : w1.cell? ⟨w.heap.size + 1, 1, none⟩ = some (.slice none 0 0) := cell_of_row _ _ 1 _ _ _ z2; have fc1 : w1.frozen? ⟨w.heap.size + 1, 1, none⟩ = false := frozen_of_row _ _ 1 _ _ z2
    go_wp2
    refine bodyPost_ret (results_cell_tmp1 rfl _ _ (w.heap.size + 1) 24 #[.int .i64 0, .slice none 0 0] (0, 0) _ rfl (set2 z2) Tryd.underlying24 rfl (by kernel_rfl)) rfl ?_
    exact ⟨_, by rw [HR.out.1, HR.out.2.2]; rfl, by rw [HR.out.2.1]; exact Sl.nil, by (repeat (first | with_reducible exact Below.refl _ _ | with_reducible assumption | with_reducible refine bdraw ?_ | with_reducible refine bdrewN ?_ _ | with_reducible refine balloc ?_ _ | with_reducible refine bset ?_ (by simp <;> omega) | with_reducible refine bstep ?_ (by assumption) | with_reducible refine btrans ?_ (by assumption)))⟩
  have HE := Lib.hid hE
  rw [hE] at HF
  go_enter Tryd.func22, Tryd.ntmps22
  go_wp2_with fail
  refine (HF _ (by (repeat (first | with_reducible exact Below.refl _ _ | with_reducible assumption | with_reducible refine bdraw ?_ | with_reducible refine bdrewN ?_ _ | with_reducible refine balloc ?_ _ | with_reducible refine bset ?_ (by simp <;> omega) | with_reducible refine bstep ?_ (by assumption) | with_reducible refine btrans ?_ (by assumption))))).out.mono ?_
  rintro e w1 ⟨rfl, b1⟩
  have q2 := blkb q0 (w' := w1) (by (repeat (first | with_reducible exact Below.refl _ _ | with_reducible assumption | with_reducible refine bdraw ?_ | with_reducible refine bdrewN ?_ _ | with_reducible refine balloc ?_ _ | with_reducible refine bset ?_ (by simp <;> omega) | with_reducible refine bstep ?_ (by assumption) | with_reducible refine btrans ?_ (by assumption))))
  have z2 := blkb q1 (w' := w1) (by (repeat (first | with_reducible exact Below.refl _ _ | with_reducible assumption | with_reducible refine bdraw ?_ | with_reducible refine bdrewN ?_ _ | with_reducible refine balloc ?_ _ | with_reducible refine bset ?_ (by simp <;> omega) | with_reducible refine bstep ?_ (by assumption) | with_reducible refine btrans ?_ (by assumption))))
  have xa0 : w1.cell? ⟨w.heap.size, 0, none⟩ = some (.int .i64 room) := cell_of_row _ _ 0 _ _ _ q2; have fa0 : w1.frozen? ⟨w.heap.size, 0, none⟩ = false := frozen_of_row _ _ 0 _ _ q2; have xa1 : w1.cell? ⟨w.heap.size, 1, none⟩ = some (.slice A l.length cap) := cell_of_row _ _ 1 _ _ _ q2; have fa1 : w1.frozen? ⟨w.heap.size, 1, none⟩ = false := frozen_of_row _ _ 1 _ _ q2
  by_cases h0 : l.length = 0
  · have HR := Lib.hid (dr_none hE h0)
    have hL := lastD_nil (room := room) h0
    rw [hL] at HL
    clear hE hL h0
    go_wp2_with fail
    refine (HL _ (by (repeat (first | with_reducible exact Below.refl _ _ | with_reducible assumption | with_reducible refine bdraw ?_ | with_reducible refine bdrewN ?_ _ | with_reducible refine balloc ?_ _ | with_reducible refine bset ?_ (by simp <;> omega) | with_reducible refine bstep ?_ (by assumption) | with_reducible refine btrans ?_ (by assumption))))).out.mono ?_
    rintro e w2 ⟨rfl, b2⟩
    have z3 := blkb z2 (w' := w2) (by (repeat (first | with_reducible exact Below.refl _ _ | with_reducible assumption | with_reducible refine bdraw ?_ | with_reducible refine bdrewN ?_ _ | with_reducible refine balloc ?_ _ | with_reducible refine bset ?_ (by simp <;> omega) | with_reducible refine bstep ?_ (by assumption) | with_reducible refine btrans ?_ (by assumption))))
    have xc0 : w2.cell? ⟨w.heap.size + 1, 0, none⟩ = some (.int .i64 0) := cell_of_row _ _ 0 _ _ _ z3; have fc0 : w2.frozen? ⟨w.heap.size + 1, 0, none⟩ = false := frozen_of_row _ _ 0 _ _ z3; have xc1 : w2.cell? ⟨w.heap.size + 1, 1, none⟩ = some (.slice none 0 0) := cell_of_row _ _ 1 _ _ _ z3; have fc1 : w2.frozen? ⟨w.heap.size + 1, 1, none⟩ = false := frozen_of_row _ _ 1 _ _ z3
    go_wp2
    refine bodyPost_ret (results_cell_tmp1 rfl _ _ (w.heap.size + 1) 24 #[.int .i64 0, .slice none 0 0] (0, 0) _ rfl (set2 z3) Tryd.underlying24 rfl (by kernel_rfl)) rfl ?_
    exact ⟨_, by rw [HR.out.1, HR.out.2.2]; rfl, by rw [HR.out.2.1]; exact Sl.nil, by (repeat (first | with_reducible exact Below.refl _ _ | with_reducible assumption | with_reducible refine bdraw ?_ | with_reducible refine bdrewN ?_ _ | with_reducible refine balloc ?_ _ | with_reducible refine bset ?_ (by simp <;> omega) | with_reducible refine bstep ?_ (by assumption) | with_reducible refine btrans ?_ (by assumption)))⟩
  have hlt : l.length - 1 < l.length := by omega
  have HR := Lib.hid (dr_ok hE h0)
  have hL := lastD_ok hE hlt
  have hlow : -1 < l[l.length - 1].n ∧ l[l.length - 1].n ≤ 1048576 := by
    simp only [formedD, Bool.and_eq_true, decide_eq_true_eq] at hE
    have := fineF_low hE.2 _ (List.getElem_mem hlt)
    omega
  have HN := Lib.hid (app_nil hE hlt)
  have HU : Hid (∀ k, (hk : k < l.length) → (k < l.length - 1 → l[k].n ≠ l[l.length - 1].n)) := Lib.hid (fun k hk h => by have := formedD_up hE k _ h hlt; omega)
  have hle1 : ∀ k, (hk : k < l.length) → ¬ (k < l.length - 1) → l[k].n = l[l.length - 1].n := by
    intro k hk h
    have e : k = l.length - 1 := by omega
    subst e
    rfl
  have HLE := Lib.hid hle1
  clear hle1
  rw [hL] at HL
  clear hL hE
  generalize l[l.length - 1].n = n at *
  go_wp2_with fail
  refine (HL _ (by (repeat (first | with_reducible exact Below.refl _ _ | with_reducible assumption | with_reducible refine bdraw ?_ | with_reducible refine bdrewN ?_ _ | with_reducible refine balloc ?_ _ | with_reducible refine bset ?_ (by simp <;> omega) | with_reducible refine bstep ?_ (by assumption) | with_reducible refine btrans ?_ (by assumption))))).out.mono ?_
  rintro e w2 ⟨rfl, b2⟩
  have q3 := blkb q2 (w' := w2) (by (repeat (first | with_reducible exact Below.refl _ _ | with_reducible assumption | with_reducible refine bdraw ?_ | with_reducible refine bdrewN ?_ _ | with_reducible refine balloc ?_ _ | with_reducible refine bset ?_ (by simp <;> omega) | with_reducible refine bstep ?_ (by assumption) | with_reducible refine btrans ?_ (by assumption))))
  have z3 := blkb z2 (w' := w2) (by (repeat (first | with_reducible exact Below.refl _ _ | with_reducible assumption | with_reducible refine bdraw ?_ | with_reducible refine bdrewN ?_ _ | with_reducible refine balloc ?_ _ | with_reducible refine bset ?_ (by simp <;> omega) | with_reducible refine bstep ?_ (by assumption) | with_reducible refine btrans ?_ (by assumption))))
  have bw2 : Below w.heap.size w w2 := by (repeat (first | with_reducible exact Below.refl _ _ | with_reducible assumption | with_reducible refine bdraw ?_ | with_reducible refine bdrewN ?_ _ | with_reducible refine balloc ?_ _ | with_reducible refine bset ?_ (by simp <;> omega) | with_reducible refine bstep ?_ (by assumption) | with_reducible refine btrans ?_ (by assumption)))
  have hz2 : w.heap.size + 2 ≤ w2.heap.size := by have := b1.size; have := b2.size; simp at *; omega
  have dn : decide (n < 0) = false := decide_eq_false (by omega)
  clear xa0 xa1 fa0 fa1 q0 q1 b1 b2
  have xa0 : w2.cell? ⟨w.heap.size, 0, none⟩ = some (.int .i64 room) := cell_of_row _ _ 0 _ _ _ q3; have fa0 : w2.frozen? ⟨w.heap.size, 0, none⟩ = false := frozen_of_row _ _ 0 _ _ q3; have xa1 : w2.cell? ⟨w.heap.size, 1, none⟩ = some (.slice A l.length cap) := cell_of_row _ _ 1 _ _ _ q3; have fa1 : w2.frozen? ⟨w.heap.size, 1, none⟩ = false := frozen_of_row _ _ 1 _ _ q3
  have HA := Lib.hid ((append_c (room := room) (n := n) (b := []) (w := w2) (hp.below (by (repeat (first | with_reducible exact Below.refl _ _ | with_reducible assumption | with_reducible refine bdraw ?_ | with_reducible refine bdrewN ?_ _ | with_reducible refine balloc ?_ _ | with_reducible refine bset ?_ (by simp <;> omega) | with_reducible refine bstep ?_ (by assumption) | with_reducible refine btrans ?_ (by assumption)))) (Nat.le_refl _)) (S' := Any) Sl.nil).mono fun _ _ h => (Appended.s h).s)
  rw [HN.out.1, HN.out.2.1, HN.out.2.2] at HA
  go_wp2_with fail
  refine HA.out.mono ?_
  rintro e w3 ⟨A3, c3, rfl, s3, b3⟩
  obtain ⟨W, hW⟩ : ∃ W, w3.alloc (.cells #[.int .i64 room, .slice A3 l.length c3] 24) = W := ⟨_, rfl⟩
  have hz3 := b3.size
  have hzW : W.heap.size = w3.heap.size + 1 := by rw [← hW]; simp
  have qn : W.heap[w3.heap.size]? = some (.cells #[.int .i64 room, .slice A3 l.length c3] 24 (0, 0)) := by rw [← hW]; exact heap_alloc_new w3 _
  have b3W : Below w3.heap.size w3 W := by rw [← hW]; exact (Below.refl _ _).alloc (Nat.le_refl _) _
  have q4 := blkb (blkb q3 (w' := w3) b3) b3W
  have z4 := blkb (blkb z3 (w' := w3) b3) b3W
  have bw4 : Below w.heap.size w W := bw2.trans ((b3.trans (b3W.mono b3.size)).mono (by omega))
  have sn : Sl fiE (HiN w2.heap.size (some w3.heap.size)) W (.slice A3 l.length c3) l := (s3.mono (fun b fr h hl => ⟨h.1, h.2, fun e => by injection e with e; omega⟩)).below b3W (Nat.le_refl _)
  have HW := Lib.hid hW
  have qW := q4
  rw [← hW] at qW
  clear hW xa0 xa1 fa0 fa1 HA HL HF s3 q2 q3 z2 z3
  have xa0 : (w3.alloc (.cells #[.int .i64 room, .slice A3 l.length c3] 24)).cell? ⟨w.heap.size, 0, none⟩ = some (.int .i64 room) := cell_of_row _ _ 0 _ _ _ qW; have fa0 : (w3.alloc (.cells #[.int .i64 room, .slice A3 l.length c3] 24)).frozen? ⟨w.heap.size, 0, none⟩ = false := frozen_of_row _ _ 0 _ _ qW; have xa1 : (w3.alloc (.cells #[.int .i64 room, .slice A3 l.length c3] 24)).cell? ⟨w.heap.size, 1, none⟩ = some (.slice A l.length cap) := cell_of_row _ _ 1 _ _ _ qW; have fa1 : (w3.alloc (.cells #[.int .i64 room, .slice A3 l.length c3] 24)).frozen? ⟨w.heap.size, 1, none⟩ = false := frozen_of_row _ _ 1 _ _ qW
  go_wp2
  rw [HW.out]
  clear HW
  have HQ := Lib.hid (And.intro q4 z4)
  clear q4 z4 qW xa0 xa1 fa0 fa1
  go_loopw [6, 8, 27] (fun ev _ iv wr => ∃ (k : Nat) (vn : Value), k ≤ l.length ∧ iv = .int .i64 k ∧ ev = .int .i64 0 ∧ Hid (wr.heap[w3.heap.size]? = some (.cells #[.int .i64 room, vn] 24 (0, 0))) ∧
    Sl fiE (HiN w2.heap.size (some w3.heap.size)) wr vn (l.drop (min k (l.length - 1))) ∧ Below w3.heap.size W wr) (fun _ _ iv _ => l.length - (intOf iv).toNat)
  case atStart => exact ⟨0, _, Nat.zero_le _, by go_num, by go_num, Lib.hid qn, by rw [Nat.zero_min]; exact sn, Below.refl _ _⟩
  case round =>
    obtain ⟨k, vn, hk, rfl, rfl, HQn, sv, hbr⟩ := hrel
    obtain ⟨cur, hcur⟩ : ∃ cur, l.drop (min k (l.length - 1)) = cur := ⟨_, rfl⟩
    rw [hcur] at sv
    obtain ⟨An, cn, rfl, hcn1, hcn2, _⟩ := sv.shape
    have HCU := Lib.hid hcur
    clear hcur
    have hz := hbr.size
    have hbw : Below w.heap.size w wr := bw4.trans (hbr.mono (by omega))
    have hqn := HQn.out
    by_cases hlt2 : k < l.length
    · have hkI : (k : Int) < (l.length : Int) := by omega
      have hk0 : (0 : Int) ≤ (k : Int) := by omega
      obtain ⟨bb, off, Av, cv, rfl, k0, k1, k2, hv⟩ := (hp.below hbw (Nat.le_refl _)).fi hlt2
      have HRM := Lib.hid (rm_head HE.out hlt2)
      have HUk := Lib.hid (HU.out k hlt2)
      have HLk := Lib.hid (HLE.out k hlt2)
      generalize l[k] = x at *
      obtain ⟨_, _, e, hcv1, hcv2, _⟩ := hv.shape
      injection e with e1 e0 e2
      subst e1 e2
      clear e0
      unfold maxLen at hcv2
      have d2 := k0.cell
      have d3 := k1.cell
      have d4 := k2.cell
      clear k0 k1 k2
      have e5 := heap_alloc_new wr (.cells #[.int .i64 x.n, .slice Av x.b.length cv, .int .i64 x.s] 50)
      have b5 : Below wr.heap.size wr (wr.alloc (.cells #[.int .i64 x.n, .slice Av x.b.length cv, .int .i64 x.s] 50)) := (Below.refl _ _).alloc (Nat.le_refl _) _
      have qn5 := blkb hqn b5
      have sv5 := sv.below b5 (Nat.le_refl _)
      have hb5 := hbr.trans (b5.mono (by omega))
      have xu0 : (wr.alloc (.cells #[.int .i64 x.n, .slice Av x.b.length cv, .int .i64 x.s] 50)).cell? ⟨wr.heap.size, 0, none⟩ = some (.int .i64 x.n) := cell_of_row _ _ 0 _ _ _ e5; have fu0 : (wr.alloc (.cells #[.int .i64 x.n, .slice Av x.b.length cv, .int .i64 x.s] 50)).frozen? ⟨wr.heap.size, 0, none⟩ = false := frozen_of_row _ _ 0 _ _ e5; have xu1 : (wr.alloc (.cells #[.int .i64 x.n, .slice Av x.b.length cv, .int .i64 x.s] 50)).cell? ⟨wr.heap.size, 1, none⟩ = some (.slice Av x.b.length cv) := cell_of_row _ _ 1 _ _ _ e5; have fu1 : (wr.alloc (.cells #[.int .i64 x.n, .slice Av x.b.length cv, .int .i64 x.s] 50)).frozen? ⟨wr.heap.size, 1, none⟩ = false := frozen_of_row _ _ 1 _ _ e5; have xu2 : (wr.alloc (.cells #[.int .i64 x.n, .slice Av x.b.length cv, .int .i64 x.s] 50)).cell? ⟨wr.heap.size, 2, none⟩ = some (.int .i64 x.s) := cell_of_row _ _ 2 _ _ _ e5; have fu2 : (wr.alloc (.cells #[.int .i64 x.n, .slice Av x.b.length cv, .int .i64 x.s] 50)).frozen? ⟨wr.heap.size, 2, none⟩ = false := frozen_of_row _ _ 2 _ _ e5
      have xv0 : (wr.alloc (.cells #[.int .i64 x.n, .slice Av x.b.length cv, .int .i64 x.s] 50)).cell? ⟨w3.heap.size, 0, none⟩ = some (.int .i64 room) := cell_of_row _ _ 0 _ _ _ qn5; have fv0 : (wr.alloc (.cells #[.int .i64 x.n, .slice Av x.b.length cv, .int .i64 x.s] 50)).frozen? ⟨w3.heap.size, 0, none⟩ = false := frozen_of_row _ _ 0 _ _ qn5; have xv1 : (wr.alloc (.cells #[.int .i64 x.n, .slice Av x.b.length cv, .int .i64 x.s] 50)).cell? ⟨w3.heap.size, 1, none⟩ = some (.slice An cur.length cn) := cell_of_row _ _ 1 _ _ _ qn5; have fv1 : (wr.alloc (.cells #[.int .i64 x.n, .slice Av x.b.length cv, .int .i64 x.s] 50)).frozen? ⟨w3.heap.size, 1, none⟩ = false := frozen_of_row _ _ 1 _ _ qn5
      by_cases hlast : k < l.length - 1
      · have t1 : (x.n != n) = true := by rw [bne_iff_ne]; exact HUk.out hlast
        have hck : l.drop k = cur := by rw [← HCU.out, Nat.min_eq_left (by omega)]
        obtain ⟨nx, hnx⟩ : ∃ nx, l.drop (k + 1) = nx := ⟨_, rfl⟩
        have HNX := Lib.hid hnx
        have HC := Lib.hid ((remove_c (room := room) (n := x.n) sv5).mono fun _ _ h => h.s)
        have hrm := HRM.out
        rw [hck, hnx] at hrm
        rw [hrm.1, hrm.2.1, hrm.2.2] at HC
        have hmin2 : min (k + 1) (l.length - 1) = k + 1 := Nat.min_eq_left (by omega)
        clear HRM hrm hck hnx hcn1
        go_wp2_with fail
        refine HC.out.mono ?_
        rintro e w6 ⟨A6, c6, rfl, s6, b6⟩
        have qn6 := blkb qn5 b6
        have hz6 := b6.size
        simp only [World.size_alloc] at hz6
        have s6' : Sl fiE (HiN w2.heap.size (some w3.heap.size)) w6 (.slice A6 nx.length c6) nx := s6.mono (fun b fr h _ => ⟨by have := h.1; simp only [World.size_alloc] at this; omega, h.2, fun e => by have := h.1; simp only [World.size_alloc] at this; injection e with e; omega⟩)
        clear xv0 xv1 fv0 fv1
        have xv0 : w6.cell? ⟨w3.heap.size, 0, none⟩ = some (.int .i64 room) := cell_of_row _ _ 0 _ _ _ qn6; have fv0 : w6.frozen? ⟨w3.heap.size, 0, none⟩ = false := frozen_of_row _ _ 0 _ _ qn6; have xv1 : w6.cell? ⟨w3.heap.size, 1, none⟩ = some (.slice An cur.length cn) := cell_of_row _ _ 1 _ _ _ qn6; have fv1 : w6.frozen? ⟨w3.heap.size, 1, none⟩ = false := frozen_of_row _ _ 1 _ _ qn6
        have hb6 := hb5.trans (b6.mono (by simp only [World.size_alloc]; omega))
        go_wp2
        go_roundw
        case rel => exact ⟨k + 1, _, by omega, by go_num, rfl, Lib.hid (set2 qn6), by rw [hmin2, HNX.out]; exact snot (snot s6' 0 _) 1 _, bset (bset hb6 (Nat.le_refl _)) (Nat.le_refl _)⟩
        case measure => simp [intOf]; omega
      · have t1 : (x.n != n) = false := by rw [HLk.out hlast]; simp
        have hmin : min (k + 1) (l.length - 1) = min k (l.length - 1) := by omega
        clear HRM
        go_wp2
        go_roundw
        case rel => exact ⟨k + 1, _, by omega, by go_num, rfl, Lib.hid qn5, by rw [hmin, HCU.out]; exact sv5, hb5⟩
        case measure => simp [intOf]; omega
    · have hkI : ¬ (k : Int) < (l.length : Int) := by omega
      have hmin : min k (l.length - 1) = l.length - 1 := by omega
      have z5 := (hbr.block (w.heap.size + 1) (by omega)).trans HQ.out.2
      have hck : l.drop (l.length - 1) = cur := by rw [← HCU.out, hmin]
      rw [hck] at HR
      clear hck hcn1
      have xv0 : wr.cell? ⟨w3.heap.size, 0, none⟩ = some (.int .i64 room) := cell_of_row _ _ 0 _ _ _ hqn; have fv0 : wr.frozen? ⟨w3.heap.size, 0, none⟩ = false := frozen_of_row _ _ 0 _ _ hqn; have xv1 : wr.cell? ⟨w3.heap.size, 1, none⟩ = some (.slice An cur.length cn) := cell_of_row _ _ 1 _ _ _ hqn; have fv1 : wr.frozen? ⟨w3.heap.size, 1, none⟩ = false := frozen_of_row _ _ 1 _ _ hqn
      have xz0 : wr.cell? ⟨w.heap.size + 1, 0, none⟩ = some (.int .i64 0) := cell_of_row _ _ 0 _ _ _ z5; have fz0 : wr.frozen? ⟨w.heap.size + 1, 0, none⟩ = false := frozen_of_row _ _ 0 _ _ z5; have xz1 : wr.cell? ⟨w.heap.size + 1, 1, none⟩ = some (.slice none 0 0) := cell_of_row _ _ 1 _ _ _ z5; have fz1 : wr.frozen? ⟨w.heap.size + 1, 1, none⟩ = false := frozen_of_row _ _ 1 _ _ z5
      have sv' : Sl fiE (Hi w2.heap.size) wr (.slice An cur.length cn) cur := sv.mono (fun b fr h _ => ⟨h.1, h.2.1⟩)
      clear hmin
      go_wp2
      refine bodyPost_ret (results_cell_tmp1 rfl _ _ (w.heap.size + 1) 24 #[.int .i64 room, .slice An cur.length cn] (0, 0) _ rfl (set2 z5) Tryd.underlying24 rfl (by kernel_rfl)) rfl ?_
      refine ⟨_, by rw [HR.out.1, HR.out.2.2]; rfl, ?_, by (repeat (first | with_reducible exact Below.refl _ _ | with_reducible assumption | with_reducible refine bdraw ?_ | with_reducible refine bdrewN ?_ _ | with_reducible refine balloc ?_ _ | with_reducible refine bset ?_ (by simp <;> omega) | with_reducible refine bstep ?_ (by assumption) | with_reducible refine btrans ?_ (by assumption)))⟩
      rw [HR.out.2.1]
      exact (sfar (sfar sv' (by simp; omega)) (by simp; omega)).mono (fun b fr h _ => ⟨by have := h.1; omega, h.2⟩)
set_option maxHeartbeats 4000000 in
theorem rjdrop_c {S : Foot} {v : Value} {room : Int} {l : List Fi} {w : World} (hp : Sl fiE S w v l) :
    Calls Tryd.prog 23 #[.agg #[.int .i64 room, v]] w (AnsS (drR room l) (drF room l) (drE room l) w) := by
  have hp := hp.any
  obtain ⟨i0, hin, hy0, hy1, hy2⟩ := info_parts fi_info
  obtain ⟨A, cap, rfl, hc1, hc2, _⟩ := hp.shape
  unfold maxLen at hc2
  have q0 : ((w.alloc (.cells #[.int .i64 room, .slice A l.length cap] 24)).alloc (.cells #[.int .i64 0, .slice none 0 0] 24)).heap[w.heap.size]? = some (.cells #[.int .i64 room, .slice A l.length cap] 24 (0, 0)) := heap_alloc2_old _ _ _
  have q1 : ((w.alloc (.cells #[.int .i64 room, .slice A l.length cap] 24)).alloc (.cells #[.int .i64 0, .slice none 0 0] 24)).heap[w.heap.size + 1]? = some (.cells #[.int .i64 0, .slice none 0 0] 24 (0, 0)) := by
    have := heap_alloc_new (w.alloc (.cells #[.int .i64 room, .slice A l.length cap] 24)) (.cells #[.int .i64 0, .slice none 0 0] 24)
    rwa [World.size_alloc] at this
  have HF := fun (w' : World) (bb : Below w.heap.size w w') => Lib.hid (rformed_c (room := room) (w := w') (hp.below (by (repeat (first | with_reducible exact Below.refl _ _ | with_reducible assumption | with_reducible refine bdraw ?_ | with_reducible refine bdrewN ?_ _ | with_reducible refine balloc ?_ _ | with_reducible refine bset ?_ (by simp <;> omega) | with_reducible refine bstep ?_ (by assumption) | with_reducible refine btrans ?_ (by assumption)))) (Nat.le_refl _)))
  cases hE : formedD room l
  · have HR := Lib.hid (dr_bad hE)
    rw [hE] at HF
    clear hE
    go_enter Tryd.func23, Tryd.ntmps23
    go_wp2_with fail
    refine (HF _ (by (repeat (first | with_reducible exact Below.refl _ _ | with_reducible assumption | with_reducible refine bdraw ?_ | with_reducible refine bdrewN ?_ _ | with_reducible refine balloc ?_ _ | with_reducible refine bset ?_ (by simp <;> omega) | with_reducible refine bstep ?_ (by assumption) | with_reducible refine btrans ?_ (by assumption))))).out.mono ?_
    rintro e w1 ⟨rfl, b1⟩
    have z2 := blkb q1 (w' := w1) (by (repeat (first | with_reducible exact Below.refl _ _ | with_reducible assumption | with_reducible refine bdraw ?_ | with_reducible refine bdrewN ?_ _ | with_reducible refine balloc ?_ _ | with_reducible refine bset ?_ (by simp <;> omega) | with_reducible refine bstep ?_ (by assumption) | with_reducible refine btrans ?_ (by assumption))))
    have xc0 : w1.cell? ⟨w.heap.size + 1, 0, none⟩ = some (.int .i64 0) := cell_of_row _ _ 0 _ _ _ z2; have fc0 : w1.frozen? ⟨w.heap.size + 1, 0, none⟩ = false := frozen_of_row _ _ 0 _ _ z2; have xc1 : w1.cell? ⟨w.heap.size + 1, 1, none⟩ = some (.slice none 0 0) := cell_of_row _ _ 1 _ _ _ z2; have fc1 : w1.frozen? ⟨w.heap.size + 1, 1, none⟩ = false := frozen_of_row _ _ 1 _ _ z2
    go_wp2
    refine bodyPost_ret (results_cell_tmp1 rfl _ _ (w.heap.size + 1) 24 #[.int .i64 0, .slice none 0 0] (0, 0) _ rfl (set2 z2) Tryd.underlying24 rfl (by kernel_rfl)) rfl ?_
    exact ⟨_, by rw [HR.out.1, HR.out.2.2]; rfl, by rw [HR.out.2.1]; exact Sl.nil, by (repeat (first | with_reducible exact Below.refl _ _ | with_reducible assumption | with_reducible refine bdraw ?_ | with_reducible refine bdrewN ?_ _ | with_reducible refine balloc ?_ _ | with_reducible refine bset ?_ (by simp <;> omega) | with_reducible refine bstep ?_ (by assumption) | with_reducible refine btrans ?_ (by assumption)))⟩
  have HE := Lib.hid hE
  rw [hE] at HF
  go_enter Tryd.func23, Tryd.ntmps23
  go_wp2_with fail
  refine (HF _ (by (repeat (first | with_reducible exact Below.refl _ _ | with_reducible assumption | with_reducible refine bdraw ?_ | with_reducible refine bdrewN ?_ _ | with_reducible refine balloc ?_ _ | with_reducible refine bset ?_ (by simp <;> omega) | with_reducible refine bstep ?_ (by assumption) | with_reducible refine btrans ?_ (by assumption))))).out.mono ?_
  rintro e w1 ⟨rfl, b1⟩
  have q2 := blkb q0 (w' := w1) (by (repeat (first | with_reducible exact Below.refl _ _ | with_reducible assumption | with_reducible refine bdraw ?_ | with_reducible refine bdrewN ?_ _ | with_reducible refine balloc ?_ _ | with_reducible refine bset ?_ (by simp <;> omega) | with_reducible refine bstep ?_ (by assumption) | with_reducible refine btrans ?_ (by assumption))))
  have z2 := blkb q1 (w' := w1) (by (repeat (first | with_reducible exact Below.refl _ _ | with_reducible assumption | with_reducible refine bdraw ?_ | with_reducible refine bdrewN ?_ _ | with_reducible refine balloc ?_ _ | with_reducible refine bset ?_ (by simp <;> omega) | with_reducible refine bstep ?_ (by assumption) | with_reducible refine btrans ?_ (by assumption))))
  have bw1 : Below w.heap.size w w1 := by (repeat (first | with_reducible exact Below.refl _ _ | with_reducible assumption | with_reducible refine bdraw ?_ | with_reducible refine bdrewN ?_ _ | with_reducible refine balloc ?_ _ | with_reducible refine bset ?_ (by simp <;> omega) | with_reducible refine bstep ?_ (by assumption) | with_reducible refine btrans ?_ (by assumption)))
  have hz1 : w.heap.size + 2 ≤ w1.heap.size := by have := b1.size; simp at this; omega
  have xa0 : w1.cell? ⟨w.heap.size, 0, none⟩ = some (.int .i64 room) := cell_of_row _ _ 0 _ _ _ q2; have fa0 : w1.frozen? ⟨w.heap.size, 0, none⟩ = false := frozen_of_row _ _ 0 _ _ q2; have xa1 : w1.cell? ⟨w.heap.size, 1, none⟩ = some (.slice A l.length cap) := cell_of_row _ _ 1 _ _ _ q2; have fa1 : w1.frozen? ⟨w.heap.size, 1, none⟩ = false := frozen_of_row _ _ 1 _ _ q2
  by_cases h0 : l.length = 0
  · have HR := Lib.hid (dr_none hE h0)
    have d0 : ((l.length : Int) == 0) = true := by rw [h0]; rfl
    clear hE h0
    have xc0 : w1.cell? ⟨w.heap.size + 1, 0, none⟩ = some (.int .i64 0) := cell_of_row _ _ 0 _ _ _ z2; have fc0 : w1.frozen? ⟨w.heap.size + 1, 0, none⟩ = false := frozen_of_row _ _ 0 _ _ z2; have xc1 : w1.cell? ⟨w.heap.size + 1, 1, none⟩ = some (.slice none 0 0) := cell_of_row _ _ 1 _ _ _ z2; have fc1 : w1.frozen? ⟨w.heap.size + 1, 1, none⟩ = false := frozen_of_row _ _ 1 _ _ z2
    go_wp2
    refine bodyPost_ret (results_cell_tmp1 rfl _ _ (w.heap.size + 1) 24 #[.int .i64 0, .slice none 0 0] (0, 0) _ rfl (set2 z2) Tryd.underlying24 rfl (by kernel_rfl)) rfl ?_
    exact ⟨_, by rw [HR.out.1, HR.out.2.2]; rfl, by rw [HR.out.2.1]; exact Sl.nil, by (repeat (first | with_reducible exact Below.refl _ _ | with_reducible assumption | with_reducible refine bdraw ?_ | with_reducible refine bdrewN ?_ _ | with_reducible refine balloc ?_ _ | with_reducible refine bset ?_ (by simp <;> omega) | with_reducible refine bstep ?_ (by assumption) | with_reducible refine btrans ?_ (by assumption)))⟩
  have d0 : ((l.length : Int) == 0) = false := by rw [beq_eq_false_iff_ne]; omega
  have HR := Lib.hid (dr_ok hE h0)
  have hll := formedD_len hE
  have hsz := formedD_size hE
  have HB : Hid (∀ f ∈ l, f.b.length ≤ 140737488355328) := Lib.hid (fun f hf => by have := sizeD_mem hf; omega)
  have hwl : IntKind.i64.wrap ((l.length : Int) - 1) = ((l.length - 1 : Nat) : Int) := by rw [IntWalk.i64_in _ (by omega)]; omega
  have hl0 : (0 : Int) ≤ ((l.length - 1 : Nat) : Int) := by omega
  clear hE
  go_wp2_with fail
  refine (rcopy_c (room := room) (hp.below (by (repeat (first | with_reducible exact Below.refl _ _ | with_reducible assumption | with_reducible refine bdraw ?_ | with_reducible refine bdrewN ?_ _ | with_reducible refine balloc ?_ _ | with_reducible refine bset ?_ (by simp <;> omega) | with_reducible refine bstep ?_ (by assumption) | with_reducible refine btrans ?_ (by assumption)))) (Nat.le_refl _)) (by omega) HB.out).mono ?_
  rintro e w2 ⟨v2, us, rfl, hF2, b2⟩
  have s2 := hF2.sl (BO.ok _)
  obtain ⟨A2, c2, rfl, hc3, hc4, _⟩ := s2.shape
  have z3 := blkb z2 (w' := w2) (by (repeat (first | with_reducible exact Below.refl _ _ | with_reducible assumption | with_reducible refine bdraw ?_ | with_reducible refine bdrewN ?_ _ | with_reducible refine balloc ?_ _ | with_reducible refine bset ?_ (by simp <;> omega) | with_reducible refine bstep ?_ (by assumption) | with_reducible refine btrans ?_ (by assumption))))
  have hz2 := b2.size
  obtain ⟨A4, c4, s4, hcut⟩ := s2.cut_l Tryd.underlying22 hin hy1 (lo := l.length - 1) (by omega) rfl
  have x3 := heap_alloc_new w2 (.cells #[.int .i64 room, .slice A2 l.length c2] 24)
  have z5 := blkb z3 (w' := (w2.alloc (.cells #[.int .i64 room, .slice A4 (l.length - (l.length - 1)) c4] 24))) (by (repeat (first | with_reducible exact Below.refl _ _ | with_reducible assumption | with_reducible refine bdraw ?_ | with_reducible refine bdrewN ?_ _ | with_reducible refine balloc ?_ _ | with_reducible refine bset ?_ (by simp <;> omega) | with_reducible refine bstep ?_ (by assumption) | with_reducible refine btrans ?_ (by assumption))))
  have s5 := s4.below (w' := (w2.alloc (.cells #[.int .i64 room, .slice A4 (l.length - (l.length - 1)) c4] 24))) ((Below.refl _ _).alloc (Nat.le_refl _) _) (Nat.le_refl _)
  clear xa0 xa1 fa0 fa1
  have xx0 : (w2.alloc (.cells #[.int .i64 room, .slice A2 l.length c2] 24)).cell? ⟨w2.heap.size, 0, none⟩ = some (.int .i64 room) := cell_of_row _ _ 0 _ _ _ x3; have fx0 : (w2.alloc (.cells #[.int .i64 room, .slice A2 l.length c2] 24)).frozen? ⟨w2.heap.size, 0, none⟩ = false := frozen_of_row _ _ 0 _ _ x3; have xx1 : (w2.alloc (.cells #[.int .i64 room, .slice A2 l.length c2] 24)).cell? ⟨w2.heap.size, 1, none⟩ = some (.slice A2 l.length c2) := cell_of_row _ _ 1 _ _ _ x3; have fx1 : (w2.alloc (.cells #[.int .i64 room, .slice A2 l.length c2] 24)).frozen? ⟨w2.heap.size, 1, none⟩ = false := frozen_of_row _ _ 1 _ _ x3
  have xz0 : (w2.alloc (.cells #[.int .i64 room, .slice A4 (l.length - (l.length - 1)) c4] 24)).cell? ⟨w.heap.size + 1, 0, none⟩ = some (.int .i64 0) := cell_of_row _ _ 0 _ _ _ z5; have fz0 : (w2.alloc (.cells #[.int .i64 room, .slice A4 (l.length - (l.length - 1)) c4] 24)).frozen? ⟨w.heap.size + 1, 0, none⟩ = false := frozen_of_row _ _ 0 _ _ z5; have xz1 : (w2.alloc (.cells #[.int .i64 room, .slice A4 (l.length - (l.length - 1)) c4] 24)).cell? ⟨w.heap.size + 1, 1, none⟩ = some (.slice none 0 0) := cell_of_row _ _ 1 _ _ _ z5; have fz1 : (w2.alloc (.cells #[.int .i64 room, .slice A4 (l.length - (l.length - 1)) c4] 24)).frozen? ⟨w.heap.size + 1, 1, none⟩ = false := frozen_of_row _ _ 1 _ _ z5
  go_wp2
  refine bodyPost_ret (results_cell_tmp1 rfl _ _ (w.heap.size + 1) 24 #[.int .i64 room, .slice A4 (l.length - (l.length - 1)) c4] (0, 0) _ rfl (set2 z5) Tryd.underlying24 rfl (by kernel_rfl)) rfl ?_
  refine ⟨_, by rw [HR.out.1, HR.out.2.2]; rfl, ?_, by (repeat (first | with_reducible exact Below.refl _ _ | with_reducible assumption | with_reducible refine bdraw ?_ | with_reducible refine bdrewN ?_ _ | with_reducible refine balloc ?_ _ | with_reducible refine bset ?_ (by simp <;> omega) | with_reducible refine bstep ?_ (by assumption) | with_reducible refine btrans ?_ (by assumption)))⟩
  rw [HR.out.2.1]
  exact (sfar (sfar s5 (by simp; omega)) (by simp; omega)).mono (fun b fr h _ => ⟨by have := h.1; omega, h.2⟩)
end Go.Proofs.YtbahiohlhhdkcaaDoor
