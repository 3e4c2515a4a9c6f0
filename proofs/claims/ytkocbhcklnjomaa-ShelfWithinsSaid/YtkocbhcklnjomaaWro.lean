/- Shelves: the program's Put. -/
import Derived.Test.YtkocbhcklnjomaaWrn
namespace Go.Proofs.Ytkocbhcklnjomaa
open Go.RowKit

def putOk (l m : List Wr) : Bool := formedW l && m.all rightW
def puts (l m : List Wr) : List Wr := if putOk l m then m.foldl put1 l else []
def Putted (l m : List Wr) (w : World) (e : Ending) (w' : World) : Prop :=
  ∃ v' n, e = .returned (.tuple #[v', .int .i64 n]) ∧ Hid (n = if putOk l m then 0 else 1) ∧ Sl wrE (Hi w.heap.size) w' v' (puts l m) ∧ Below w.heap.size w w'

set_option maxHeartbeats 4000000 in
theorem put_c {S S' : Foot} {v u : Value} {l m : List Wr} {w : World} (hp : Sl wrE S w v l) (hq : Sl wrE S' w u m) (hm : m.length ≤ 4398046511104) (hl : l.length ≤ 4398046511104) :
    Calls Try.prog 9 #[v, u] w (Putted l m w) := by
  have hp := hp.any
  have hq := hq.any
  obtain ⟨A, cap, rfl, hc1, hc2, _⟩ := hq.shape
  unfold maxLen at hc2
  have HC := Lib.hid (formed_c hp)
  go_enter Try.func9, Try.ntmps9
  go_wp2_with (first
    | (go_at_call 14; refine HC.out.mono ?_; rintro e w1 ⟨rfl, b1⟩)
    | (go_at_call 20; refine (clonew_c (hp.below (by (repeat (first | with_reducible exact Below.refl _ _ | with_reducible assumption | with_reducible refine bdraw ?_ | with_reducible refine bdrewN ?_ _ | with_reducible refine balloc ?_ _ | with_reducible refine bset ?_ (by simp <;> omega) | with_reducible refine bstep ?_ (by assumption) | with_reducible refine btrans ?_ (by assumption)))) (Nat.le_refl _)) hl).mono ?_; rintro e w2 ⟨v2, rfl, o2, b2⟩))
  · have hf : formedW l = false := by simp_all
    have e : putOk l m = false := by unfold putOk; rw [hf]; rfl
    go_ret2
    exact ⟨_, 1, rfl, Lib.hid (by rw [e]; rfl), by unfold puts; rw [e]; exact Sl.nil, by (repeat (first | with_reducible exact Below.refl _ _ | with_reducible assumption | with_reducible refine bdraw ?_ | with_reducible refine bdrewN ?_ _ | with_reducible refine balloc ?_ _ | with_reducible refine bset ?_ (by simp <;> omega) | with_reducible refine bstep ?_ (by assumption) | with_reducible refine btrans ?_ (by assumption)))⟩
  · have HF : Hid (formedW l = true) := Lib.hid (by simp_all)
    go_loopw [6, 8, 9, 10, 18] (fun ov _ _ _ iv wr => ∃ (k : Nat) (acc : List Wr), k ≤ m.length ∧ iv = .int .i64 k ∧ Own wrE Any wr w.heap.size 32 ov acc ∧ Hid (acc = (m.take k).foldl put1 l ∧ formedW acc = true ∧ (m.take k).all rightW = true) ∧ Below w.heap.size w wr) (fun _ _ _ _ iv _ => m.length - (intOf iv).toNat)
    case atStart => exact ⟨0, l, by omega, by go_num, o2.base_mono (by have := b1.size; omega), Lib.hid ⟨by simp, HF.out, by simp⟩, by (repeat (first | with_reducible exact Below.refl _ _ | with_reducible assumption | with_reducible refine bdraw ?_ | with_reducible refine bdrewN ?_ _ | with_reducible refine balloc ?_ _ | with_reducible refine bset ?_ (by simp <;> omega) | with_reducible refine bstep ?_ (by assumption) | with_reducible refine btrans ?_ (by assumption)))⟩
    case round =>
      obtain ⟨k, acc, hk, rfl, ho, HA, hbr⟩ := hrel
      have hlen : acc.length ≤ 256 := by have := formedA_len HA.out.2.1 (by omega); omega
      by_cases hlt : k < m.length
      · obtain ⟨b, off, rfl, a0, a1, a2, a3⟩ := (hq.below (by (repeat (first | with_reducible exact Below.refl _ _ | with_reducible assumption | with_reducible refine bdraw ?_ | with_reducible refine bdrewN ?_ _ | with_reducible refine balloc ?_ _ | with_reducible refine bset ?_ (by simp <;> omega) | with_reducible refine bstep ?_ (by assumption) | with_reducible refine btrans ?_ (by assumption)))) (Nat.le_refl _)).wr hlt
        have hkI : (k : Int) < (m.length : Int) := by omega
        have HX : Hid (m.take (k + 1) = m.take k ++ [m[k]]) := Lib.hid (by rw [List.take_add_one]; simp [hlt])
        have HP : Hid (rightW m[k] = false → putOk l m = false) := Lib.hid (fun h => by
          unfold putOk
          rw [Bool.and_eq_false_iff]; right
          rw [← Bool.not_eq_true, List.all_eq_true]
          intro hall
          have := hall _ (List.getElem_mem hlt)
          rw [h] at this; cases this)
        generalize m[k] = x at HX HP a0 a1 a2 a3
        have HCr := fun (w : World) => Lib.hid (right_c x w)
        have c0 := atb a0 (w' := wr) (by (repeat (first | with_reducible exact Below.refl _ _ | with_reducible assumption | with_reducible refine bdraw ?_ | with_reducible refine bdrewN ?_ _ | with_reducible refine balloc ?_ _ | with_reducible refine bset ?_ (by simp <;> omega) | with_reducible refine bstep ?_ (by assumption) | with_reducible refine btrans ?_ (by assumption)))); have c1 := atb a1 (w' := wr) (by (repeat (first | with_reducible exact Below.refl _ _ | with_reducible assumption | with_reducible refine bdraw ?_ | with_reducible refine bdrewN ?_ _ | with_reducible refine balloc ?_ _ | with_reducible refine bset ?_ (by simp <;> omega) | with_reducible refine bstep ?_ (by assumption) | with_reducible refine btrans ?_ (by assumption)))); have c2 := atb a2 (w' := wr) (by (repeat (first | with_reducible exact Below.refl _ _ | with_reducible assumption | with_reducible refine bdraw ?_ | with_reducible refine bdrewN ?_ _ | with_reducible refine balloc ?_ _ | with_reducible refine bset ?_ (by simp <;> omega) | with_reducible refine bstep ?_ (by assumption) | with_reducible refine btrans ?_ (by assumption)))); have c3 := atb a3 (w' := wr) (by (repeat (first | with_reducible exact Below.refl _ _ | with_reducible assumption | with_reducible refine bdraw ?_ | with_reducible refine bdrewN ?_ _ | with_reducible refine balloc ?_ _ | with_reducible refine bset ?_ (by simp <;> omega) | with_reducible refine bstep ?_ (by assumption) | with_reducible refine btrans ?_ (by assumption))))
        clear a0 a1 a2 a3
        have hos := ho.slAny
        have HU := Lib.hid (formedA_up HA.out.2.1)
        obtain ⟨Ao, co, rfl, hco1, hco2, _⟩ := hos.shape
        unfold maxLen at hco2
        go_wp2_with (first
          | (go_at_call 22; refine (place_c (hos.below (by (repeat (first | with_reducible exact Below.refl _ _ | with_reducible assumption | with_reducible refine bdraw ?_ | with_reducible refine bdrewN ?_ _ | with_reducible refine balloc ?_ _ | with_reducible refine bset ?_ (by simp <;> omega) | with_reducible refine bstep ?_ (by assumption) | with_reducible refine btrans ?_ (by assumption)))) (Nat.le_refl _)) HU.out (by omega)).mono ?_; rintro e w4 ⟨i, f, rfl, HI, b4⟩; have q4 := blkb q3 (w' := w4) (by (repeat (first | with_reducible exact Below.refl _ _ | with_reducible assumption | with_reducible refine bdraw ?_ | with_reducible refine bdrewN ?_ _ | with_reducible refine balloc ?_ _ | with_reducible refine bset ?_ (by simp <;> omega) | with_reducible refine bstep ?_ (by assumption) | with_reducible refine btrans ?_ (by assumption)))); have xs0 : w4.cell? ⟨wr.heap.size, 0, none⟩ = some (.int .i64 x.c) := cell_of_row _ _ 0 _ _ _ q4; have fs0 : w4.frozen? ⟨wr.heap.size, 0, none⟩ = false := frozen_of_row _ _ 0 _ _ q4; have xs1 : w4.cell? ⟨wr.heap.size, 1, none⟩ = some (.int .i64 x.n) := cell_of_row _ _ 1 _ _ _ q4; have fs1 : w4.frozen? ⟨wr.heap.size, 1, none⟩ = false := frozen_of_row _ _ 1 _ _ q4; have xs2 : w4.cell? ⟨wr.heap.size, 2, none⟩ = some (.int .i64 x.o) := cell_of_row _ _ 2 _ _ _ q4; have fs2 : w4.frozen? ⟨wr.heap.size, 2, none⟩ = false := frozen_of_row _ _ 2 _ _ q4; have xs3 : w4.cell? ⟨wr.heap.size, 3, none⟩ = some (.bool x.g) := cell_of_row _ _ 3 _ _ _ q4; have fs3 : w4.frozen? ⟨wr.heap.size, 3, none⟩ = false := frozen_of_row _ _ 3 _ _ q4)
          | (go_at_call 23; refine (insert_c (B := w.heap.size) (i := i) (vb := w4.heap.size) (x := x) (ho.below (by (repeat (first | with_reducible exact Below.refl _ _ | with_reducible assumption | with_reducible refine bdraw ?_ | with_reducible refine bdrewN ?_ _ | with_reducible refine balloc ?_ _ | with_reducible refine bset ?_ (by simp <;> omega) | with_reducible refine bstep ?_ (by assumption) | with_reducible refine btrans ?_ (by assumption)))) (Nat.le_refl _)) HI.out.1 (by omega) (heap_alloc_new w4 _) (by have := hbr.size; have := b3.size; have := b4.size; simp at *; omega) (fun e => by have := ho.lt _ e; have := b3.size; have := b4.size; simp at *; omega)).mono ?_; rintro e w5 ⟨v5, rfl, o5, b5⟩)
          | (go_at_call 21; refine (HCr _).out.mono ?_; rintro e w3 ⟨rfl, b3⟩; have q3 := blkb (heap_alloc_new wr (.cells #[.int .i64 x.c, .int .i64 x.n, .int .i64 x.o, .bool x.g] 32)) (w' := w3) (by (repeat (first | with_reducible exact Below.refl _ _ | with_reducible assumption | with_reducible refine bdraw ?_ | with_reducible refine bdrewN ?_ _ | with_reducible refine balloc ?_ _ | with_reducible refine bset ?_ (by simp <;> omega) | with_reducible refine bstep ?_ (by assumption) | with_reducible refine btrans ?_ (by assumption)))); have xr0 : w3.cell? ⟨wr.heap.size, 0, none⟩ = some (.int .i64 x.c) := cell_of_row _ _ 0 _ _ _ q3; have fr0 : w3.frozen? ⟨wr.heap.size, 0, none⟩ = false := frozen_of_row _ _ 0 _ _ q3; have xr1 : w3.cell? ⟨wr.heap.size, 1, none⟩ = some (.int .i64 x.n) := cell_of_row _ _ 1 _ _ _ q3; have fr1 : w3.frozen? ⟨wr.heap.size, 1, none⟩ = false := frozen_of_row _ _ 1 _ _ q3; have xr2 : w3.cell? ⟨wr.heap.size, 2, none⟩ = some (.int .i64 x.o) := cell_of_row _ _ 2 _ _ _ q3; have fr2 : w3.frozen? ⟨wr.heap.size, 2, none⟩ = false := frozen_of_row _ _ 2 _ _ q3; have xr3 : w3.cell? ⟨wr.heap.size, 3, none⟩ = some (.bool x.g) := cell_of_row _ _ 3 _ _ _ q3; have fr3 : w3.frozen? ⟨wr.heap.size, 3, none⟩ = false := frozen_of_row _ _ 3 _ _ q3))
        · have hxf : rightW x = false := by simp_all
          have e := HP.out hxf
          go_ret2
          exact ⟨_, 1, rfl, Lib.hid (by rw [e]; rfl), by unfold puts; rw [e]; exact Sl.nil, by (repeat (first | with_reducible exact Below.refl _ _ | with_reducible assumption | with_reducible refine bdraw ?_ | with_reducible refine bdrewN ?_ _ | with_reducible refine balloc ?_ _ | with_reducible refine bset ?_ (by simp <;> omega) | with_reducible refine bstep ?_ (by assumption) | with_reducible refine btrans ?_ (by assumption)))⟩
        · go_roundw
          case rel =>
            have hxr : rightW x = true := by simp_all
            have hx0 : -1 < x.o := by simp [rightW] at hxr; omega
            have e1 : put1 acc x = acc.insertIdx i x := put1_miss HI.out.1 HI.out.2.1 HI.out.2.2.1 (fun h he => by have := HI.out.2.2.2.2 ⟨h, he⟩; simp_all)
            exact ⟨k + 1, acc.insertIdx i x, by omega, by go_num, o5, Lib.hid ⟨by rw [HX.out, List.foldl_append, ← HA.out.1, ← e1]; rfl, by rw [← e1]; exact formedA_put1 HA.out.2.1 hx0 hxr, by rw [HX.out, List.all_append, HA.out.2.2]; simp [hxr]⟩, by (repeat (first | with_reducible exact Below.refl _ _ | with_reducible assumption | with_reducible refine bdraw ?_ | with_reducible refine bdrewN ?_ _ | with_reducible refine balloc ?_ _ | with_reducible refine bset ?_ (by simp <;> omega) | with_reducible refine bstep ?_ (by assumption) | with_reducible refine btrans ?_ (by assumption)))⟩
          case measure => simp [intOf]; omega
        · obtain ⟨hil, hio⟩ : ∃ h : i < acc.length, acc[i].o = x.o := HI.out.2.2.2.1 (by simp_all)
          obtain ⟨g, cg, hform, hgB, hgl, hgc, _⟩ := ho.form1 (by omega)
          injection hform with e1 _ e3
          subst e1 e3
          obtain ⟨b', off', e', y0, y1, y2, y3⟩ := hos.wr hil
          injection e' with e'
          injection e' with e1 e2
          subst e1 e2
          simp only [Nat.zero_add] at y0 y1 y2 y3
          have r0 := (hos.wr hil)
          have hst := fun (W : World) (hW : Below wr.heap.size wr W) => (ho.below hW (Nat.le_refl _)).stored4 hil x
          have HH := Lib.hid (put1_hit hil HI.out.2.1 hio)
          have HO := Lib.hid hio
          clear hio r0
          generalize acc[i] = y at *
          have d0 := atb y0 (w' := w4) (by (repeat (first | with_reducible exact Below.refl _ _ | with_reducible assumption | with_reducible refine bdraw ?_ | with_reducible refine bdrewN ?_ _ | with_reducible refine balloc ?_ _ | with_reducible refine bset ?_ (by simp <;> omega) | with_reducible refine bstep ?_ (by assumption) | with_reducible refine btrans ?_ (by assumption)))); have d1 := atb y1 (w' := w4) (by (repeat (first | with_reducible exact Below.refl _ _ | with_reducible assumption | with_reducible refine bdraw ?_ | with_reducible refine bdrewN ?_ _ | with_reducible refine balloc ?_ _ | with_reducible refine bset ?_ (by simp <;> omega) | with_reducible refine bstep ?_ (by assumption) | with_reducible refine btrans ?_ (by assumption)))); have d2 := atb y2 (w' := w4) (by (repeat (first | with_reducible exact Below.refl _ _ | with_reducible assumption | with_reducible refine bdraw ?_ | with_reducible refine bdrewN ?_ _ | with_reducible refine balloc ?_ _ | with_reducible refine bset ?_ (by simp <;> omega) | with_reducible refine bstep ?_ (by assumption) | with_reducible refine btrans ?_ (by assumption)))); have d3 := atb y3 (w' := w4) (by (repeat (first | with_reducible exact Below.refl _ _ | with_reducible assumption | with_reducible refine bdraw ?_ | with_reducible refine bdrewN ?_ _ | with_reducible refine balloc ?_ _ | with_reducible refine bset ?_ (by simp <;> omega) | with_reducible refine bstep ?_ (by assumption) | with_reducible refine btrans ?_ (by assumption))))
          have e0 := at_new (w := wr) (cs := #[.int .i64 x.c, .int .i64 x.n, .int .i64 x.o, .bool x.g]) (t := 32) (i := 0) (v := .int .i64 x.c) rfl; have e1 := at_new (w := wr) (cs := #[.int .i64 x.c, .int .i64 x.n, .int .i64 x.o, .bool x.g]) (t := 32) (i := 1) (v := .int .i64 x.n) rfl; have e2 := at_new (w := wr) (cs := #[.int .i64 x.c, .int .i64 x.n, .int .i64 x.o, .bool x.g]) (t := 32) (i := 2) (v := .int .i64 x.o) rfl; have e3 := at_new (w := wr) (cs := #[.int .i64 x.c, .int .i64 x.n, .int .i64 x.o, .bool x.g]) (t := 32) (i := 3) (v := .bool x.g) rfl
          go_region_held3 (fun w' => w'.cell? ⟨g, i * 4, none⟩ = some (.int .i64 y.c) ∧ w'.cell? ⟨g, i * 4 + 1, none⟩ = some (.int .i64 y.n) ∧ w'.cell? ⟨wr.heap.size, 0, none⟩ = some (.int .i64 x.c) ∧ w'.cell? ⟨wr.heap.size, 1, none⟩ = some (.int .i64 x.n))
            (first | go_keep | (refine ⟨?_, ?_, ?_, ?_⟩ <;> (first | exact atb y0 (by (repeat (first | with_reducible exact Below.refl _ _ | with_reducible assumption | with_reducible refine bdraw ?_ | with_reducible refine bdrewN ?_ _ | with_reducible refine balloc ?_ _ | with_reducible refine bset ?_ (by simp <;> omega) | with_reducible refine bstep ?_ (by assumption) | with_reducible refine btrans ?_ (by assumption)))) | exact atb y1 (by (repeat (first | with_reducible exact Below.refl _ _ | with_reducible assumption | with_reducible refine bdraw ?_ | with_reducible refine bdrewN ?_ _ | with_reducible refine balloc ?_ _ | with_reducible refine bset ?_ (by simp <;> omega) | with_reducible refine bstep ?_ (by assumption) | with_reducible refine btrans ?_ (by assumption)))) | exact atb e0 (by (repeat (first | with_reducible exact Below.refl _ _ | with_reducible assumption | with_reducible refine bdraw ?_ | with_reducible refine bdrewN ?_ _ | with_reducible refine balloc ?_ _ | with_reducible refine bset ?_ (by simp <;> omega) | with_reducible refine bstep ?_ (by assumption) | with_reducible refine btrans ?_ (by assumption)))) | exact atb e1 (by (repeat (first | with_reducible exact Below.refl _ _ | with_reducible assumption | with_reducible refine bdraw ?_ | with_reducible refine bdrewN ?_ _ | with_reducible refine balloc ?_ _ | with_reducible refine bset ?_ (by simp <;> omega) | with_reducible refine bstep ?_ (by assumption) | with_reducible refine btrans ?_ (by assumption)))))))
            (first
              | (go_at_call 24; go_must (refine (cmpS_c _ _ _ _ _).mono ?_; rintro e w5 ⟨rfl, b5⟩))
              | fail)
          have q5 := blkb (heap_alloc_new wr (.cells #[.int .i64 x.c, .int .i64 x.n, .int .i64 x.o, .bool x.g] 32)) (w' := w5) (by (repeat (first | with_reducible exact Below.refl _ _ | with_reducible assumption | with_reducible refine bdraw ?_ | with_reducible refine bdrewN ?_ _ | with_reducible refine balloc ?_ _ | with_reducible refine bset ?_ (by simp <;> omega) | with_reducible refine bstep ?_ (by assumption) | with_reducible refine btrans ?_ (by assumption))))
          clear e0 e1 e2 e3
          have bw5 : Below wr.heap.size wr w5 := by (repeat (first | with_reducible exact Below.refl _ _ | with_reducible assumption | with_reducible refine bdraw ?_ | with_reducible refine bdrewN ?_ _ | with_reducible refine balloc ?_ _ | with_reducible refine bset ?_ (by simp <;> omega) | with_reducible refine bstep ?_ (by assumption) | with_reducible refine btrans ?_ (by assumption)))
          have xt0 : w5.cell? ⟨wr.heap.size, 0, none⟩ = some (.int .i64 x.c) := cell_of_row _ _ 0 _ _ _ q5; have ft0 : w5.frozen? ⟨wr.heap.size, 0, none⟩ = false := frozen_of_row _ _ 0 _ _ q5; have xt1 : w5.cell? ⟨wr.heap.size, 1, none⟩ = some (.int .i64 x.n) := cell_of_row _ _ 1 _ _ _ q5; have ft1 : w5.frozen? ⟨wr.heap.size, 1, none⟩ = false := frozen_of_row _ _ 1 _ _ q5; have xt2 : w5.cell? ⟨wr.heap.size, 2, none⟩ = some (.int .i64 x.o) := cell_of_row _ _ 2 _ _ _ q5; have ft2 : w5.frozen? ⟨wr.heap.size, 2, none⟩ = false := frozen_of_row _ _ 2 _ _ q5; have xt3 : w5.cell? ⟨wr.heap.size, 3, none⟩ = some (.bool x.g) := cell_of_row _ _ 3 _ _ _ q5; have ft3 : w5.frozen? ⟨wr.heap.size, 3, none⟩ = false := frozen_of_row _ _ 3 _ _ q5
          have d0 := atb y0 (w' := w5) (by (repeat (first | with_reducible exact Below.refl _ _ | with_reducible assumption | with_reducible refine bdraw ?_ | with_reducible refine bdrewN ?_ _ | with_reducible refine balloc ?_ _ | with_reducible refine bset ?_ (by simp <;> omega) | with_reducible refine bstep ?_ (by assumption) | with_reducible refine btrans ?_ (by assumption)))); have d1 := atb y1 (w' := w5) (by (repeat (first | with_reducible exact Below.refl _ _ | with_reducible assumption | with_reducible refine bdraw ?_ | with_reducible refine bdrewN ?_ _ | with_reducible refine balloc ?_ _ | with_reducible refine bset ?_ (by simp <;> omega) | with_reducible refine bstep ?_ (by assumption) | with_reducible refine btrans ?_ (by assumption)))); have d2 := atb y2 (w' := w5) (by (repeat (first | with_reducible exact Below.refl _ _ | with_reducible assumption | with_reducible refine bdraw ?_ | with_reducible refine bdrewN ?_ _ | with_reducible refine balloc ?_ _ | with_reducible refine bset ?_ (by simp <;> omega) | with_reducible refine bstep ?_ (by assumption) | with_reducible refine btrans ?_ (by assumption)))); have d3 := atb y3 (w' := w5) (by (repeat (first | with_reducible exact Below.refl _ _ | with_reducible assumption | with_reducible refine bdraw ?_ | with_reducible refine bdrewN ?_ _ | with_reducible refine balloc ?_ _ | with_reducible refine bset ?_ (by simp <;> omega) | with_reducible refine bstep ?_ (by assumption) | with_reducible refine btrans ?_ (by assumption))))
          have o5 := ho.below bw5 (Nat.le_refl _)
          obtain ⟨z5, hor, _⟩ := o5
          have k0 := hor.frozenAt (i * 4)
          have k1 := hor.frozenAt (i * 4 + 1)
          have k2 := hor.frozenAt (i * 4 + 2)
          have k3 := hor.frozenAt (i * 4 + 3)
          clear hor
          go_wp2
          all_goals
            go_roundw
            case rel =>
              have hxr : rightW x = true := by simp_all
              have hx0 : -1 < x.o := by simp [rightW] at hxr; omega
              have hpf := formedA_put1 HA.out.2.1 hx0 hxr
              have e2 : put1 acc x = (m.take (k + 1)).foldl put1 l := by rw [HX.out, List.foldl_append, ← HA.out.1]; rfl
              have e3 : (m.take (k + 1)).all rightW = true := by rw [HX.out, List.all_append, HA.out.2.2]; simp [hxr]
              by_cases hnw : cmpS y.c y.n x.c x.n < 0
              · have e1 : put1 acc x = acc.set i x := by rw [HH.out, if_pos (by unfold newer; exact decide_eq_true hnw)]
                first
                  | exact ⟨k + 1, acc.set i x, by omega, by go_num, hst w5 bw5, Lib.hid ⟨by rw [← e1]; exact e2, by rw [← e1]; exact hpf, e3⟩, by (repeat (first | with_reducible exact Below.refl _ _ | with_reducible assumption | with_reducible refine bdraw ?_ | with_reducible refine bdrewN ?_ _ | with_reducible refine balloc ?_ _ | with_reducible refine bset ?_ (by simp <;> omega) | with_reducible refine bstep ?_ (by assumption) | with_reducible refine btrans ?_ (by assumption)))⟩
                  | (exfalso; omega)
              · have e1 : put1 acc x = acc := by rw [HH.out, if_neg (by unfold newer; simpa using hnw)]
                first
                  | exact ⟨k + 1, acc, by omega, by go_num, ho.below bw5 (Nat.le_refl _), Lib.hid ⟨by rw [← e2, e1], HA.out.2.1, e3⟩, by (repeat (first | with_reducible exact Below.refl _ _ | with_reducible assumption | with_reducible refine bdraw ?_ | with_reducible refine bdrewN ?_ _ | with_reducible refine balloc ?_ _ | with_reducible refine bset ?_ (by simp <;> omega) | with_reducible refine bstep ?_ (by assumption) | with_reducible refine btrans ?_ (by assumption)))⟩
                  | (exfalso; omega)
            case measure => simp [intOf]; omega
      · have hkI : ¬ (k : Int) < (m.length : Int) := by omega
        have e : putOk l m = true := by unfold putOk; rw [HF.out]; have := HA.out.2.2; rw [show k = m.length by omega, List.take_length] at this; rw [this]; rfl
        have e2 : acc = m.foldl put1 l := by have := HA.out.1; rw [show k = m.length by omega, List.take_length] at this; exact this
        have e3 := Lib.hid (And.intro e e2)
        clear e e2
        have hcl := ho.flat (S' := Hi w.heap.size) |>.sl (S' := Hi w.heap.size) (fun _ _ h _ => h) (fun _ _ h _ => ⟨h, rfl⟩)
        go_wp2_with (go_at_call 25; refine (clip_c hcl).mono ?_; rintro e w3 ⟨v3, rfl, s3, rfl⟩)
        go_ret2
        exact ⟨_, 0, rfl, Lib.hid (by rw [e3.out.1]; rfl), by unfold puts; rw [e3.out.1]; exact e3.out.2 ▸ s3, hbr⟩
end Go.Proofs.Ytkocbhcklnjomaa
