/- Shelves: formed, in both words; the same writes. -/
import Derived.Test.YtkocbhcklnjomaaWrt
import Derived.Test.YtkocbhcklnjomaaExt
namespace Go.Proofs.Ytkocbhcklnjomaa
open Go.RowKit

theorem lastO_snoc (x : Wr) : ∀ (d : Int) (l : List Wr), lastO d (l ++ [x]) = x.o
  | _, [] => rfl
  | _, y :: r => lastO_snoc x y.o r
theorem formedA_append (m : List Wr) : ∀ (d : Int) (l : List Wr), formedA d (l ++ m) = (formedA d l && formedA (lastO d l) m)
  | _, [] => by simp [formedA, lastO]
  | d, x :: r => by
    rw [List.cons_append, formedA, formedA, formedA_append m x.o r, lastO, Bool.and_assoc, Bool.and_assoc, Bool.and_assoc]
theorem formedA_take {d : Int} {l : List Wr} (h : formedA d l = true) (k : Nat) : formedA d (l.take k) = true := by
  rw [← List.take_append_drop k l, formedA_append, Bool.and_eq_true] at h
  exact h.1
theorem formedA_snoc {d : Int} {l : List Wr} {k : Nat} (hk : k < l.length) : formedA d (l.take (k + 1)) = (formedA d (l.take k) && (rightW l[k] && decide (lastO d (l.take k) < l[k].o))) := by
  rw [List.take_succ_eq_append_getElem hk, formedA_append]
  simp [formedA]
theorem formedW_not {l : List Wr} {k : Nat} (h : formedA (-1) (l.take k) = false) : formedW l = false := by
  unfold formedW
  cases e : formedA (-1) l
  · rfl
  · rw [formedA_take e k] at h; cases h
theorem lastO_take {d : Int} {l : List Wr} {k : Nat} (hk : k < l.length) : lastO d (l.take (k + 1)) = l[k].o := by
  rw [List.take_succ_eq_append_getElem hk, lastO_snoc]

set_option maxHeartbeats 1000000 in
theorem formed_c {S : Foot} {v : Value} {l : List Wr} {w : World} (hp : Sl wrE S w v l) :
    Calls Try.prog 14 #[v] w fun e w' => e = .returned (.bool (formedW l)) ∧ Below w.heap.size w w' := by
  have hp := hp.any
  obtain ⟨A, cap, rfl, hc1, hc2, _⟩ := hp.shape
  unfold maxLen at hc2
  go_enter Try.func14, Try.ntmps14
  go_wp2
  go_loopw [3, 5, 8] (fun last _ i wr => ∃ k : Nat, k ≤ l.length ∧ i = .int .i64 k ∧ last = .int .i64 (lastO (-1) (l.take k)) ∧ Hid (formedA (-1) (l.take k) = true) ∧ Below w.heap.size w wr) (fun _ _ i _ => l.length - (intOf i).toNat)
  case atStart => exact ⟨0, Nat.zero_le _, rfl, rfl, Lib.hid rfl, Below.refl _ _⟩
  case round =>
    obtain ⟨k, hk, rfl, rfl, HT, hbr⟩ := hrel
    by_cases hlt : k < l.length
    · obtain ⟨b, off, rfl, a0, a1, a2, a3⟩ := (hp.below (by (repeat (first | with_reducible exact Below.refl _ _ | with_reducible assumption | with_reducible refine bdraw ?_ | with_reducible refine bdrewN ?_ _ | with_reducible refine balloc ?_ _ | with_reducible refine bset ?_ (by simp <;> omega) | with_reducible refine bstep ?_ (by assumption) | with_reducible refine btrans ?_ (by assumption)))) (Nat.le_refl _)).wr hlt
      have HS := Lib.hid (formedA_snoc (d := -1) hlt)
      have HL := Lib.hid (lastO_take (d := -1) hlt)
      have HN := Lib.hid (fun h => formedW_not (l := l) (k := k + 1) h)
      generalize l[k] = x at *
      generalize lastO (-1) (l.take k) = d at *
      have c0 := atb a0 (w' := wr) (by (repeat (first | with_reducible exact Below.refl _ _ | with_reducible assumption | with_reducible refine bdraw ?_ | with_reducible refine bdrewN ?_ _ | with_reducible refine balloc ?_ _ | with_reducible refine bset ?_ (by simp <;> omega) | with_reducible refine bstep ?_ (by assumption) | with_reducible refine btrans ?_ (by assumption)))); have c1 := atb a1 (w' := wr) (by (repeat (first | with_reducible exact Below.refl _ _ | with_reducible assumption | with_reducible refine bdraw ?_ | with_reducible refine bdrewN ?_ _ | with_reducible refine balloc ?_ _ | with_reducible refine bset ?_ (by simp <;> omega) | with_reducible refine bstep ?_ (by assumption) | with_reducible refine btrans ?_ (by assumption)))); have c2 := atb a2 (w' := wr) (by (repeat (first | with_reducible exact Below.refl _ _ | with_reducible assumption | with_reducible refine bdraw ?_ | with_reducible refine bdrewN ?_ _ | with_reducible refine balloc ?_ _ | with_reducible refine bset ?_ (by simp <;> omega) | with_reducible refine bstep ?_ (by assumption) | with_reducible refine btrans ?_ (by assumption)))); have c3 := atb a3 (w' := wr) (by (repeat (first | with_reducible exact Below.refl _ _ | with_reducible assumption | with_reducible refine bdraw ?_ | with_reducible refine bdrewN ?_ _ | with_reducible refine balloc ?_ _ | with_reducible refine bset ?_ (by simp <;> omega) | with_reducible refine bstep ?_ (by assumption) | with_reducible refine btrans ?_ (by assumption))))
      have e0 := at_new (w := wr) (cs := #[.int .i64 x.c, .int .i64 x.n, .int .i64 x.o, .bool x.g]) (t := 32) (i := 0) (v := .int .i64 x.c) rfl; have e1 := at_new (w := wr) (cs := #[.int .i64 x.c, .int .i64 x.n, .int .i64 x.o, .bool x.g]) (t := 32) (i := 1) (v := .int .i64 x.n) rfl; have e2 := at_new (w := wr) (cs := #[.int .i64 x.c, .int .i64 x.n, .int .i64 x.o, .bool x.g]) (t := 32) (i := 2) (v := .int .i64 x.o) rfl; have e3 := at_new (w := wr) (cs := #[.int .i64 x.c, .int .i64 x.n, .int .i64 x.o, .bool x.g]) (t := 32) (i := 3) (v := .bool x.g) rfl
      clear a0 a1 a2 a3
      go_wp2_with (go_at_call 21; refine (right_c x _).mono ?_; rintro e w1 ⟨rfl, b1⟩; have z0 := atb e0 (w' := w1) (by (repeat (first | with_reducible exact Below.refl _ _ | with_reducible assumption | with_reducible refine bdraw ?_ | with_reducible refine bdrewN ?_ _ | with_reducible refine balloc ?_ _ | with_reducible refine bset ?_ (by simp <;> omega) | with_reducible refine bstep ?_ (by assumption) | with_reducible refine btrans ?_ (by assumption)))); have z1 := atb e1 (w' := w1) (by (repeat (first | with_reducible exact Below.refl _ _ | with_reducible assumption | with_reducible refine bdraw ?_ | with_reducible refine bdrewN ?_ _ | with_reducible refine balloc ?_ _ | with_reducible refine bset ?_ (by simp <;> omega) | with_reducible refine bstep ?_ (by assumption) | with_reducible refine btrans ?_ (by assumption)))); have z2 := atb e2 (w' := w1) (by (repeat (first | with_reducible exact Below.refl _ _ | with_reducible assumption | with_reducible refine bdraw ?_ | with_reducible refine bdrewN ?_ _ | with_reducible refine balloc ?_ _ | with_reducible refine bset ?_ (by simp <;> omega) | with_reducible refine bstep ?_ (by assumption) | with_reducible refine btrans ?_ (by assumption)))); have z3 := atb e3 (w' := w1) (by (repeat (first | with_reducible exact Below.refl _ _ | with_reducible assumption | with_reducible refine bdraw ?_ | with_reducible refine bdrewN ?_ _ | with_reducible refine balloc ?_ _ | with_reducible refine bset ?_ (by simp <;> omega) | with_reducible refine bstep ?_ (by assumption) | with_reducible refine btrans ?_ (by assumption)))))
      all_goals first
        | (go_ret; exact ⟨ret_bool (HN.out (by rw [HS.out, HT.out]; simp_all)).symm, by (repeat (first | with_reducible exact Below.refl _ _ | with_reducible assumption | with_reducible refine bdraw ?_ | with_reducible refine bdrewN ?_ _ | with_reducible refine balloc ?_ _ | with_reducible refine bset ?_ (by simp <;> omega) | with_reducible refine bstep ?_ (by assumption) | with_reducible refine btrans ?_ (by assumption)))⟩)
        | (go_roundw
           case rel => exact ⟨k + 1, by omega, by go_num, by rw [HL.out], Lib.hid (by rw [HS.out, HT.out]; simp_all), by (repeat (first | with_reducible exact Below.refl _ _ | with_reducible assumption | with_reducible refine bdraw ?_ | with_reducible refine bdrewN ?_ _ | with_reducible refine balloc ?_ _ | with_reducible refine bset ?_ (by simp <;> omega) | with_reducible refine bstep ?_ (by assumption) | with_reducible refine btrans ?_ (by assumption)))⟩
           case measure => simp [intOf]; omega)
    · have HR := Lib.hid (show formedW l = true by have h := HT.out; rw [show k = l.length by omega, List.take_length] at h; exact h)
      go_wp2
      go_ret
      exact ⟨ret_bool HR.out.symm, hbr⟩

set_option maxHeartbeats 2000000 in
theorem rformed_c {S : Foot} {v : Value} {l : List Wr} {w : World} (hp : Sl wrE S w v l) :
    Calls Try.prog 15 #[v] w fun e w' => e = .returned (.bool (formedW l)) ∧ Below w.heap.size w w' := by
  have hp := hp.any
  obtain ⟨A, cap, rfl, hc1, hc2, _⟩ := hp.shape
  unfold maxLen at hc2
  go_enter Try.func15, Try.ntmps15
  go_wp2
  go_loopw [3] (fun i wr => ∃ k : Nat, k ≤ l.length ∧ i = .int .i64 k ∧ Hid (formedA (-1) (l.take k) = true) ∧ Below w.heap.size w wr) (fun i _ => l.length - (intOf i).toNat)
  case atStart => exact ⟨0, Nat.zero_le _, rfl, Lib.hid rfl, Below.refl _ _⟩
  case round =>
    obtain ⟨k, hk, rfl, HT, hbr⟩ := hrel
    by_cases hlt : k < l.length
    · obtain ⟨b, off, rfl, a0, a1, a2, a3⟩ := (hp.below (by (repeat (first | with_reducible exact Below.refl _ _ | with_reducible assumption | with_reducible refine bdraw ?_ | with_reducible refine bdrewN ?_ _ | with_reducible refine balloc ?_ _ | with_reducible refine bset ?_ (by simp <;> omega) | with_reducible refine bstep ?_ (by assumption) | with_reducible refine btrans ?_ (by assumption)))) (Nat.le_refl _)).wr hlt
      have HS := Lib.hid (formedA_snoc (d := -1) hlt)
      have HN := Lib.hid (fun h => formedW_not (l := l) (k := k + 1) h)
      have i1 : (k : Int) < (l.length : Int) := by omega
      have i2 : (0 : Int) ≤ (k : Int) := by omega
      have HC := fun (w : World) => Lib.hid (rright_c l[k] w)
      have HP := Lib.hid (fun (j : Nat) (e : k = j + 1) => (by subst e; exact ⟨by omega, lastO_take (d := -1) (show j < l.length by omega)⟩ : ∃ h : j < l.length, lastO (-1) (l.take k) = l[j].o))
      have HR0 : Hid (k = 0 → rightW l[k] = true → decide (lastO (-1) (l.take k) < l[k].o) = true) := by
        intro e h
        unfold rightW at h
        simp at h
        subst e
        simp [lastO]
        omega
      generalize l[k] = x at *
      cases hr : rightW x
      · rw [hr] at HC HS
        clear HR0 hr
        have c0 := fun y : Ext wr => (by have hy := y.h; exact atb a0 (w' := y.w) (by (repeat (first | with_reducible exact Below.refl _ _ | with_reducible assumption | with_reducible refine bdraw ?_ | with_reducible refine bdrewN ?_ _ | with_reducible refine balloc ?_ _ | with_reducible refine bset ?_ (by simp <;> omega) | with_reducible refine bstep ?_ (by assumption) | with_reducible refine btrans ?_ (by assumption))))); have c1 := fun y : Ext wr => (by have hy := y.h; exact atb a1 (w' := y.w) (by (repeat (first | with_reducible exact Below.refl _ _ | with_reducible assumption | with_reducible refine bdraw ?_ | with_reducible refine bdrewN ?_ _ | with_reducible refine balloc ?_ _ | with_reducible refine bset ?_ (by simp <;> omega) | with_reducible refine bstep ?_ (by assumption) | with_reducible refine btrans ?_ (by assumption))))); have c2 := fun y : Ext wr => (by have hy := y.h; exact atb a2 (w' := y.w) (by (repeat (first | with_reducible exact Below.refl _ _ | with_reducible assumption | with_reducible refine bdraw ?_ | with_reducible refine bdrewN ?_ _ | with_reducible refine balloc ?_ _ | with_reducible refine bset ?_ (by simp <;> omega) | with_reducible refine bstep ?_ (by assumption) | with_reducible refine btrans ?_ (by assumption))))); have c3 := fun y : Ext wr => (by have hy := y.h; exact atb a3 (w' := y.w) (by (repeat (first | with_reducible exact Below.refl _ _ | with_reducible assumption | with_reducible refine bdraw ?_ | with_reducible refine bdrewN ?_ _ | with_reducible refine balloc ?_ _ | with_reducible refine bset ?_ (by simp <;> omega) | with_reducible refine bstep ?_ (by assumption) | with_reducible refine btrans ?_ (by assumption)))))
        go_wp2_with fail
        (refine wp_region_ext (by kernel_rfl) (by kernel_rfl) ?_; (repeat (go_big_quiet_step ((go_at_call 26; exact ext_call (HC _).out)))); with_reducible refine wpQuiet_nil ?_; intro wq hw'; have bq := ext_out hw'; clear hw')
        go_wp2
        go_ret
        exact ⟨ret_bool (HN.out (by rw [HS.out]; simp)).symm, by (repeat (first | with_reducible exact Below.refl _ _ | with_reducible assumption | with_reducible refine bdraw ?_ | with_reducible refine bdrewN ?_ _ | with_reducible refine balloc ?_ _ | with_reducible refine bset ?_ (by simp <;> omega) | with_reducible refine bstep ?_ (by assumption) | with_reducible refine btrans ?_ (by assumption)))⟩
      · rw [hr] at HC HS
        have HR1 := Lib.hid (fun e => HR0 e hr)
        clear hr HR0
        have c0 := fun y : Ext wr => (by have hy := y.h; exact atb a0 (w' := y.w) (by (repeat (first | with_reducible exact Below.refl _ _ | with_reducible assumption | with_reducible refine bdraw ?_ | with_reducible refine bdrewN ?_ _ | with_reducible refine balloc ?_ _ | with_reducible refine bset ?_ (by simp <;> omega) | with_reducible refine bstep ?_ (by assumption) | with_reducible refine btrans ?_ (by assumption))))); have c1 := fun y : Ext wr => (by have hy := y.h; exact atb a1 (w' := y.w) (by (repeat (first | with_reducible exact Below.refl _ _ | with_reducible assumption | with_reducible refine bdraw ?_ | with_reducible refine bdrewN ?_ _ | with_reducible refine balloc ?_ _ | with_reducible refine bset ?_ (by simp <;> omega) | with_reducible refine bstep ?_ (by assumption) | with_reducible refine btrans ?_ (by assumption))))); have c2 := fun y : Ext wr => (by have hy := y.h; exact atb a2 (w' := y.w) (by (repeat (first | with_reducible exact Below.refl _ _ | with_reducible assumption | with_reducible refine bdraw ?_ | with_reducible refine bdrewN ?_ _ | with_reducible refine balloc ?_ _ | with_reducible refine bset ?_ (by simp <;> omega) | with_reducible refine bstep ?_ (by assumption) | with_reducible refine btrans ?_ (by assumption))))); have c3 := fun y : Ext wr => (by have hy := y.h; exact atb a3 (w' := y.w) (by (repeat (first | with_reducible exact Below.refl _ _ | with_reducible assumption | with_reducible refine bdraw ?_ | with_reducible refine bdrewN ?_ _ | with_reducible refine balloc ?_ _ | with_reducible refine bset ?_ (by simp <;> omega) | with_reducible refine bstep ?_ (by assumption) | with_reducible refine btrans ?_ (by assumption)))))
        rcases Nat.eq_zero_or_pos k with h0 | h0
        · subst h0
          simp only [Nat.zero_mul, Nat.add_zero] at c0 c1 c2 c3
          go_wp2_with fail
          (refine wp_region_ext (by kernel_rfl) (by kernel_rfl) ?_; (repeat (go_big_quiet_step ((go_at_call 26; exact ext_call (HC _).out)))); with_reducible refine wpQuiet_nil ?_; intro wq hw'; have bq := ext_out hw'; clear hw')
          go_wp2
          go_roundw
          case rel => exact ⟨1, by omega, rfl, Lib.hid (by rw [HS.out, HT.out, HR1.out trivial]; rfl), by (repeat (first | with_reducible exact Below.refl _ _ | with_reducible assumption | with_reducible refine bdraw ?_ | with_reducible refine bdrewN ?_ _ | with_reducible refine balloc ?_ _ | with_reducible refine bset ?_ (by simp <;> omega) | with_reducible refine bstep ?_ (by assumption) | with_reducible refine btrans ?_ (by assumption)))⟩
          case measure => simp [intOf]; omega
        · obtain ⟨j, rfl⟩ : ∃ j, k = j + 1 := ⟨k - 1, by omega⟩
          obtain ⟨hj, hlo⟩ := HP.out j rfl
          obtain ⟨b', off', e', y0, y1, y2, y3⟩ := (hp.below (by (repeat (first | with_reducible exact Below.refl _ _ | with_reducible assumption | with_reducible refine bdraw ?_ | with_reducible refine bdrewN ?_ _ | with_reducible refine balloc ?_ _ | with_reducible refine bset ?_ (by simp <;> omega) | with_reducible refine bstep ?_ (by assumption) | with_reducible refine btrans ?_ (by assumption)))) (Nat.le_refl _)).wr hj
          injection e' with e'
          injection e' with e1 e2
          subst e1 e2
          rw [hlo] at HS
          generalize l[j] = y at *
          have d2 := fun y : Ext wr => (by have hy := y.h; exact atb y2 (w' := y.w) (by (repeat (first | with_reducible exact Below.refl _ _ | with_reducible assumption | with_reducible refine bdraw ?_ | with_reducible refine bdrewN ?_ _ | with_reducible refine balloc ?_ _ | with_reducible refine bset ?_ (by simp <;> omega) | with_reducible refine bstep ?_ (by assumption) | with_reducible refine btrans ?_ (by assumption)))))
          have i3 : (j : Int) < (l.length : Int) := by omega
          have i4 : (0 : Int) ≤ (j : Int) := by omega
          have i5 : decide ((0 : Int) < ((j + 1 : Nat) : Int)) = true := decide_eq_true (by omega)
          clear hlo
          go_wp2_with fail
          (refine wp_region_ext (by kernel_rfl) (by kernel_rfl) ?_; (repeat (go_big_quiet_step ((go_at_call 26; exact ext_call (HC _).out)))); with_reducible refine wpQuiet_nil ?_; intro wq hw'; have bq := ext_out hw'; clear hw')
          go_wp2
          all_goals first
            | (go_ret; exact ⟨ret_bool (HN.out (by rw [HS.out]; simp; omega)).symm, by (repeat (first | with_reducible exact Below.refl _ _ | with_reducible assumption | with_reducible refine bdraw ?_ | with_reducible refine bdrewN ?_ _ | with_reducible refine balloc ?_ _ | with_reducible refine bset ?_ (by simp <;> omega) | with_reducible refine bstep ?_ (by assumption) | with_reducible refine btrans ?_ (by assumption)))⟩)
            | (go_roundw
               case rel => exact ⟨j + 1 + 1, by omega, by go_num, Lib.hid (by rw [HS.out, HT.out]; simp; omega), by (repeat (first | with_reducible exact Below.refl _ _ | with_reducible assumption | with_reducible refine bdraw ?_ | with_reducible refine bdrewN ?_ _ | with_reducible refine balloc ?_ _ | with_reducible refine bset ?_ (by simp <;> omega) | with_reducible refine bstep ?_ (by assumption) | with_reducible refine btrans ?_ (by assumption)))⟩
               case measure => simp [intOf]; omega)
    · have HR := Lib.hid (show formedW l = true by have h := HT.out; rw [show k = l.length by omega, List.take_length] at h; exact h)
      go_wp2
      go_ret
      exact ⟨ret_bool HR.out.symm, hbr⟩
end Go.Proofs.Ytkocbhcklnjomaa
