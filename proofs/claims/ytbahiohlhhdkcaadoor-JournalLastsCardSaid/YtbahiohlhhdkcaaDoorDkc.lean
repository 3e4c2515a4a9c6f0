/- Disks: formed, in the document's words. -/
import Derived.Test.YtbahiohlhhdkcaaDoorDkb
namespace Go.Proofs.YtbahiohlhhdkcaaDoor
open Go.RowKit

set_option maxHeartbeats 4000000 in
theorem rformed_c {S : Foot} {v : Value} {room : Int} {l : List Fi} {w : World} (hp : Sl fiE S w v l) :
    Calls Tryd.prog 30 #[.agg #[.int .i64 room, v]] w fun e w' => e = .returned (.bool (formedD room l)) ∧ Below w.heap.size w w' := by
  have hp := hp.any
  obtain ⟨A, cap, rfl, hc1, hc2, _⟩ := hp.shape
  unfold maxLen at hc2
  have q0 := at_new (w := w) (cs := #[.int .i64 room, .slice A l.length cap]) (t := 24) (i := 0) (v := .int .i64 room) rfl; have q1 := at_new (w := w) (cs := #[.int .i64 room, .slice A l.length cap]) (t := 24) (i := 1) (v := .slice A l.length cap) rfl
  go_enter Tryd.func30, Tryd.ntmps30
  by_cases hr : 0 ≤ room ∧ room ≤ 16777216
  · obtain ⟨hr0, hr1⟩ := hr
    have HFm : Hid (formedD room l = fineF (-1) room l) := Lib.hid (by unfold formedD; rw [decide_eq_true ⟨hr0, hr1⟩, Bool.true_and])
    go_wp2
    go_loopw [3, 4] (fun uv iv wr => ∃ (k : Nat) (u la : Int), k ≤ l.length ∧ iv = .int .i64 k ∧ uv = .int .i64 u ∧ 0 ≤ u ∧ u ≤ room ∧ Hid (fineF la u (l.drop k) = fineF (-1) room l) ∧ Hid (∀ j, k = j + 1 → ∃ h : j < l.length, l[j].n = la) ∧ ((k = 0 ∧ la = -1) ∨ (0 < k ∧ 0 ≤ la)) ∧ Below (w.alloc (.cells #[.int .i64 room, .slice A l.length cap] 24)).heap.size (w.alloc (.cells #[.int .i64 room, .slice A l.length cap] 24)) wr) (fun _ iv _ => l.length - (intOf iv).toNat)
    case atStart => exact ⟨0, room, -1, Nat.zero_le _, by go_num, rfl, hr0, Int.le_refl _, Lib.hid (by simp), Lib.hid (fun j e => by omega), .inl ⟨rfl, rfl⟩, Below.refl _ _⟩
    case round =>
      obtain ⟨k, u, la, hk, rfl, rfl, hu0, hu1, HT, HJ, hla, hbr⟩ := hrel
      by_cases hlt : k < l.length
      · obtain ⟨b, off, Av, cv, rfl, a0, a1, a2, hv⟩ := (hp.below (by (repeat (first | with_reducible exact Below.refl _ _ | with_reducible assumption | with_reducible refine bdraw ?_ | with_reducible refine bdrewN ?_ _ | with_reducible refine balloc ?_ _ | with_reducible refine bset ?_ (by simp <;> omega) | with_reducible refine bstep ?_ (by assumption) | with_reducible refine btrans ?_ (by assumption)))) (Nat.le_refl _)).fi hlt
        have HD := Lib.hid (List.drop_eq_getElem_cons hlt)
        generalize hx : l[k] = x at HD a0 a1 a2 hv
        have HX : Hid (l[k].n = x.n) := Lib.hid (by rw [hx])
        clear hx
        obtain ⟨_, _, e, hcv1, hcv2, _⟩ := hv.shape
        injection e with _ _ e
        subst e
        unfold maxLen at hcv2
        have hkI : (k : Int) < (l.length : Int) := by omega
        have hk0 : (0 : Int) ≤ (k : Int) := by omega
        have c0 := atb a0 (w' := wr) (by (repeat (first | with_reducible exact Below.refl _ _ | with_reducible assumption | with_reducible refine bdraw ?_ | with_reducible refine bdrewN ?_ _ | with_reducible refine balloc ?_ _ | with_reducible refine bset ?_ (by simp <;> omega) | with_reducible refine bstep ?_ (by assumption) | with_reducible refine btrans ?_ (by assumption)))); have c1 := atb a1 (w' := wr) (by (repeat (first | with_reducible exact Below.refl _ _ | with_reducible assumption | with_reducible refine bdraw ?_ | with_reducible refine bdrewN ?_ _ | with_reducible refine balloc ?_ _ | with_reducible refine bset ?_ (by simp <;> omega) | with_reducible refine bstep ?_ (by assumption) | with_reducible refine btrans ?_ (by assumption)))); have c2 := atb a2 (w' := wr) (by (repeat (first | with_reducible exact Below.refl _ _ | with_reducible assumption | with_reducible refine bdraw ?_ | with_reducible refine bdrewN ?_ _ | with_reducible refine balloc ?_ _ | with_reducible refine bset ?_ (by simp <;> omega) | with_reducible refine bstep ?_ (by assumption) | with_reducible refine btrans ?_ (by assumption))))
        have d0 := atb q0 (w' := wr) (by (repeat (first | with_reducible exact Below.refl _ _ | with_reducible assumption | with_reducible refine bdraw ?_ | with_reducible refine bdrewN ?_ _ | with_reducible refine balloc ?_ _ | with_reducible refine bset ?_ (by simp <;> omega) | with_reducible refine bstep ?_ (by assumption) | with_reducible refine btrans ?_ (by assumption)))); have d1 := atb q1 (w' := wr) (by (repeat (first | with_reducible exact Below.refl _ _ | with_reducible assumption | with_reducible refine bdraw ?_ | with_reducible refine bdrewN ?_ _ | with_reducible refine balloc ?_ _ | with_reducible refine bset ?_ (by simp <;> omega) | with_reducible refine bstep ?_ (by assumption) | with_reducible refine btrans ?_ (by assumption))))
        have HN : Hid (¬ (la < x.n ∧ x.n ≤ 1048576 ∧ 0 ≤ x.s ∧ x.s ≤ (x.b.length : Int) ∧ (x.b.length : Int) ≤ u) → formedD room l = false) := Lib.hid (fun h => by
          rw [HFm.out, ← HT.out, HD.out, fineF, decide_eq_false h]; rfl)
        have HY : Hid ((la < x.n ∧ x.n ≤ 1048576 ∧ 0 ≤ x.s ∧ x.s ≤ (x.b.length : Int) ∧ (x.b.length : Int) ≤ u) → fineF x.n (u - x.b.length) (l.drop (k + 1)) = fineF (-1) room l) := Lib.hid (fun h => by
          rw [← HT.out, HD.out, fineF, decide_eq_true h]; rfl)
        have hz : w.heap.size < wr.heap.size := by have := hbr.size; simp at this; omega
        clear a0 a1 a2
        rcases Nat.eq_zero_or_pos k with h0 | h0
        · subst h0
          have hla2 : la = -1 := by omega
          simp only [Nat.zero_mul, Nat.add_zero] at c0 c1 c2
          by_cases e1 : x.n < 0
          · have fe1 : decide (x.n < 0) = true := decide_eq_true (by omega)
            have HB := Lib.hid (HN.out (by omega))
            go_wp2_with fail
            go_quiet (fail)
            go_wp2
            go_ret
            exact ⟨ret_bool HB.out.symm, by (repeat (first | with_reducible exact Below.refl _ _ | with_reducible assumption | with_reducible refine bdraw ?_ | with_reducible refine bdrewN ?_ _ | with_reducible refine balloc ?_ _ | with_reducible refine bset ?_ (by simp <;> omega) | with_reducible refine bstep ?_ (by assumption) | with_reducible refine btrans ?_ (by assumption)))⟩
          have fe1 : decide (x.n < 0) = false := decide_eq_false (by omega)
          by_cases e2 : (1048576 : Int) < x.n
          · have fe2 : decide ((1048576 : Int) < x.n) = true := decide_eq_true (by omega)
            have HB := Lib.hid (HN.out (by omega))
            go_wp2_with fail
            go_quiet (fail)
            go_wp2
            go_ret
            exact ⟨ret_bool HB.out.symm, by (repeat (first | with_reducible exact Below.refl _ _ | with_reducible assumption | with_reducible refine bdraw ?_ | with_reducible refine bdrewN ?_ _ | with_reducible refine balloc ?_ _ | with_reducible refine bset ?_ (by simp <;> omega) | with_reducible refine bstep ?_ (by assumption) | with_reducible refine btrans ?_ (by assumption)))⟩
          have fe2 : decide ((1048576 : Int) < x.n) = false := decide_eq_false (by omega)
          by_cases e4 : x.s < 0
          · have fe4 : decide (x.s < 0) = true := decide_eq_true (by omega)
            have HB := Lib.hid (HN.out (by omega))
            go_wp2_with fail
            go_quiet (fail)
            go_wp2
            go_ret
            exact ⟨ret_bool HB.out.symm, by (repeat (first | with_reducible exact Below.refl _ _ | with_reducible assumption | with_reducible refine bdraw ?_ | with_reducible refine bdrewN ?_ _ | with_reducible refine balloc ?_ _ | with_reducible refine bset ?_ (by simp <;> omega) | with_reducible refine bstep ?_ (by assumption) | with_reducible refine btrans ?_ (by assumption)))⟩
          have fe4 : decide (x.s < 0) = false := decide_eq_false (by omega)
          by_cases e5 : (x.b.length : Int) < x.s
          · have fe5 : decide ((x.b.length : Int) < x.s) = true := decide_eq_true (by omega)
            have HB := Lib.hid (HN.out (by omega))
            go_wp2_with fail
            go_quiet (fail)
            go_wp2
            go_ret
            exact ⟨ret_bool HB.out.symm, by (repeat (first | with_reducible exact Below.refl _ _ | with_reducible assumption | with_reducible refine bdraw ?_ | with_reducible refine bdrewN ?_ _ | with_reducible refine balloc ?_ _ | with_reducible refine bset ?_ (by simp <;> omega) | with_reducible refine bstep ?_ (by assumption) | with_reducible refine btrans ?_ (by assumption)))⟩
          have fe5 : decide ((x.b.length : Int) < x.s) = false := decide_eq_false (by omega)
          by_cases e6 : u < (x.b.length : Int)
          · have fe6 : decide (u < (x.b.length : Int)) = true := decide_eq_true (by omega)
            have HB := Lib.hid (HN.out (by omega))
            go_wp2_with fail
            go_quiet (fail)
            go_wp2
            go_ret
            exact ⟨ret_bool HB.out.symm, by (repeat (first | with_reducible exact Below.refl _ _ | with_reducible assumption | with_reducible refine bdraw ?_ | with_reducible refine bdrewN ?_ _ | with_reducible refine balloc ?_ _ | with_reducible refine bset ?_ (by simp <;> omega) | with_reducible refine bstep ?_ (by assumption) | with_reducible refine btrans ?_ (by assumption)))⟩
          have fe6 : decide (u < (x.b.length : Int)) = false := decide_eq_false (by omega)
          have hOK : la < x.n ∧ x.n ≤ 1048576 ∧ 0 ≤ x.s ∧ x.s ≤ (x.b.length : Int) ∧ (x.b.length : Int) ≤ u := by omega
          have HY2 := Lib.hid (HY.out hOK)
          clear hOK
          go_wp2_with fail
          go_quiet (fail)
          go_wp2
          go_roundw
          case rel => exact ⟨0 + 1, u - x.b.length, x.n, by omega, by go_num, rfl, by omega, by omega, HY2, Lib.hid (fun j e => (show j = 0 by omega) ▸ ⟨hlt, HX.out⟩), by omega, by (repeat (first | with_reducible exact Below.refl _ _ | with_reducible assumption | with_reducible refine bdraw ?_ | with_reducible refine bdrewN ?_ _ | with_reducible refine balloc ?_ _ | with_reducible refine bset ?_ (by simp <;> omega) | with_reducible refine bstep ?_ (by assumption) | with_reducible refine btrans ?_ (by assumption)))⟩
          case measure => simp [intOf]; omega
        · obtain ⟨j, rfl⟩ : ∃ j, k = j + 1 := ⟨k - 1, by omega⟩
          obtain ⟨hj, hlo⟩ := HJ.out j rfl
          obtain ⟨b', off', Av', cv', e', y0, _, _, _⟩ := (hp.below (by (repeat (first | with_reducible exact Below.refl _ _ | with_reducible assumption | with_reducible refine bdraw ?_ | with_reducible refine bdrewN ?_ _ | with_reducible refine balloc ?_ _ | with_reducible refine bset ?_ (by simp <;> omega) | with_reducible refine bstep ?_ (by assumption) | with_reducible refine btrans ?_ (by assumption)))) (Nat.le_refl _)).fi hj
          injection e' with e'
          injection e' with e1 e2
          subst e1 e2
          have hge : 0 ≤ la := by omega
          generalize l[j] = y at hlo y0
          have t0 := atb y0 (w' := wr) (by (repeat (first | with_reducible exact Below.refl _ _ | with_reducible assumption | with_reducible refine bdraw ?_ | with_reducible refine bdrewN ?_ _ | with_reducible refine balloc ?_ _ | with_reducible refine bset ?_ (by simp <;> omega) | with_reducible refine bstep ?_ (by assumption) | with_reducible refine btrans ?_ (by assumption))))
          have hbl : b < wr.heap.size := by have := y0.lt; omega
          subst hlo
          have hjI : (j : Int) < (l.length : Int) := by omega
          have hj0 : (0 : Int) ≤ (j : Int) := by omega
          have hgt : decide ((0 : Int) < ((j + 1 : Nat) : Int)) = true := decide_eq_true (by omega)
          have hgt' : decide ((0 : Int) < (j : Int) + 1) = true := decide_eq_true (by omega)
          have hwj : IntKind.i64.wrap ((j : Int) + 1 - 1) = (j : Int) := by rw [show (j : Int) + 1 - 1 = (j : Int) by omega]; exact IntWalk.i64_in _ (by omega)
          clear y0
          by_cases e1 : x.n < 0
          · have fe1 : decide (x.n < 0) = true := decide_eq_true (by omega)
            have HB := Lib.hid (HN.out (by omega))
            go_wp2_with fail
            go_quiet (fail)
            go_wp2
            go_ret
            exact ⟨ret_bool HB.out.symm, by (repeat (first | with_reducible exact Below.refl _ _ | with_reducible assumption | with_reducible refine bdraw ?_ | with_reducible refine bdrewN ?_ _ | with_reducible refine balloc ?_ _ | with_reducible refine bset ?_ (by simp <;> omega) | with_reducible refine bstep ?_ (by assumption) | with_reducible refine btrans ?_ (by assumption)))⟩
          have fe1 : decide (x.n < 0) = false := decide_eq_false (by omega)
          by_cases e2 : (1048576 : Int) < x.n
          · have fe2 : decide ((1048576 : Int) < x.n) = true := decide_eq_true (by omega)
            have HB := Lib.hid (HN.out (by omega))
            go_wp2_with fail
            go_quiet (fail)
            go_wp2
            go_ret
            exact ⟨ret_bool HB.out.symm, by (repeat (first | with_reducible exact Below.refl _ _ | with_reducible assumption | with_reducible refine bdraw ?_ | with_reducible refine bdrewN ?_ _ | with_reducible refine balloc ?_ _ | with_reducible refine bset ?_ (by simp <;> omega) | with_reducible refine bstep ?_ (by assumption) | with_reducible refine btrans ?_ (by assumption)))⟩
          have fe2 : decide ((1048576 : Int) < x.n) = false := decide_eq_false (by omega)
          by_cases e3 : x.n ≤ y.n
          · have fe3 : decide (x.n ≤ y.n) = true := decide_eq_true (by omega)
            have HB := Lib.hid (HN.out (by omega))
            go_wp2_with fail
            go_quiet (fail)
            go_wp2
            go_ret
            exact ⟨ret_bool HB.out.symm, by (repeat (first | with_reducible exact Below.refl _ _ | with_reducible assumption | with_reducible refine bdraw ?_ | with_reducible refine bdrewN ?_ _ | with_reducible refine balloc ?_ _ | with_reducible refine bset ?_ (by simp <;> omega) | with_reducible refine bstep ?_ (by assumption) | with_reducible refine btrans ?_ (by assumption)))⟩
          have fe3 : decide (x.n ≤ y.n) = false := decide_eq_false (by omega)
          by_cases e4 : x.s < 0
          · have fe4 : decide (x.s < 0) = true := decide_eq_true (by omega)
            have HB := Lib.hid (HN.out (by omega))
            go_wp2_with fail
            go_quiet (fail)
            go_wp2
            go_ret
            exact ⟨ret_bool HB.out.symm, by (repeat (first | with_reducible exact Below.refl _ _ | with_reducible assumption | with_reducible refine bdraw ?_ | with_reducible refine bdrewN ?_ _ | with_reducible refine balloc ?_ _ | with_reducible refine bset ?_ (by simp <;> omega) | with_reducible refine bstep ?_ (by assumption) | with_reducible refine btrans ?_ (by assumption)))⟩
          have fe4 : decide (x.s < 0) = false := decide_eq_false (by omega)
          by_cases e5 : (x.b.length : Int) < x.s
          · have fe5 : decide ((x.b.length : Int) < x.s) = true := decide_eq_true (by omega)
            have HB := Lib.hid (HN.out (by omega))
            go_wp2_with fail
            go_quiet (fail)
            go_wp2
            go_ret
            exact ⟨ret_bool HB.out.symm, by (repeat (first | with_reducible exact Below.refl _ _ | with_reducible assumption | with_reducible refine bdraw ?_ | with_reducible refine bdrewN ?_ _ | with_reducible refine balloc ?_ _ | with_reducible refine bset ?_ (by simp <;> omega) | with_reducible refine bstep ?_ (by assumption) | with_reducible refine btrans ?_ (by assumption)))⟩
          have fe5 : decide ((x.b.length : Int) < x.s) = false := decide_eq_false (by omega)
          by_cases e6 : u < (x.b.length : Int)
          · have fe6 : decide (u < (x.b.length : Int)) = true := decide_eq_true (by omega)
            have HB := Lib.hid (HN.out (by omega))
            go_wp2_with fail
            go_quiet (fail)
            go_wp2
            go_ret
            exact ⟨ret_bool HB.out.symm, by (repeat (first | with_reducible exact Below.refl _ _ | with_reducible assumption | with_reducible refine bdraw ?_ | with_reducible refine bdrewN ?_ _ | with_reducible refine balloc ?_ _ | with_reducible refine bset ?_ (by simp <;> omega) | with_reducible refine bstep ?_ (by assumption) | with_reducible refine btrans ?_ (by assumption)))⟩
          have fe6 : decide (u < (x.b.length : Int)) = false := decide_eq_false (by omega)
          have hOK : y.n < x.n ∧ x.n ≤ 1048576 ∧ 0 ≤ x.s ∧ x.s ≤ (x.b.length : Int) ∧ (x.b.length : Int) ≤ u := by omega
          have HY2 := Lib.hid (HY.out hOK)
          clear hOK
          go_wp2_with fail
          go_quiet (fail)
          go_wp2
          go_roundw
          case rel => exact ⟨j + 1 + 1, u - x.b.length, x.n, by omega, by go_num, rfl, by omega, by omega, HY2, Lib.hid (fun j_ e => (show j_ = j + 1 by omega) ▸ ⟨hlt, HX.out⟩), by omega, by (repeat (first | with_reducible exact Below.refl _ _ | with_reducible assumption | with_reducible refine bdraw ?_ | with_reducible refine bdrewN ?_ _ | with_reducible refine balloc ?_ _ | with_reducible refine bset ?_ (by simp <;> omega) | with_reducible refine bstep ?_ (by assumption) | with_reducible refine btrans ?_ (by assumption)))⟩
          case measure => simp [intOf]; omega
      · have HR := Lib.hid (show formedD room l = true by rw [HFm.out, ← HT.out, List.drop_eq_nil_of_le (by omega)]; rfl)
        have hkI : ¬ (k : Int) < (l.length : Int) := by omega
        have hz : w.heap.size < wr.heap.size := by have := hbr.size; simp at this; omega
        have d0 := atb q0 (w' := wr) (by (repeat (first | with_reducible exact Below.refl _ _ | with_reducible assumption | with_reducible refine bdraw ?_ | with_reducible refine bdrewN ?_ _ | with_reducible refine balloc ?_ _ | with_reducible refine bset ?_ (by simp <;> omega) | with_reducible refine bstep ?_ (by assumption) | with_reducible refine btrans ?_ (by assumption)))); have d1 := atb q1 (w' := wr) (by (repeat (first | with_reducible exact Below.refl _ _ | with_reducible assumption | with_reducible refine bdraw ?_ | with_reducible refine bdrewN ?_ _ | with_reducible refine balloc ?_ _ | with_reducible refine bset ?_ (by simp <;> omega) | with_reducible refine bstep ?_ (by assumption) | with_reducible refine btrans ?_ (by assumption))))
        go_wp2
        go_ret
        exact ⟨ret_bool HR.out.symm, by (repeat (first | with_reducible exact Below.refl _ _ | with_reducible assumption | with_reducible refine bdraw ?_ | with_reducible refine bdrewN ?_ _ | with_reducible refine balloc ?_ _ | with_reducible refine bset ?_ (by simp <;> omega) | with_reducible refine bstep ?_ (by assumption) | with_reducible refine btrans ?_ (by assumption)))⟩
  · have HR : Hid (formedD room l = false) := Lib.hid (by unfold formedD; rw [decide_eq_false hr]; rfl)
    have h1 : room < 0 ∨ 16777216 < room := by omega
    clear hr
    rcases h1 with h1 | h1
    · go_wp2
      go_ret
      exact ⟨ret_bool HR.out.symm, by (repeat (first | with_reducible exact Below.refl _ _ | with_reducible assumption | with_reducible refine bdraw ?_ | with_reducible refine bdrewN ?_ _ | with_reducible refine balloc ?_ _ | with_reducible refine bset ?_ (by simp <;> omega) | with_reducible refine bstep ?_ (by assumption) | with_reducible refine btrans ?_ (by assumption)))⟩
    · go_wp2
      go_ret
      exact ⟨ret_bool HR.out.symm, by (repeat (first | with_reducible exact Below.refl _ _ | with_reducible assumption | with_reducible refine bdraw ?_ | with_reducible refine bdrewN ?_ _ | with_reducible refine balloc ?_ _ | with_reducible refine bset ?_ (by simp <;> omega) | with_reducible refine bstep ?_ (by assumption) | with_reducible refine btrans ?_ (by assumption)))⟩

set_option maxHeartbeats 1000000 in
theorem rused_c {S : Foot} {v : Value} {room : Int} {l : List Fi} {w : World} (hp : Sl fiE S w v l) :
    Calls Tryd.prog 47 #[.agg #[.int .i64 room, v]] w fun e w' => e = .returned (.int .i64 (usedD room l)) ∧ Below w.heap.size w w' := by
  have hp := hp.any
  obtain ⟨A, cap, rfl, hc1, hc2, _⟩ := hp.shape
  unfold maxLen at hc2
  have q0 := at_new (w := w) (cs := #[.int .i64 room, .slice A l.length cap]) (t := 24) (i := 0) (v := .int .i64 room) rfl; have q1 := at_new (w := w) (cs := #[.int .i64 room, .slice A l.length cap]) (t := 24) (i := 1) (v := .slice A l.length cap) rfl
  have HC := Lib.hid (rformed_c (room := room) (w := w.alloc (.cells #[.int .i64 room, .slice A l.length cap] 24)) (hp.below (by (repeat (first | with_reducible exact Below.refl _ _ | with_reducible assumption | with_reducible refine bdraw ?_ | with_reducible refine bdrewN ?_ _ | with_reducible refine balloc ?_ _ | with_reducible refine bset ?_ (by simp <;> omega) | with_reducible refine bstep ?_ (by assumption) | with_reducible refine btrans ?_ (by assumption)))) (Nat.le_refl _)))
  go_enter Tryd.func47, Tryd.ntmps47
  cases hf : formedD room l with
  | false =>
    rw [hf] at HC
    have HR : Hid (usedD room l = 0) := Lib.hid (by unfold usedD; rw [hf]; rfl)
    clear hf
    go_wp2_with (go_at_call 30; refine HC.out.mono ?_; rintro e w1 ⟨rfl, b1⟩)
    go_ret
    exact ⟨ret_int HR.out.symm, by (repeat (first | with_reducible exact Below.refl _ _ | with_reducible assumption | with_reducible refine bdraw ?_ | with_reducible refine bdrewN ?_ _ | with_reducible refine balloc ?_ _ | with_reducible refine bset ?_ (by simp <;> omega) | with_reducible refine bstep ?_ (by assumption) | with_reducible refine btrans ?_ (by assumption)))⟩
  | true =>
    rw [hf] at HC
    have hsz := formedD_size hf
    have HR : Hid (usedD room l = (sizeD l : Int)) := Lib.hid (by unfold usedD; rw [hf]; rfl)
    clear hf
    go_wp2_with (go_at_call 30; refine HC.out.mono ?_; rintro e w1 ⟨rfl, b1⟩; have d0 := atb q0 (w' := w1) (by (repeat (first | with_reducible exact Below.refl _ _ | with_reducible assumption | with_reducible refine bdraw ?_ | with_reducible refine bdrewN ?_ _ | with_reducible refine balloc ?_ _ | with_reducible refine bset ?_ (by simp <;> omega) | with_reducible refine bstep ?_ (by assumption) | with_reducible refine btrans ?_ (by assumption)))); have d1 := atb q1 (w' := w1) (by (repeat (first | with_reducible exact Below.refl _ _ | with_reducible assumption | with_reducible refine bdraw ?_ | with_reducible refine bdrewN ?_ _ | with_reducible refine balloc ?_ _ | with_reducible refine bset ?_ (by simp <;> omega) | with_reducible refine bstep ?_ (by assumption) | with_reducible refine btrans ?_ (by assumption)))))
    go_loop [3, 4] (fun uv iv => ∃ (k u : Nat), k ≤ l.length ∧ iv = .int .i64 k ∧ uv = .int .i64 (u : Int) ∧ u + sizeD (l.drop k) = sizeD l) (fun _ iv => l.length - (intOf iv).toNat)
    case atStart => exact ⟨0, 0, Nat.zero_le _, by go_num, rfl, by simp⟩
    case round =>
      obtain ⟨k, u, hk, rfl, rfl, HT⟩ := hrel
      by_cases hlt : k < l.length
      · obtain ⟨b, off, Av, cv, rfl, a0, a1, a2, hv⟩ := (hp.below (by (repeat (first | with_reducible exact Below.refl _ _ | with_reducible assumption | with_reducible refine bdraw ?_ | with_reducible refine bdrewN ?_ _ | with_reducible refine balloc ?_ _ | with_reducible refine bset ?_ (by simp <;> omega) | with_reducible refine bstep ?_ (by assumption) | with_reducible refine btrans ?_ (by assumption)))) (Nat.le_refl _)).fi hlt
        have HD := List.drop_eq_getElem_cons hlt
        rw [HD, sizeD] at HT
        clear HD
        generalize l[k] = x at *
        have hkI : (k : Int) < (l.length : Int) := by omega
        have hk0 : (0 : Int) ≤ (k : Int) := by omega
        have hll : x.b.length ≤ sizeD l := by omega
        have c0 := atb a0 (w' := w1) (by (repeat (first | with_reducible exact Below.refl _ _ | with_reducible assumption | with_reducible refine bdraw ?_ | with_reducible refine bdrewN ?_ _ | with_reducible refine balloc ?_ _ | with_reducible refine bset ?_ (by simp <;> omega) | with_reducible refine bstep ?_ (by assumption) | with_reducible refine btrans ?_ (by assumption)))); have c1 := atb a1 (w' := w1) (by (repeat (first | with_reducible exact Below.refl _ _ | with_reducible assumption | with_reducible refine bdraw ?_ | with_reducible refine bdrewN ?_ _ | with_reducible refine balloc ?_ _ | with_reducible refine bset ?_ (by simp <;> omega) | with_reducible refine bstep ?_ (by assumption) | with_reducible refine btrans ?_ (by assumption)))); have c2 := atb a2 (w' := w1) (by (repeat (first | with_reducible exact Below.refl _ _ | with_reducible assumption | with_reducible refine bdraw ?_ | with_reducible refine bdrewN ?_ _ | with_reducible refine balloc ?_ _ | with_reducible refine bset ?_ (by simp <;> omega) | with_reducible refine bstep ?_ (by assumption) | with_reducible refine btrans ?_ (by assumption))))
        clear a0 a1 a2 hv
        have hwr : IntKind.i64.wrap ((u : Int) + (x.b.length : Int)) = (u : Int) + (x.b.length : Int) := IntWalk.i64_in _ (by omega)
        have HT2 : Hid (u + x.b.length + sizeD (l.drop (k + 1)) = sizeD l) := Lib.hid (by omega)
        clear HT
        go_wp2
        go_round
        case rel => exact ⟨k + 1, u + x.b.length, by omega, by go_num, by go_num, HT2.out⟩
        case measure => simp [intOf]; omega
      · have HR2 := Lib.hid (show usedD room l = (u : Int) by rw [HR.out]; rw [List.drop_eq_nil_of_le (by omega)] at HT; simp [sizeD] at HT; omega)
        have hkI : ¬ (k : Int) < (l.length : Int) := by omega
        clear HT
        go_wp2
        go_ret
        exact ⟨ret_int HR2.out.symm, by (repeat (first | with_reducible exact Below.refl _ _ | with_reducible assumption | with_reducible refine bdraw ?_ | with_reducible refine bdrewN ?_ _ | with_reducible refine balloc ?_ _ | with_reducible refine bset ?_ (by simp <;> omega) | with_reducible refine bstep ?_ (by assumption) | with_reducible refine btrans ?_ (by assumption)))⟩
end Go.Proofs.YtbahiohlhhdkcaaDoor
