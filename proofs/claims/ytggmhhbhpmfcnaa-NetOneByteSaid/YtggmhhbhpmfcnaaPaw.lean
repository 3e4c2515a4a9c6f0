/- Packets: a byte is turned, in the document's words. -/
import Derived.Test.YtggmhhbhpmfcnaaPav
namespace Go.Proofs.Ytggmhhbhpmfcnaa
open Go.RowKit

attribute [local go_sem] u8_xr
set_option maxHeartbeats 4000000 in
theorem rspoil_c {S : Foot} {v : Value} {l : List Pk} {i k t : Int} {w : World} (hp : Sl pkE S w v l) (hf : Fit l) :
    Calls Try.prog 17 #[v, .int .i64 i, .int .i64 k, .int .i64 t] w fun e w' => ∃ v', e = .returned (.tuple #[v', .int .i64 (spoilE l i k t)]) ∧
      Own pkE (HiN w.heap.size v'.ownBlock) w' w.heap.size 35 v' (spoils l i k t) ∧ Below w.heap.size w w' := by
  have hp := hp.any
  obtain ⟨A, cap, rfl, hc1, hc2, _⟩ := hp.shape
  unfold maxLen at hc2
  have HA := Lib.hid (rat_c (i := i) hp)
  by_cases hE : atE l i = 0
  · obtain ⟨n, rfl, hn, h4⟩ := atE_ok hE
    have hget : l.getD n dflt = l[n] := by rw [List.getD_eq_getElem?_getD, List.getElem?_eq_getElem hn]; rfl
    obtain ⟨b, off, As, cs, Ah, ch, rfl, a0, a1, a2, a3, hs, hh⟩ := (hp.below (by (repeat (first | with_reducible exact Below.refl _ _ | with_reducible assumption | with_reducible refine bdraw ?_ | with_reducible refine bdrewN ?_ _ | with_reducible refine balloc ?_ _ | with_reducible refine bset ?_ (by simp <;> omega) | with_reducible refine bstep ?_ (by assumption) | with_reducible refine btrans ?_ (by assumption)))) (Nat.le_refl _)).pk hn
    have hx := hf _ (List.getElem_mem hn)
    have hlI : (l.length : Int) ≤ 4096 := by omega
    have hnI : (n : Int) < (l.length : Int) := by omega
    have hn0 : (0 : Int) ≤ (n : Int) := by omega
    rw [hE] at HA
    by_cases hP : 0 ≤ k ∧ k < (l[n].s.length : Int) ∧ 0 ≤ t ∧ t ≤ 255
    · have HV : Hid (spoilE l n k t = 0 ∧ spoils l n k t = l.set n ⟨l[n].f, l[n].t, l[n].s, turnB l[n].s k.toNat (UInt8.ofNat t.toNat)⟩) := by
        have h1 : spoilE l n k t = 0 := by unfold spoilE; rw [if_pos hE, Int.toNat_natCast, hget, if_pos hP]
        unfold Hid spoils
        rw [if_pos h1, Int.toNat_natCast, hget]
        exact ⟨h1, rfl⟩
      rw [HV.out.1, HV.out.2]
      obtain ⟨m, rfl⟩ : ∃ m : Nat, k = m := ⟨k.toNat, by omega⟩
      obtain ⟨u, rfl⟩ : ∃ u : UInt8, t = (u.toNat : Int) := ⟨UInt8.ofNat t.toNat, by simp; omega⟩
      have hm : m < l[n].s.length := by omega
      rw [Int.toNat_natCast, Int.toNat_natCast, UInt8.ofNat_toNat]
      have d1 : decide ((l[n].s.length : Int) ≤ (m : Int)) = false := decide_eq_false (by omega)
      have d2 : decide (l[n].s.length ≤ m) = false := decide_eq_false (by omega)
      have d3 : decide ((255 : Int) < (u.toNat : Int)) = false := decide_eq_false (by omega)
      have d4 : decide (255 < u.toNat) = false := decide_eq_false (by omega)
      clear hP HV hE hget
      go_enter Try.func17, Try.ntmps17
      go_wp2_with (go_at_call 30; refine HA.out.mono ?_; rintro e w1 ⟨rfl, b1⟩; have c0 := atb a0 (w' := w1) (by (repeat (first | with_reducible exact Below.refl _ _ | with_reducible assumption | with_reducible refine bdraw ?_ | with_reducible refine bdrewN ?_ _ | with_reducible refine balloc ?_ _ | with_reducible refine bset ?_ (by simp <;> omega) | with_reducible refine bstep ?_ (by assumption) | with_reducible refine btrans ?_ (by assumption)))); have c1 := atb a1 (w' := w1) (by (repeat (first | with_reducible exact Below.refl _ _ | with_reducible assumption | with_reducible refine bdraw ?_ | with_reducible refine bdrewN ?_ _ | with_reducible refine balloc ?_ _ | with_reducible refine bset ?_ (by simp <;> omega) | with_reducible refine bstep ?_ (by assumption) | with_reducible refine btrans ?_ (by assumption)))); have c2 := atb a2 (w' := w1) (by (repeat (first | with_reducible exact Below.refl _ _ | with_reducible assumption | with_reducible refine bdraw ?_ | with_reducible refine bdrewN ?_ _ | with_reducible refine balloc ?_ _ | with_reducible refine bset ?_ (by simp <;> omega) | with_reducible refine bstep ?_ (by assumption) | with_reducible refine btrans ?_ (by assumption)))); have c3 := atb a3 (w' := w1) (by (repeat (first | with_reducible exact Below.refl _ _ | with_reducible assumption | with_reducible refine bdraw ?_ | with_reducible refine bdrewN ?_ _ | with_reducible refine balloc ?_ _ | with_reducible refine bset ?_ (by simp <;> omega) | with_reducible refine bstep ?_ (by assumption) | with_reducible refine btrans ?_ (by assumption)))))
      refine (rcopied_c (hp.below (by (repeat (first | with_reducible exact Below.refl _ _ | with_reducible assumption | with_reducible refine bdraw ?_ | with_reducible refine bdrewN ?_ _ | with_reducible refine balloc ?_ _ | with_reducible refine bset ?_ (by simp <;> omega) | with_reducible refine bstep ?_ (by assumption) | with_reducible refine btrans ?_ (by assumption)))) (Nat.le_refl _)) (by omega) hf).mono ?_
      rintro e w2 ⟨v2, rfl, o2, b2⟩
      obtain ⟨g, c2, rfl, hg1, hg2, hg3, hg4⟩ := o2.form1 (by omega)
      unfold maxLen at hg4
      obtain ⟨A5, c5, A6, c6, y2, y3, yf, ys, yh⟩ := pkAt o2 hn
      have yc2 := y2.cell
      have yc3 := y3.cell
      go_wp2_with fail
      refine (copy_c ys hx.1).mono ?_
      rintro e w3 ⟨v3, rfl, o3, b3⟩
      obtain ⟨gb, c7, hv3, hb1, hb2, hb3, hb4⟩ := o3.form1 (by omega)
      subst hv3
      unfold maxLen at hb4
      obtain ⟨gb', c7', e1, _, _, bc, bf, bst⟩ := o3.byteCell hm
      obtain ⟨rfl, rfl⟩ : gb = gb' ∧ c7 = c7' := by injection e1 with e1 _ e3; injection e1 with e1; injection e1 with e1; exact ⟨e1, e3⟩
      have zc3 := atb y3 b3
      have zf3 := (b3.frozen (p := ⟨g, n * 4 + 3, none⟩) hg2).trans yf
      have hne : gb ≠ g := by omega
      have bc' := (cell_far (w := w3) (p := ⟨g, n * 4 + 3, none⟩) (q := ⟨gb, m, none⟩) (u := .slice (some ⟨gb, 0, none⟩) l[n].s.length c7) hne).trans bc
      have hmI : (m : Int) < (l[n].s.length : Int) := by omega
      have hT : turnB l[n].s m u = l[n].s.set m (xr l[n].s[m] u) := by unfold turnB; rw [List.getD_eq_getElem?_getD, List.getElem?_eq_getElem hm]; rfl
      have z1 := b1.size
      have z2 := b2.size
      have hmod : (u.toNat : Int) % 256 = (u.toNat : Int) := by have := u.toNat_lt; omega
      go_wp2_with fail
      go_region
      go_wp2
      go_ret2
      refine ⟨_, rfl, ?_, by (repeat (first | with_reducible exact Below.refl _ _ | with_reducible assumption | with_reducible refine bdraw ?_ | with_reducible refine bdrewN ?_ _ | with_reducible refine balloc ?_ _ | with_reducible refine bset ?_ (by simp <;> omega) | with_reducible refine bstep ?_ (by assumption) | with_reducible refine btrans ?_ (by assumption)))⟩
      rw [hT]
      exact odraw ((spoil_end (g := g) (y := xr l[n].s[m] u) o2 hn hm hg2 b3 o3 hb1).low z1)
    · have HV : Hid (spoilE l n k t = 1 ∧ spoils l n k t = []) := by
        have h1 : spoilE l n k t = 1 := by unfold spoilE; rw [if_pos hE, Int.toNat_natCast, hget, if_neg hP]
        unfold Hid spoils
        rw [h1, if_neg (by decide)]
        exact ⟨rfl, rfl⟩
      rw [HV.out.1, HV.out.2]
      clear HV hE hget
      generalize l[n] = x at *
      go_enter Try.func17, Try.ntmps17
      go_wp2_with (go_at_call 30; refine HA.out.mono ?_; rintro e w1 ⟨rfl, b1⟩; have c0 := atb a0 (w' := w1) (by (repeat (first | with_reducible exact Below.refl _ _ | with_reducible assumption | with_reducible refine bdraw ?_ | with_reducible refine bdrewN ?_ _ | with_reducible refine balloc ?_ _ | with_reducible refine bset ?_ (by simp <;> omega) | with_reducible refine bstep ?_ (by assumption) | with_reducible refine btrans ?_ (by assumption)))); have c1 := atb a1 (w' := w1) (by (repeat (first | with_reducible exact Below.refl _ _ | with_reducible assumption | with_reducible refine bdraw ?_ | with_reducible refine bdrewN ?_ _ | with_reducible refine balloc ?_ _ | with_reducible refine bset ?_ (by simp <;> omega) | with_reducible refine bstep ?_ (by assumption) | with_reducible refine btrans ?_ (by assumption)))); have c2 := atb a2 (w' := w1) (by (repeat (first | with_reducible exact Below.refl _ _ | with_reducible assumption | with_reducible refine bdraw ?_ | with_reducible refine bdrewN ?_ _ | with_reducible refine balloc ?_ _ | with_reducible refine bset ?_ (by simp <;> omega) | with_reducible refine bstep ?_ (by assumption) | with_reducible refine btrans ?_ (by assumption)))); have c3 := atb a3 (w' := w1) (by (repeat (first | with_reducible exact Below.refl _ _ | with_reducible assumption | with_reducible refine bdraw ?_ | with_reducible refine bdrewN ?_ _ | with_reducible refine balloc ?_ _ | with_reducible refine bset ?_ (by simp <;> omega) | with_reducible refine bstep ?_ (by assumption) | with_reducible refine btrans ?_ (by assumption)))))
      all_goals first
        | (exfalso; omega)
        | (go_ret2; exact ⟨_, rfl, Own.nil, by (repeat (first | with_reducible exact Below.refl _ _ | with_reducible assumption | with_reducible refine bdraw ?_ | with_reducible refine bdrewN ?_ _ | with_reducible refine balloc ?_ _ | with_reducible refine bset ?_ (by simp <;> omega) | with_reducible refine bstep ?_ (by assumption) | with_reducible refine btrans ?_ (by assumption)))⟩)
  · have HV : Hid (spoilE l i k t = atE l i ∧ spoils l i k t = []) := by
      have h1 : spoilE l i k t = atE l i := by unfold spoilE; rw [if_neg hE]
      unfold Hid spoils
      rw [h1, if_neg hE]
      exact ⟨rfl, rfl⟩
    rw [HV.out.1, HV.out.2]
    have d1 : (atE l i != 0) = true := by simpa using hE
    clear HV
    generalize atE l i = ee at *
    clear hE
    go_enter Try.func17, Try.ntmps17
    go_wp2_with (go_at_call 30; refine HA.out.mono ?_; rintro e w1 ⟨rfl, b1⟩)
    go_ret2
    exact ⟨_, rfl, Own.nil, by (repeat (first | with_reducible exact Below.refl _ _ | with_reducible assumption | with_reducible refine bdraw ?_ | with_reducible refine bdrewN ?_ _ | with_reducible refine balloc ?_ _ | with_reducible refine bset ?_ (by simp <;> omega) | with_reducible refine bstep ?_ (by assumption) | with_reducible refine btrans ?_ (by assumption)))⟩
end Go.Proofs.Ytggmhhbhpmfcnaa
