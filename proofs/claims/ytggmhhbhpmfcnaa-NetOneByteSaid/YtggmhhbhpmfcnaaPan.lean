/- Packets: whether two networks are the same; whether one is formed, in the document's words; whether there is an i-th packet. -/
import Derived.Test.YtggmhhbhpmfcnaaPal
namespace Go.Proofs.Ytggmhhbhpmfcnaa
open Go.RowKit

set_option maxHeartbeats 4000000 in
theorem same_pk_c {S S' : Foot} {v u : Value} {l m : List Pk} {w : World} (ha : Sl pkE S w v l) (hb : Sl pkE S' w u m) :
    Calls Try.prog 11 #[v, u] w fun e w' => e = .returned (.bool (l == m)) ∧ Below w.heap.size w w' := by
  have ha := ha.any
  have hb := hb.any
  obtain ⟨Aa, ca, rfl, hc1, hc2, _⟩ := ha.shape
  obtain ⟨Ab, cb, rfl, hc3, hc4, _⟩ := hb.shape
  unfold maxLen at hc2 hc4
  by_cases hlen : l.length = m.length
  · have HL := Lib.hid hlen
    have d1 : ((l.length : Int) != (m.length : Int)) = false := by simp; omega
    clear hlen
    go_enter Try.func11, Try.ntmps11
    go_wp2
    go_loopw [5, 6, 7] (fun i _ _ wr => ∃ k : Nat, k ≤ l.length ∧ i = .int .i64 k ∧ Hid (l.take k = m.take k) ∧ Below w.heap.size w wr) (fun i _ _ _ => l.length - (intOf i).toNat)
    case atStart => exact ⟨0, Nat.zero_le _, rfl, Lib.hid rfl, Below.refl _ _⟩
    case round =>
      obtain ⟨k, hk, rfl, HT, hbr⟩ := hrel
      by_cases hlt : k < l.length
      · have hlt2 : k < m.length := by have := HL.out; omega
        have HS := Lib.hid (⟨List.take_succ_eq_append_getElem hlt, List.take_succ_eq_append_getElem hlt2⟩ : l.take (k + 1) = l.take k ++ [l[k]] ∧ m.take (k + 1) = m.take k ++ [m[k]])
        have HE := Lib.hid (fun (h : l[k] ≠ m[k]) => (beq_eq_false_iff_ne.2 (fun e : l = m => h (by subst e; rfl)) : (l == m) = false))
        obtain ⟨bx, ox, A1, c1, A2, c2, rfl, x0, x1, x2, x3, hs1, hh1⟩ := (ha.below (by (repeat (first | with_reducible exact Below.refl _ _ | with_reducible assumption | with_reducible refine bdraw ?_ | with_reducible refine bdrewN ?_ _ | with_reducible refine balloc ?_ _ | with_reducible refine bset ?_ (by simp <;> omega) | with_reducible refine bstep ?_ (by assumption) | with_reducible refine btrans ?_ (by assumption)))) (Nat.le_refl _)).pk hlt
        obtain ⟨by_, oy, A3, c3, A4, c4, rfl, y0, y1, y2, y3, hs2, hh2⟩ := (hb.below (by (repeat (first | with_reducible exact Below.refl _ _ | with_reducible assumption | with_reducible refine bdraw ?_ | with_reducible refine bdrewN ?_ _ | with_reducible refine balloc ?_ _ | with_reducible refine bset ?_ (by simp <;> omega) | with_reducible refine bstep ?_ (by assumption) | with_reducible refine btrans ?_ (by assumption)))) (Nat.le_refl _)).pk hlt2
        have i1 : (k : Int) < (l.length : Int) := by omega
        have i2 : (k : Int) < (m.length : Int) := by omega
        have i3 : (0 : Int) ≤ (k : Int) := by omega
        have HC := Lib.hid (fun (w : World) (h1 : Sl u8E Any w (.slice A1 l[k].s.length c1) l[k].s) (h2 : Sl u8E Any w (.slice A3 m[k].s.length c3) m[k].s) => same_c h1 h2)
        have HD := Lib.hid (fun (w : World) (h1 : Sl u8E Any w (.slice A2 l[k].h.length c2) l[k].h) (h2 : Sl u8E Any w (.slice A4 m[k].h.length c4) m[k].h) => same_c h1 h2)
        generalize l[k] = x at *
        generalize m[k] = y at *
        have xc0 := atb x0 (w' := wr) (by (repeat (first | with_reducible exact Below.refl _ _ | with_reducible assumption | with_reducible refine bdraw ?_ | with_reducible refine bdrewN ?_ _ | with_reducible refine balloc ?_ _ | with_reducible refine bset ?_ (by simp <;> omega) | with_reducible refine bstep ?_ (by assumption) | with_reducible refine btrans ?_ (by assumption)))); have xc1 := atb x1 (w' := wr) (by (repeat (first | with_reducible exact Below.refl _ _ | with_reducible assumption | with_reducible refine bdraw ?_ | with_reducible refine bdrewN ?_ _ | with_reducible refine balloc ?_ _ | with_reducible refine bset ?_ (by simp <;> omega) | with_reducible refine bstep ?_ (by assumption) | with_reducible refine btrans ?_ (by assumption)))); have xc2 := atb x2 (w' := wr) (by (repeat (first | with_reducible exact Below.refl _ _ | with_reducible assumption | with_reducible refine bdraw ?_ | with_reducible refine bdrewN ?_ _ | with_reducible refine balloc ?_ _ | with_reducible refine bset ?_ (by simp <;> omega) | with_reducible refine bstep ?_ (by assumption) | with_reducible refine btrans ?_ (by assumption)))); have xc3 := atb x3 (w' := wr) (by (repeat (first | with_reducible exact Below.refl _ _ | with_reducible assumption | with_reducible refine bdraw ?_ | with_reducible refine bdrewN ?_ _ | with_reducible refine balloc ?_ _ | with_reducible refine bset ?_ (by simp <;> omega) | with_reducible refine bstep ?_ (by assumption) | with_reducible refine btrans ?_ (by assumption))))
        have yc0 := atb y0 (w' := wr) (by (repeat (first | with_reducible exact Below.refl _ _ | with_reducible assumption | with_reducible refine bdraw ?_ | with_reducible refine bdrewN ?_ _ | with_reducible refine balloc ?_ _ | with_reducible refine bset ?_ (by simp <;> omega) | with_reducible refine bstep ?_ (by assumption) | with_reducible refine btrans ?_ (by assumption)))); have yc1 := atb y1 (w' := wr) (by (repeat (first | with_reducible exact Below.refl _ _ | with_reducible assumption | with_reducible refine bdraw ?_ | with_reducible refine bdrewN ?_ _ | with_reducible refine balloc ?_ _ | with_reducible refine bset ?_ (by simp <;> omega) | with_reducible refine bstep ?_ (by assumption) | with_reducible refine btrans ?_ (by assumption)))); have yc2 := atb y2 (w' := wr) (by (repeat (first | with_reducible exact Below.refl _ _ | with_reducible assumption | with_reducible refine bdraw ?_ | with_reducible refine bdrewN ?_ _ | with_reducible refine balloc ?_ _ | with_reducible refine bset ?_ (by simp <;> omega) | with_reducible refine bstep ?_ (by assumption) | with_reducible refine btrans ?_ (by assumption)))); have yc3 := atb y3 (w' := wr) (by (repeat (first | with_reducible exact Below.refl _ _ | with_reducible assumption | with_reducible refine bdraw ?_ | with_reducible refine bdrewN ?_ _ | with_reducible refine balloc ?_ _ | with_reducible refine bset ?_ (by simp <;> omega) | with_reducible refine bstep ?_ (by assumption) | with_reducible refine btrans ?_ (by assumption))))
        go_wp2_with fail
        go_region_held3 (fun w' => w'.cell? ⟨bx, ox + k * 4, none⟩ = some (.int .i64 x.f) ∧ w'.cell? ⟨bx, ox + k * 4 + 1, none⟩ = some (.int .i64 x.t) ∧ w'.cell? ⟨bx, ox + k * 4 + 2, none⟩ = some (.slice A1 x.s.length c1) ∧ w'.cell? ⟨bx, ox + k * 4 + 3, none⟩ = some (.slice A2 x.h.length c2) ∧ w'.cell? ⟨by_, oy + k * 4, none⟩ = some (.int .i64 y.f) ∧ w'.cell? ⟨by_, oy + k * 4 + 1, none⟩ = some (.int .i64 y.t) ∧ w'.cell? ⟨by_, oy + k * 4 + 2, none⟩ = some (.slice A3 y.s.length c3) ∧ w'.cell? ⟨by_, oy + k * 4 + 3, none⟩ = some (.slice A4 y.h.length c4))
          (first | go_keep | (refine ⟨?_, ?_, ?_, ?_, ?_, ?_, ?_, ?_⟩ <;> (first | assumption | exact atb x0 (by (repeat (first | with_reducible exact Below.refl _ _ | with_reducible assumption | with_reducible refine bdraw ?_ | with_reducible refine bdrewN ?_ _ | with_reducible refine balloc ?_ _ | with_reducible refine bset ?_ (by simp <;> omega) | with_reducible refine bstep ?_ (by assumption) | with_reducible refine btrans ?_ (by assumption)))) | exact atb x1 (by (repeat (first | with_reducible exact Below.refl _ _ | with_reducible assumption | with_reducible refine bdraw ?_ | with_reducible refine bdrewN ?_ _ | with_reducible refine balloc ?_ _ | with_reducible refine bset ?_ (by simp <;> omega) | with_reducible refine bstep ?_ (by assumption) | with_reducible refine btrans ?_ (by assumption)))) | exact atb x2 (by (repeat (first | with_reducible exact Below.refl _ _ | with_reducible assumption | with_reducible refine bdraw ?_ | with_reducible refine bdrewN ?_ _ | with_reducible refine balloc ?_ _ | with_reducible refine bset ?_ (by simp <;> omega) | with_reducible refine bstep ?_ (by assumption) | with_reducible refine btrans ?_ (by assumption)))) | exact atb x3 (by (repeat (first | with_reducible exact Below.refl _ _ | with_reducible assumption | with_reducible refine bdraw ?_ | with_reducible refine bdrewN ?_ _ | with_reducible refine balloc ?_ _ | with_reducible refine bset ?_ (by simp <;> omega) | with_reducible refine bstep ?_ (by assumption) | with_reducible refine btrans ?_ (by assumption)))) | exact atb y0 (by (repeat (first | with_reducible exact Below.refl _ _ | with_reducible assumption | with_reducible refine bdraw ?_ | with_reducible refine bdrewN ?_ _ | with_reducible refine balloc ?_ _ | with_reducible refine bset ?_ (by simp <;> omega) | with_reducible refine bstep ?_ (by assumption) | with_reducible refine btrans ?_ (by assumption)))) | exact atb y1 (by (repeat (first | with_reducible exact Below.refl _ _ | with_reducible assumption | with_reducible refine bdraw ?_ | with_reducible refine bdrewN ?_ _ | with_reducible refine balloc ?_ _ | with_reducible refine bset ?_ (by simp <;> omega) | with_reducible refine bstep ?_ (by assumption) | with_reducible refine btrans ?_ (by assumption)))) | exact atb y2 (by (repeat (first | with_reducible exact Below.refl _ _ | with_reducible assumption | with_reducible refine bdraw ?_ | with_reducible refine bdrewN ?_ _ | with_reducible refine balloc ?_ _ | with_reducible refine bset ?_ (by simp <;> omega) | with_reducible refine bstep ?_ (by assumption) | with_reducible refine btrans ?_ (by assumption)))) | exact atb y3 (by (repeat (first | with_reducible exact Below.refl _ _ | with_reducible assumption | with_reducible refine bdraw ?_ | with_reducible refine bdrewN ?_ _ | with_reducible refine balloc ?_ _ | with_reducible refine bset ?_ (by simp <;> omega) | with_reducible refine bstep ?_ (by assumption) | with_reducible refine btrans ?_ (by assumption)))))))
          (fail)
        all_goals clear xc0 xc1 xc2 xc3 yc0 yc1 yc2 yc3
        all_goals go_wp2_with (first
          | (go_at_call_of 26 (Value.slice A1 x.s.length c1); go_must (refine (HC.out _ (hs1.below (by (repeat (first | with_reducible exact Below.refl _ _ | with_reducible assumption | with_reducible refine bdraw ?_ | with_reducible refine bdrewN ?_ _ | with_reducible refine balloc ?_ _ | with_reducible refine bset ?_ (by simp <;> omega) | with_reducible refine bstep ?_ (by assumption) | with_reducible refine btrans ?_ (by assumption)))) (Nat.le_refl _)) (hs2.below (by (repeat (first | with_reducible exact Below.refl _ _ | with_reducible assumption | with_reducible refine bdraw ?_ | with_reducible refine bdrewN ?_ _ | with_reducible refine balloc ?_ _ | with_reducible refine bset ?_ (by simp <;> omega) | with_reducible refine bstep ?_ (by assumption) | with_reducible refine btrans ?_ (by assumption)))) (Nat.le_refl _))).mono ?_; rintro e w1 ⟨rfl, rfl⟩))
          | (go_at_call_of 26 (Value.slice A2 x.h.length c2); go_must (refine (HD.out _ (hh1.below (by (repeat (first | with_reducible exact Below.refl _ _ | with_reducible assumption | with_reducible refine bdraw ?_ | with_reducible refine bdrewN ?_ _ | with_reducible refine balloc ?_ _ | with_reducible refine bset ?_ (by simp <;> omega) | with_reducible refine bstep ?_ (by assumption) | with_reducible refine btrans ?_ (by assumption)))) (Nat.le_refl _)) (hh2.below (by (repeat (first | with_reducible exact Below.refl _ _ | with_reducible assumption | with_reducible refine bdraw ?_ | with_reducible refine bdrewN ?_ _ | with_reducible refine balloc ?_ _ | with_reducible refine bset ?_ (by simp <;> omega) | with_reducible refine bstep ?_ (by assumption) | with_reducible refine btrans ?_ (by assumption)))) (Nat.le_refl _))).mono ?_; rintro e w1 ⟨rfl, rfl⟩)))
        all_goals try
          go_ret
          exact ⟨ret_bool (HE.out (by rintro rfl; simp_all)).symm, by (repeat (first | with_reducible exact Below.refl _ _ | with_reducible assumption | with_reducible refine bdraw ?_ | with_reducible refine bdrewN ?_ _ | with_reducible refine balloc ?_ _ | with_reducible refine bset ?_ (by simp <;> omega) | with_reducible refine bstep ?_ (by assumption) | with_reducible refine btrans ?_ (by assumption)))⟩
        all_goals
          go_roundw
          case rel => exact ⟨k + 1, by omega, by go_num, Lib.hid (by rw [HS.out.1, HS.out.2, HT.out, show x = y by cases x; cases y; simp_all]), by (repeat (first | with_reducible exact Below.refl _ _ | with_reducible assumption | with_reducible refine bdraw ?_ | with_reducible refine bdrewN ?_ _ | with_reducible refine balloc ?_ _ | with_reducible refine bset ?_ (by simp <;> omega) | with_reducible refine bstep ?_ (by assumption) | with_reducible refine btrans ?_ (by assumption)))⟩
          case measure => simp [intOf]; omega
      · have HR : Hid ((l == m) = true) := by
          have e := HT.out
          rw [show k = l.length by omega, List.take_length, HL.out, List.take_length] at e
          exact Lib.hid (by simpa using e)
        go_wp2
        go_ret
        exact ⟨ret_bool HR.out.symm, hbr⟩
  · have HR : Hid ((l == m) = false) := by unfold Hid; rw [beq_eq_false_iff_ne]; exact fun e => hlen (by rw [e])
    have d1 : ((l.length : Int) != (m.length : Int)) = true := by simp; omega
    clear hlen
    go_enter Try.func11, Try.ntmps11
    go_wp2
    go_ret
    exact ⟨ret_bool HR.out.symm, Below.refl _ _⟩

theorem formedB_long {l : List Pk} (h : 4096 < l.length) : formedB l = false := by
  unfold formedB
  rw [decide_eq_false (by omega)]
  rfl
theorem formedB_all {l : List Pk} (h : l.length ≤ 4096) (ha : l.all rightB = true) : formedB l = true := by
  unfold formedB
  rw [decide_eq_true h, ha]
  rfl

set_option maxHeartbeats 4000000 in
theorem rformed_c {S : Foot} {v : Value} {l : List Pk} {w : World} (hp : Sl pkE S w v l) :
    Calls Try.prog 13 #[v] w fun e w' => e = .returned (.bool (formedB l)) ∧ Below w.heap.size w w' := by
  have hp := hp.any
  obtain ⟨A, cap, rfl, hc1, hc2, _⟩ := hp.shape
  unfold maxLen at hc2
  go_enter Try.func13, Try.ntmps13
  by_cases h4 : 4096 < l.length
  · have HR := Lib.hid (formedB_long h4)
    go_wp2
    go_ret
    exact ⟨ret_bool HR.out.symm, Below.refl _ _⟩
  go_wp2
  go_loopw [3, 4, 5, 6] (fun i _ _ _ wr => ∃ k : Nat, k ≤ l.length ∧ i = .int .i64 k ∧ Hid ((l.take k).all rightB = true) ∧ Below w.heap.size w wr) (fun i _ _ _ _ => l.length - (intOf i).toNat)
  case atStart => exact ⟨0, Nat.zero_le _, rfl, Lib.hid rfl, Below.refl _ _⟩
  case round =>
    obtain ⟨k, hk, rfl, HT, hbr⟩ := hrel
    by_cases hlt : k < l.length
    · obtain ⟨b, off, As, cs, Ah, ch, rfl, a0, a1, a2, a3, hs, hh⟩ := (hp.below (by (repeat (first | with_reducible exact Below.refl _ _ | with_reducible assumption | with_reducible refine bdraw ?_ | with_reducible refine bdrewN ?_ _ | with_reducible refine balloc ?_ _ | with_reducible refine bset ?_ (by simp <;> omega) | with_reducible refine bstep ?_ (by assumption) | with_reducible refine btrans ?_ (by assumption)))) (Nat.le_refl _)).pk hlt
      have HN := Lib.hid (fun h => formedB_not hlt h)
      have HA := Lib.hid (fun h => all_snoc HT.out hlt h)
      generalize l[k] = p at *
      generalize hwz : wr = wz at *
      clear hwz
      have c0 := atb a0 (w' := wz) (by (repeat (first | with_reducible exact Below.refl _ _ | with_reducible assumption | with_reducible refine bdraw ?_ | with_reducible refine bdrewN ?_ _ | with_reducible refine balloc ?_ _ | with_reducible refine bset ?_ (by simp <;> omega) | with_reducible refine bstep ?_ (by assumption) | with_reducible refine btrans ?_ (by assumption)))); have c1 := atb a1 (w' := wz) (by (repeat (first | with_reducible exact Below.refl _ _ | with_reducible assumption | with_reducible refine bdraw ?_ | with_reducible refine bdrewN ?_ _ | with_reducible refine balloc ?_ _ | with_reducible refine bset ?_ (by simp <;> omega) | with_reducible refine bstep ?_ (by assumption) | with_reducible refine btrans ?_ (by assumption)))); have c2 := atb a2 (w' := wz) (by (repeat (first | with_reducible exact Below.refl _ _ | with_reducible assumption | with_reducible refine bdraw ?_ | with_reducible refine bdrewN ?_ _ | with_reducible refine balloc ?_ _ | with_reducible refine bset ?_ (by simp <;> omega) | with_reducible refine bstep ?_ (by assumption) | with_reducible refine btrans ?_ (by assumption)))); have c3 := atb a3 (w' := wz) (by (repeat (first | with_reducible exact Below.refl _ _ | with_reducible assumption | with_reducible refine bdraw ?_ | with_reducible refine bdrewN ?_ _ | with_reducible refine balloc ?_ _ | with_reducible refine bset ?_ (by simp <;> omega) | with_reducible refine bstep ?_ (by assumption) | with_reducible refine btrans ?_ (by assumption))))
      clear a0 a1 a2 a3
      have hm := hs.max
      have hm' := hh.max
      have e0 := at_new (w := wz) (cs := #[.int .i64 p.f, .int .i64 p.t, .slice As p.s.length cs, .slice Ah p.h.length ch]) (t := 35) (i := 0) (v := .int .i64 p.f) rfl; have e1 := at_new (w := wz) (cs := #[.int .i64 p.f, .int .i64 p.t, .slice As p.s.length cs, .slice Ah p.h.length ch]) (t := 35) (i := 1) (v := .int .i64 p.t) rfl; have e2 := at_new (w := wz) (cs := #[.int .i64 p.f, .int .i64 p.t, .slice As p.s.length cs, .slice Ah p.h.length ch]) (t := 35) (i := 2) (v := .slice As p.s.length cs) rfl; have e3 := at_new (w := wz) (cs := #[.int .i64 p.f, .int .i64 p.t, .slice As p.s.length cs, .slice Ah p.h.length ch]) (t := 35) (i := 3) (v := .slice Ah p.h.length ch) rfl
      go_wp2_with (go_at_call 25; refine (ends_c _ _ _).mono ?_; rintro e w1 ⟨rfl, rfl⟩)
      all_goals try
        go_ret
        exact ⟨ret_bool (HN.out (by unfold rightB; simp_all <;> omega)).symm, by (repeat (first | with_reducible exact Below.refl _ _ | with_reducible assumption | with_reducible refine bdraw ?_ | with_reducible refine bdrewN ?_ _ | with_reducible refine balloc ?_ _ | with_reducible refine bset ?_ (by simp <;> omega) | with_reducible refine bstep ?_ (by assumption) | with_reducible refine btrans ?_ (by assumption)))⟩
      have HF : Hid (rightB p = decide (oddN p.s p.h ≤ 1)) := by unfold Hid rightB; clear hs hh hp; simp_all <;> omega
      have HL : Hid (p.s.length = p.h.length) := by unfold Hid; clear hs hh hp; simp_all <;> omega
      clear c0 c1 c2 c3
      go_loopw [5, 6] (fun c j ws => ∃ m : Nat, m ≤ p.s.length ∧ j = .int .i64 m ∧ c = .int .i64 (oddN (p.s.take m) (p.h.take m) : Int) ∧ Below (wz.heap.size + 1) (wz.alloc (.cells #[.int .i64 p.f, .int .i64 p.t, .slice As p.s.length cs, .slice Ah p.h.length ch] 35)) ws) (fun _ j _ => p.s.length - (intOf j).toNat)
      case atStart => exact ⟨0, Nat.zero_le _, rfl, rfl, Below.refl _ _⟩
      case round =>
        obtain ⟨m, hk2, rfl, rfl, hbs⟩ := hrel
        have hbz := bsz hbs (by simp)
        have z0 := atb e0 (w' := wr) (by (repeat (first | with_reducible exact Below.refl _ _ | with_reducible assumption | with_reducible refine bdraw ?_ | with_reducible refine bdrewN ?_ _ | with_reducible refine balloc ?_ _ | with_reducible refine bset ?_ (by simp <;> omega) | with_reducible refine bstep ?_ (by assumption) | with_reducible refine btrans ?_ (by assumption)))); have z1 := atb e1 (w' := wr) (by (repeat (first | with_reducible exact Below.refl _ _ | with_reducible assumption | with_reducible refine bdraw ?_ | with_reducible refine bdrewN ?_ _ | with_reducible refine balloc ?_ _ | with_reducible refine bset ?_ (by simp <;> omega) | with_reducible refine bstep ?_ (by assumption) | with_reducible refine btrans ?_ (by assumption)))); have z2 := atb e2 (w' := wr) (by (repeat (first | with_reducible exact Below.refl _ _ | with_reducible assumption | with_reducible refine bdraw ?_ | with_reducible refine bdrewN ?_ _ | with_reducible refine balloc ?_ _ | with_reducible refine bset ?_ (by simp <;> omega) | with_reducible refine bstep ?_ (by assumption) | with_reducible refine btrans ?_ (by assumption)))); have z3 := atb e3 (w' := wr) (by (repeat (first | with_reducible exact Below.refl _ _ | with_reducible assumption | with_reducible refine bdraw ?_ | with_reducible refine bdrewN ?_ _ | with_reducible refine balloc ?_ _ | with_reducible refine bset ?_ (by simp <;> omega) | with_reducible refine bstep ?_ (by assumption) | with_reducible refine btrans ?_ (by assumption))))
        by_cases hlt2 : m < p.s.length
        · have hlt3 : m < p.h.length := by have := HL.out; omega
          have HS := Lib.hid (oddN_snoc hlt2 hlt3)
          have ho := oddN_le (p.s.take m) (p.h.take m)
          rw [List.length_take] at ho
          obtain ⟨b1, o1, rfl, s1⟩ := (hs.below (by (repeat (first | with_reducible exact Below.refl _ _ | with_reducible assumption | with_reducible refine bdraw ?_ | with_reducible refine bdrewN ?_ _ | with_reducible refine balloc ?_ _ | with_reducible refine bset ?_ (by simp <;> omega) | with_reducible refine bstep ?_ (by assumption) | with_reducible refine btrans ?_ (by assumption)))) (Nat.le_refl _)).byte hlt2
          obtain ⟨b2, o2, rfl, s2⟩ := (hh.below (by (repeat (first | with_reducible exact Below.refl _ _ | with_reducible assumption | with_reducible refine bdraw ?_ | with_reducible refine bdrewN ?_ _ | with_reducible refine balloc ?_ _ | with_reducible refine bset ?_ (by simp <;> omega) | with_reducible refine bstep ?_ (by assumption) | with_reducible refine btrans ?_ (by assumption)))) (Nat.le_refl _)).byte hlt3
          have t1 := atb s1 (w' := wr) (by (repeat (first | with_reducible exact Below.refl _ _ | with_reducible assumption | with_reducible refine bdraw ?_ | with_reducible refine bdrewN ?_ _ | with_reducible refine balloc ?_ _ | with_reducible refine bset ?_ (by simp <;> omega) | with_reducible refine bstep ?_ (by assumption) | with_reducible refine btrans ?_ (by assumption))))
          have t2 := atb s2 (w' := wr) (by (repeat (first | with_reducible exact Below.refl _ _ | with_reducible assumption | with_reducible refine bdraw ?_ | with_reducible refine bdrewN ?_ _ | with_reducible refine balloc ?_ _ | with_reducible refine bset ?_ (by simp <;> omega) | with_reducible refine bstep ?_ (by assumption) | with_reducible refine btrans ?_ (by assumption))))
          have i1 : (m : Int) < (p.s.length : Int) := by omega
          have i2 : (m : Int) < (p.h.length : Int) := by omega
          have i3 : (0 : Int) ≤ (m : Int) := by omega
          clear s1 s2 hs hh hp
          generalize oddN (p.s.take m) (p.h.take m) = d at *
          go_wp2
          go_quiet (fail)
          go_wp2
          · go_roundw
            case rel => exact ⟨m + 1, by omega, by go_num, by rw [HS.out, if_neg (by intro e; simp_all)]; go_num, by (repeat (first | with_reducible exact Below.refl _ _ | with_reducible assumption | with_reducible refine bdraw ?_ | with_reducible refine bdrewN ?_ _ | with_reducible refine balloc ?_ _ | with_reducible refine bset ?_ (by simp <;> omega) | with_reducible refine bstep ?_ (by assumption) | with_reducible refine btrans ?_ (by assumption)))⟩
            case measure => simp [intOf]; omega
          · go_roundw
            case rel => exact ⟨m + 1, by omega, by go_num, by rw [HS.out, if_pos (byte_eq (by simp_all)), Nat.add_zero], by (repeat (first | with_reducible exact Below.refl _ _ | with_reducible assumption | with_reducible refine bdraw ?_ | with_reducible refine bdrewN ?_ _ | with_reducible refine balloc ?_ _ | with_reducible refine bset ?_ (by simp <;> omega) | with_reducible refine bstep ?_ (by assumption) | with_reducible refine btrans ?_ (by assumption)))⟩
            case measure => simp [intOf]; omega
        · have HO := Lib.hid (oddN_take m (show m = p.s.length by omega) HL.out)
          go_wp2
          · go_ret
            exact ⟨ret_bool (HN.out (by rw [HF.out, ← HO.out]; simp; omega)).symm, by (repeat (first | with_reducible exact Below.refl _ _ | with_reducible assumption | with_reducible refine bdraw ?_ | with_reducible refine bdrewN ?_ _ | with_reducible refine balloc ?_ _ | with_reducible refine bset ?_ (by simp <;> omega) | with_reducible refine bstep ?_ (by assumption) | with_reducible refine btrans ?_ (by assumption)))⟩
          · go_roundw
            case rel => exact ⟨k + 1, by omega, by go_num, Lib.hid (HA.out (by rw [HF.out, ← HO.out]; simp; omega)), by (repeat (first | with_reducible exact Below.refl _ _ | with_reducible assumption | with_reducible refine bdraw ?_ | with_reducible refine bdrewN ?_ _ | with_reducible refine balloc ?_ _ | with_reducible refine bset ?_ (by simp <;> omega) | with_reducible refine bstep ?_ (by assumption) | with_reducible refine btrans ?_ (by assumption)))⟩
            case measure => simp [intOf]; omega
    · have HR := Lib.hid (formedB_all (by omega) (show l.all rightB = true by have h := HT.out; rw [show k = l.length by omega, List.take_length] at h; exact h))
      go_wp2
      go_ret
      exact ⟨ret_bool HR.out.symm, hbr⟩
end Go.Proofs.Ytggmhhbhpmfcnaa
