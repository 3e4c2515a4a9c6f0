/- Disks: the same disk; a twin of one's own. -/
import Derived.Test.YtbahiohlhhdkcaaDoorDkc
import Derived.Deep.RegionLaw
namespace Go.Proofs.YtbahiohlhhdkcaaDoor
open Go.RowKit

set_option maxHeartbeats 4000000 in
theorem samed_c {S S' : Foot} {v u : Value} {ra rb : Int} {l m : List Fi} {w : World} (ha : Sl fiE S w v l) (hb : Sl fiE S' w u m) :
    Calls Tryd.prog 12 #[.agg #[.int .i64 ra, v], .agg #[.int .i64 rb, u]] w fun e w' => e = .returned (.bool (decide (ra = rb) && l == m)) ∧ Below w.heap.size w w' := by
  have ha := ha.any
  have hb := hb.any
  obtain ⟨Aa, ca, rfl, hc1, hc2, _⟩ := ha.shape
  obtain ⟨Ab, cb, rfl, hc3, hc4, _⟩ := hb.shape
  unfold maxLen at hc2 hc4
  have p0 := at_new (w := w) (cs := #[.int .i64 ra, .slice Aa l.length ca]) (t := 24) (i := 0) (v := .int .i64 ra) rfl; have p1 := at_new (w := w) (cs := #[.int .i64 ra, .slice Aa l.length ca]) (t := 24) (i := 1) (v := .slice Aa l.length ca) rfl
  have q0 : At Any ((w.alloc (.cells #[.int .i64 ra, .slice Aa l.length ca] 24)).alloc (.cells #[.int .i64 rb, .slice Ab m.length cb] 24)) (w.heap.size + 1) 0 (.int .i64 rb) := by
    have := at_new (w := w.alloc (.cells #[.int .i64 ra, .slice Aa l.length ca] 24)) (cs := #[.int .i64 rb, .slice Ab m.length cb]) (t := 24) (i := 0) (v := .int .i64 rb) rfl
    rwa [World.size_alloc] at this
  have q1 : At Any ((w.alloc (.cells #[.int .i64 ra, .slice Aa l.length ca] 24)).alloc (.cells #[.int .i64 rb, .slice Ab m.length cb] 24)) (w.heap.size + 1) 1 (.slice Ab m.length cb) := by
    have := at_new (w := w.alloc (.cells #[.int .i64 ra, .slice Aa l.length ca] 24)) (cs := #[.int .i64 rb, .slice Ab m.length cb]) (t := 24) (i := 1) (v := .slice Ab m.length cb) rfl
    rwa [World.size_alloc] at this
  go_enter Tryd.func12, Tryd.ntmps12
  by_cases hr : ra = rb
  · by_cases hlen : l.length = m.length
    · have HL := Lib.hid hlen
      have d1 : ((l.length : Int) != (m.length : Int)) = false := by simp; omega
      have d0 : (ra != rb) = false := by simpa using hr
      have HRm : Hid (decide (ra = rb) = true) := Lib.hid (by simpa using hr)
      clear hlen hr
      go_wp2
      generalize hW : (w.alloc (.cells #[.int .i64 ra, .slice Aa l.length ca] 24)).alloc (.cells #[.int .i64 rb, .slice Ab m.length cb] 24) = W at *
      have hbW : Below w.heap.size w W := by rw [← hW]; (repeat (first | with_reducible exact Below.refl _ _ | with_reducible assumption | with_reducible refine bdraw ?_ | with_reducible refine bdrewN ?_ _ | with_reducible refine balloc ?_ _ | with_reducible refine bset ?_ (by simp <;> omega) | with_reducible refine bstep ?_ (by assumption) | with_reducible refine btrans ?_ (by assumption)))
      have p0' : At Any W w.heap.size 0 (.int .i64 ra) := hW ▸ atk p0 ((Below.refl _ _).alloc (Nat.le_refl _) _)
      have p1' : At Any W w.heap.size 1 (.slice Aa l.length ca) := hW ▸ atk p1 ((Below.refl _ _).alloc (Nat.le_refl _) _)
      have hzW : W.heap.size = w.heap.size + 1 + 1 := by rw [← hW]; simp
      clear hW p0 p1
      go_loopw [5, 6, 7] (fun i _ _ wr => ∃ k : Nat, k ≤ l.length ∧ i = .int .i64 k ∧ Hid (l.take k = m.take k) ∧ Below W.heap.size W wr) (fun i _ _ _ => l.length - (intOf i).toNat)
      case atStart => exact ⟨0, Nat.zero_le _, by go_num, Lib.hid rfl, Below.refl _ _⟩
      case round =>
        obtain ⟨k, hk, rfl, HT, hbr⟩ := hrel
        have hz := hbr.size
        by_cases hlt : k < l.length
        · have hlt2 : k < m.length := by have := HL.out; omega
          have HS := Lib.hid (⟨List.take_succ_eq_append_getElem hlt, List.take_succ_eq_append_getElem hlt2⟩ : l.take (k + 1) = l.take k ++ [l[k]] ∧ m.take (k + 1) = m.take k ++ [m[k]])
          have HE := Lib.hid (fun (h : l[k] ≠ m[k]) => (beq_eq_false_iff_ne.2 (fun e : l = m => h (by subst e; rfl)) : (l == m) = false))
          obtain ⟨bx, ox, A1, c1, rfl, x0, x1, x2, hs1⟩ := (ha.below (by (repeat (first | with_reducible exact Below.refl _ _ | with_reducible assumption | with_reducible refine bdraw ?_ | with_reducible refine bdrewN ?_ _ | with_reducible refine balloc ?_ _ | with_reducible refine bset ?_ (by simp <;> omega) | with_reducible refine bstep ?_ (by assumption) | with_reducible refine btrans ?_ (by assumption)))) (Nat.le_refl _)).fi hlt
          obtain ⟨by_, oy, A3, c3, rfl, y0, y1, y2, hs2⟩ := (hb.below (by (repeat (first | with_reducible exact Below.refl _ _ | with_reducible assumption | with_reducible refine bdraw ?_ | with_reducible refine bdrewN ?_ _ | with_reducible refine balloc ?_ _ | with_reducible refine bset ?_ (by simp <;> omega) | with_reducible refine bstep ?_ (by assumption) | with_reducible refine btrans ?_ (by assumption)))) (Nat.le_refl _)).fi hlt2
          have i1 : (k : Int) < (l.length : Int) := by omega
          have i2 : (k : Int) < (m.length : Int) := by omega
          have i3 : (0 : Int) ≤ (k : Int) := by omega
          have HC := Lib.hid (fun (w : World) (h1 : Sl u8E Any w (.slice A1 l[k].b.length c1) l[k].b) (h2 : Sl u8E Any w (.slice A3 m[k].b.length c3) m[k].b) => same_c h1 h2)
          generalize l[k] = x at *
          generalize m[k] = y at *
          have xc0 := atb x0 (w' := wr) (by (repeat (first | with_reducible exact Below.refl _ _ | with_reducible assumption | with_reducible refine bdraw ?_ | with_reducible refine bdrewN ?_ _ | with_reducible refine balloc ?_ _ | with_reducible refine bset ?_ (by simp <;> omega) | with_reducible refine bstep ?_ (by assumption) | with_reducible refine btrans ?_ (by assumption)))); have xc1 := atb x1 (w' := wr) (by (repeat (first | with_reducible exact Below.refl _ _ | with_reducible assumption | with_reducible refine bdraw ?_ | with_reducible refine bdrewN ?_ _ | with_reducible refine balloc ?_ _ | with_reducible refine bset ?_ (by simp <;> omega) | with_reducible refine bstep ?_ (by assumption) | with_reducible refine btrans ?_ (by assumption)))); have xc2 := atb x2 (w' := wr) (by (repeat (first | with_reducible exact Below.refl _ _ | with_reducible assumption | with_reducible refine bdraw ?_ | with_reducible refine bdrewN ?_ _ | with_reducible refine balloc ?_ _ | with_reducible refine bset ?_ (by simp <;> omega) | with_reducible refine bstep ?_ (by assumption) | with_reducible refine btrans ?_ (by assumption))))
          have yc0 := atb y0 (w' := wr) (by (repeat (first | with_reducible exact Below.refl _ _ | with_reducible assumption | with_reducible refine bdraw ?_ | with_reducible refine bdrewN ?_ _ | with_reducible refine balloc ?_ _ | with_reducible refine bset ?_ (by simp <;> omega) | with_reducible refine bstep ?_ (by assumption) | with_reducible refine btrans ?_ (by assumption)))); have yc1 := atb y1 (w' := wr) (by (repeat (first | with_reducible exact Below.refl _ _ | with_reducible assumption | with_reducible refine bdraw ?_ | with_reducible refine bdrewN ?_ _ | with_reducible refine balloc ?_ _ | with_reducible refine bset ?_ (by simp <;> omega) | with_reducible refine bstep ?_ (by assumption) | with_reducible refine btrans ?_ (by assumption)))); have yc2 := atb y2 (w' := wr) (by (repeat (first | with_reducible exact Below.refl _ _ | with_reducible assumption | with_reducible refine bdraw ?_ | with_reducible refine bdrewN ?_ _ | with_reducible refine balloc ?_ _ | with_reducible refine bset ?_ (by simp <;> omega) | with_reducible refine bstep ?_ (by assumption) | with_reducible refine btrans ?_ (by assumption))))
          have pc := atb p1' (w' := wr) (by (repeat (first | with_reducible exact Below.refl _ _ | with_reducible assumption | with_reducible refine bdraw ?_ | with_reducible refine bdrewN ?_ _ | with_reducible refine balloc ?_ _ | with_reducible refine bset ?_ (by simp <;> omega) | with_reducible refine bstep ?_ (by assumption) | with_reducible refine btrans ?_ (by assumption))))
          have qc := atb q1 (w' := wr) (by (repeat (first | with_reducible exact Below.refl _ _ | with_reducible assumption | with_reducible refine bdraw ?_ | with_reducible refine bdrewN ?_ _ | with_reducible refine balloc ?_ _ | with_reducible refine bset ?_ (by simp <;> omega) | with_reducible refine bstep ?_ (by assumption) | with_reducible refine btrans ?_ (by assumption))))
          go_wp2_with fail
          go_region_held3 (fun w' => w'.cell? ⟨w.heap.size, 1, none⟩ = some (.slice (some ⟨bx, ox, none⟩) l.length ca) ∧ w'.cell? ⟨w.heap.size + 1, 1, none⟩ = some (.slice (some ⟨by_, oy, none⟩) m.length cb) ∧ w'.cell? ⟨bx, ox + k * 3, none⟩ = some (.int .i64 x.n) ∧ w'.cell? ⟨bx, ox + k * 3 + 1, none⟩ = some (.slice A1 x.b.length c1) ∧ w'.cell? ⟨bx, ox + k * 3 + 2, none⟩ = some (.int .i64 x.s) ∧ w'.cell? ⟨by_, oy + k * 3, none⟩ = some (.int .i64 y.n) ∧ w'.cell? ⟨by_, oy + k * 3 + 1, none⟩ = some (.slice A3 y.b.length c3) ∧ w'.cell? ⟨by_, oy + k * 3 + 2, none⟩ = some (.int .i64 y.s))
            (first | go_keep | (refine ⟨?_, ?_, ?_, ?_, ?_, ?_, ?_, ?_⟩ <;> (first | assumption | exact atb p1' (by (repeat (first | with_reducible exact Below.refl _ _ | with_reducible assumption | with_reducible refine bdraw ?_ | with_reducible refine bdrewN ?_ _ | with_reducible refine balloc ?_ _ | with_reducible refine bset ?_ (by simp <;> omega) | with_reducible refine bstep ?_ (by assumption) | with_reducible refine btrans ?_ (by assumption)))) | exact atb q1 (by (repeat (first | with_reducible exact Below.refl _ _ | with_reducible assumption | with_reducible refine bdraw ?_ | with_reducible refine bdrewN ?_ _ | with_reducible refine balloc ?_ _ | with_reducible refine bset ?_ (by simp <;> omega) | with_reducible refine bstep ?_ (by assumption) | with_reducible refine btrans ?_ (by assumption)))) | exact atb x0 (by (repeat (first | with_reducible exact Below.refl _ _ | with_reducible assumption | with_reducible refine bdraw ?_ | with_reducible refine bdrewN ?_ _ | with_reducible refine balloc ?_ _ | with_reducible refine bset ?_ (by simp <;> omega) | with_reducible refine bstep ?_ (by assumption) | with_reducible refine btrans ?_ (by assumption)))) | exact atb x1 (by (repeat (first | with_reducible exact Below.refl _ _ | with_reducible assumption | with_reducible refine bdraw ?_ | with_reducible refine bdrewN ?_ _ | with_reducible refine balloc ?_ _ | with_reducible refine bset ?_ (by simp <;> omega) | with_reducible refine bstep ?_ (by assumption) | with_reducible refine btrans ?_ (by assumption)))) | exact atb x2 (by (repeat (first | with_reducible exact Below.refl _ _ | with_reducible assumption | with_reducible refine bdraw ?_ | with_reducible refine bdrewN ?_ _ | with_reducible refine balloc ?_ _ | with_reducible refine bset ?_ (by simp <;> omega) | with_reducible refine bstep ?_ (by assumption) | with_reducible refine btrans ?_ (by assumption)))) | exact atb y0 (by (repeat (first | with_reducible exact Below.refl _ _ | with_reducible assumption | with_reducible refine bdraw ?_ | with_reducible refine bdrewN ?_ _ | with_reducible refine balloc ?_ _ | with_reducible refine bset ?_ (by simp <;> omega) | with_reducible refine bstep ?_ (by assumption) | with_reducible refine btrans ?_ (by assumption)))) | exact atb y1 (by (repeat (first | with_reducible exact Below.refl _ _ | with_reducible assumption | with_reducible refine bdraw ?_ | with_reducible refine bdrewN ?_ _ | with_reducible refine balloc ?_ _ | with_reducible refine bset ?_ (by simp <;> omega) | with_reducible refine bstep ?_ (by assumption) | with_reducible refine btrans ?_ (by assumption)))) | exact atb y2 (by (repeat (first | with_reducible exact Below.refl _ _ | with_reducible assumption | with_reducible refine bdraw ?_ | with_reducible refine bdrewN ?_ _ | with_reducible refine balloc ?_ _ | with_reducible refine bset ?_ (by simp <;> omega) | with_reducible refine bstep ?_ (by assumption) | with_reducible refine btrans ?_ (by assumption)))))))
            (fail)
          all_goals clear xc0 xc1 xc2 yc0 yc1 yc2
          all_goals go_wp2_with (go_at_call 19; go_must (refine (HC.out _ (hs1.below (by (repeat (first | with_reducible exact Below.refl _ _ | with_reducible assumption | with_reducible refine bdraw ?_ | with_reducible refine bdrewN ?_ _ | with_reducible refine balloc ?_ _ | with_reducible refine bset ?_ (by simp <;> omega) | with_reducible refine bstep ?_ (by assumption) | with_reducible refine btrans ?_ (by assumption)))) (Nat.le_refl _)) (hs2.below (by (repeat (first | with_reducible exact Below.refl _ _ | with_reducible assumption | with_reducible refine bdraw ?_ | with_reducible refine bdrewN ?_ _ | with_reducible refine balloc ?_ _ | with_reducible refine bset ?_ (by simp <;> omega) | with_reducible refine bstep ?_ (by assumption) | with_reducible refine btrans ?_ (by assumption)))) (Nat.le_refl _))).mono ?_; rintro e w1 ⟨rfl, rfl⟩))
          all_goals try
            go_ret
            exact ⟨ret_bool (by rw [HRm.out]; exact (HE.out (by rintro rfl; simp_all)).symm), by (repeat (first | with_reducible exact Below.refl _ _ | with_reducible assumption | with_reducible refine bdraw ?_ | with_reducible refine bdrewN ?_ _ | with_reducible refine balloc ?_ _ | with_reducible refine bset ?_ (by simp <;> omega) | with_reducible refine bstep ?_ (by assumption) | with_reducible refine btrans ?_ (by assumption)))⟩
          all_goals
            go_roundw
            case rel => exact ⟨k + 1, by omega, by go_num, Lib.hid (by rw [HS.out.1, HS.out.2, HT.out, show x = y by cases x; cases y; simp_all]), by (repeat (first | with_reducible exact Below.refl _ _ | with_reducible assumption | with_reducible refine bdraw ?_ | with_reducible refine bdrewN ?_ _ | with_reducible refine balloc ?_ _ | with_reducible refine bset ?_ (by simp <;> omega) | with_reducible refine bstep ?_ (by assumption) | with_reducible refine btrans ?_ (by assumption)))⟩
            case measure => simp [intOf]; omega
        · have HR : Hid ((l == m) = true) := by
            have e := HT.out
            rw [show k = l.length by omega, List.take_length, HL.out, List.take_length] at e
            exact Lib.hid (by simpa using e)
          have i1 : ¬ (k : Int) < (l.length : Int) := by omega
          have pc := atb p1' (w' := wr) (by (repeat (first | with_reducible exact Below.refl _ _ | with_reducible assumption | with_reducible refine bdraw ?_ | with_reducible refine bdrewN ?_ _ | with_reducible refine balloc ?_ _ | with_reducible refine bset ?_ (by simp <;> omega) | with_reducible refine bstep ?_ (by assumption) | with_reducible refine btrans ?_ (by assumption))))
          go_wp2
          go_ret
          exact ⟨ret_bool (by rw [HRm.out, HR.out]; rfl), by (repeat (first | with_reducible exact Below.refl _ _ | with_reducible assumption | with_reducible refine bdraw ?_ | with_reducible refine bdrewN ?_ _ | with_reducible refine balloc ?_ _ | with_reducible refine bset ?_ (by simp <;> omega) | with_reducible refine bstep ?_ (by assumption) | with_reducible refine btrans ?_ (by assumption)))⟩
    · have HR : Hid ((l == m) = false) := by unfold Hid; rw [beq_eq_false_iff_ne]; exact fun e => hlen (by rw [e])
      have d1 : ((l.length : Int) != (m.length : Int)) = true := by simp; omega
      have d0 : (ra != rb) = false := by simpa using hr
      clear hlen hr
      go_wp2
      go_ret
      exact ⟨ret_bool (by rw [HR.out]; simp), by (repeat (first | with_reducible exact Below.refl _ _ | with_reducible assumption | with_reducible refine bdraw ?_ | with_reducible refine bdrewN ?_ _ | with_reducible refine balloc ?_ _ | with_reducible refine bset ?_ (by simp <;> omega) | with_reducible refine bstep ?_ (by assumption) | with_reducible refine btrans ?_ (by assumption)))⟩
  · have HR : Hid (decide (ra = rb) = false) := Lib.hid (by simpa using hr)
    have d0 : (ra != rb) = true := by simpa using hr
    clear hr
    go_wp2
    go_ret
    exact ⟨ret_bool (by rw [HR.out]; simp), by (repeat (first | with_reducible exact Below.refl _ _ | with_reducible assumption | with_reducible refine bdraw ?_ | with_reducible refine bdrewN ?_ _ | with_reducible refine balloc ?_ _ | with_reducible refine bset ?_ (by simp <;> omega) | with_reducible refine bstep ?_ (by assumption) | with_reducible refine btrans ?_ (by assumption)))⟩
end Go.Proofs.YtbahiohlhhdkcaaDoor
