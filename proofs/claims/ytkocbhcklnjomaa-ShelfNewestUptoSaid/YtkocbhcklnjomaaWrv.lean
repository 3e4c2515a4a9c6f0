/- Shelves: ShelfPuts and ShelfGets, walked. -/
import Derived.Test.YtkocbhcklnjomaaWru
namespace Go.Proofs.Ytkocbhcklnjomaa
open Go.RowKit

set_option maxHeartbeats 4000000 in
theorem shelfputs_c {S S' : Foot} {v u : Value} {l m : List Wr} {w : World} (hp : Sl wrE S w v l) (hq : Sl wrE S' w u m) (hl : l.length ≤ 4398046511104) (hm : m.length ≤ 4398046511104) :
    Calls Try.prog 3 #[v, u] w fun e w' => e = .returned (.bool true) ∧ Below w.heap.size w w' := by
  have hp := hp.any
  have hq := hq.any
  obtain ⟨i0, hi, hz0, hz1, hz2⟩ := info_parts wr_info
  go_enter Try.func3, Try.ntmps3
  go_wp2_with fail
  refine (alive_c (w := _)).mono ?_
  rintro e w1 ⟨rfl, b1⟩
  go_wp2_with (first
    | (at_builtin; (refine wpList_append_sl _ rfl (.tmp 13) (.tmp 14) 22 rfl (E := wrE) (l := []) (m := l) (base := w1.heap.size) Try.underlying22 hi hz0 hz1 hz2 rfl (World.ownsRow_made _ _ 0 (Nat.le_refl _) (by unfold maxLen; omega) rfl) (hp.below (by (repeat (first | with_reducible exact Below.refl _ _ | with_reducible assumption | with_reducible refine bdraw ?_ | with_reducible refine bdrewN ?_ _ | with_reducible refine balloc ?_ _ | with_reducible refine bset ?_ (by simp <;> omega) | with_reducible refine bstep ?_ (by assumption) | with_reducible refine btrans ?_ (by assumption)))) (Nat.le_refl _)) rfl rfl (by simp [maxLen]; omega) (by simp; omega) (by simp) ?_); intro v2 w2 ys2 ho2 hr2 hg2 hb2; have b2 : Below w1.heap.size w1 w2 := ((Below.refl _ _).alloc (Nat.le_refl _) _).grown hg2 (by simp) (by simp [Value.ownBlock]); have o2 : Own wrE Any w2 w1.heap.size 32 v2 l := ⟨ys2, by simpa using ho2, hr2.1, hr2.2⟩; clear ho2 hr2 hg2 hb2)
    | (at_builtin; (refine wpList_append_sl _ rfl (.tmp 16) (.tmp 17) 22 rfl (E := wrE) (l := []) (m := m) (base := w2.heap.size) Try.underlying22 hi hz0 hz1 hz2 rfl (World.ownsRow_made _ _ 0 (Nat.le_refl _) (by unfold maxLen; omega) rfl) (hq.below (by (repeat (first | with_reducible exact Below.refl _ _ | with_reducible assumption | with_reducible refine bdraw ?_ | with_reducible refine bdrewN ?_ _ | with_reducible refine balloc ?_ _ | with_reducible refine bset ?_ (by simp <;> omega) | with_reducible refine bstep ?_ (by assumption) | with_reducible refine btrans ?_ (by assumption)))) (Nat.le_refl _)) rfl rfl (by simp [maxLen]; omega) (by simp; omega) (by simp) ?_); intro v3 w3 ys3 ho3 hr3 hg3 hb3; have b3 : Below w2.heap.size w2 w3 := ((Below.refl _ _).alloc (Nat.le_refl _) _).grown hg3 (by simp) (by simp [Value.ownBlock]); have o3 : Own wrE Any w3 w2.heap.size 32 v3 m := ⟨ys3, by simpa using ho3, hr3.1, hr3.2⟩; clear ho3 hr3 hg3 hb3)
    | fail)
  have hp3 := o2.slAny
  have hq3 := o3.slAny
  refine (put_c (hp3.below (by (repeat (first | with_reducible exact Below.refl _ _ | with_reducible assumption | with_reducible refine bdraw ?_ | with_reducible refine bdrewN ?_ _ | with_reducible refine balloc ?_ _ | with_reducible refine bset ?_ (by simp <;> omega) | with_reducible refine bstep ?_ (by assumption) | with_reducible refine btrans ?_ (by assumption)))) (Nat.le_refl _)) hq3 hm hl).mono ?_
  rintro e w4 ⟨v4, n4, rfl, hn4, s4, b4⟩
  go_wp2_with fail
  refine (rput_c (hp.below (by (repeat (first | with_reducible exact Below.refl _ _ | with_reducible assumption | with_reducible refine bdraw ?_ | with_reducible refine bdrewN ?_ _ | with_reducible refine balloc ?_ _ | with_reducible refine bset ?_ (by simp <;> omega) | with_reducible refine bstep ?_ (by assumption) | with_reducible refine btrans ?_ (by assumption)))) (Nat.le_refl _)) (hq.below (by (repeat (first | with_reducible exact Below.refl _ _ | with_reducible assumption | with_reducible refine bdraw ?_ | with_reducible refine bdrewN ?_ _ | with_reducible refine balloc ?_ _ | with_reducible refine bset ?_ (by simp <;> omega) | with_reducible refine bstep ?_ (by assumption) | with_reducible refine btrans ?_ (by assumption)))) (Nat.le_refl _))).mono ?_
  rintro e w5 ⟨v5, n5, rfl, hn5, s5, b5⟩
  obtain rfl : n4 = n5 := by rw [hn4.out, hn5.out]
  clear hn4 hn5
  have s4 := s4.any
  have s5 := s5.any
  have H1 := fun (w : World) (h : Sl wrE Any w v4 (puts l m)) (h' : Sl wrE Any w v5 (puts l m)) => Lib.hid (samew_c h h')
  have H2 := fun (w : World) (h : Sl wrE Any w v2 l) (h' : Sl wrE Any w v l) => Lib.hid (samew_c h h')
  have H3 := fun (w : World) (h : Sl wrE Any w v3 m) (h' : Sl wrE Any w u m) => Lib.hid (samew_c h h')
  rw [beq_self_eq_true] at H1 H2 H3
  clear o2 o3
  go_wp2_with (first
    | (go_at_call_of 11 v4; go_must (refine (H1 _ (s4.below (by (repeat (first | with_reducible exact Below.refl _ _ | with_reducible assumption | with_reducible refine bdraw ?_ | with_reducible refine bdrewN ?_ _ | with_reducible refine balloc ?_ _ | with_reducible refine bset ?_ (by simp <;> omega) | with_reducible refine bstep ?_ (by assumption) | with_reducible refine btrans ?_ (by assumption)))) (Nat.le_refl _)) (s5.below (by (repeat (first | with_reducible exact Below.refl _ _ | with_reducible assumption | with_reducible refine bdraw ?_ | with_reducible refine bdrewN ?_ _ | with_reducible refine balloc ?_ _ | with_reducible refine bset ?_ (by simp <;> omega) | with_reducible refine bstep ?_ (by assumption) | with_reducible refine btrans ?_ (by assumption)))) (Nat.le_refl _))).out.mono ?_; rintro e w7 ⟨rfl, b7⟩))
    | (go_at_call_of 11 v2; go_must (refine (H2 _ (hp3.below (by (repeat (first | with_reducible exact Below.refl _ _ | with_reducible assumption | with_reducible refine bdraw ?_ | with_reducible refine bdrewN ?_ _ | with_reducible refine balloc ?_ _ | with_reducible refine bset ?_ (by simp <;> omega) | with_reducible refine bstep ?_ (by assumption) | with_reducible refine btrans ?_ (by assumption)))) (Nat.le_refl _)) (hp.below (by (repeat (first | with_reducible exact Below.refl _ _ | with_reducible assumption | with_reducible refine bdraw ?_ | with_reducible refine bdrewN ?_ _ | with_reducible refine balloc ?_ _ | with_reducible refine bset ?_ (by simp <;> omega) | with_reducible refine bstep ?_ (by assumption) | with_reducible refine btrans ?_ (by assumption)))) (Nat.le_refl _))).out.mono ?_; rintro e w8 ⟨rfl, b8⟩))
    | (go_at_call_of 11 v3; go_must (refine (H3 _ (hq3.below (by (repeat (first | with_reducible exact Below.refl _ _ | with_reducible assumption | with_reducible refine bdraw ?_ | with_reducible refine bdrewN ?_ _ | with_reducible refine balloc ?_ _ | with_reducible refine bset ?_ (by simp <;> omega) | with_reducible refine bstep ?_ (by assumption) | with_reducible refine btrans ?_ (by assumption)))) (Nat.le_refl _)) (hq.below (by (repeat (first | with_reducible exact Below.refl _ _ | with_reducible assumption | with_reducible refine bdraw ?_ | with_reducible refine bdrewN ?_ _ | with_reducible refine balloc ?_ _ | with_reducible refine bset ?_ (by simp <;> omega) | with_reducible refine bstep ?_ (by assumption) | with_reducible refine btrans ?_ (by assumption)))) (Nat.le_refl _))).out.mono ?_; rintro e w9 ⟨rfl, b9⟩)))
  go_ret
  exact ⟨ret_bool (by simp), by (repeat (first | with_reducible exact Below.refl _ _ | with_reducible assumption | with_reducible refine bdraw ?_ | with_reducible refine bdrewN ?_ _ | with_reducible refine balloc ?_ _ | with_reducible refine bset ?_ (by simp <;> omega) | with_reducible refine bstep ?_ (by assumption) | with_reducible refine btrans ?_ (by assumption)))⟩

set_option maxHeartbeats 4000000 in
theorem shelfgets_c {S : Foot} {v : Value} {l : List Wr} {o : Int} {w : World} (hp : Sl wrE S w v l) :
    Calls Try.prog 4 #[v, .int .i64 o] w fun e w' => e = .returned (.bool true) ∧ Below w.heap.size w w' := by
  have hp := hp.any
  have HG1 := fun (w' : World) (b : Below w.heap.size w w') => Lib.hid (get_c (w := w') (o := o) (hp.below (by (repeat (first | with_reducible exact Below.refl _ _ | with_reducible assumption | with_reducible refine bdraw ?_ | with_reducible refine bdrewN ?_ _ | with_reducible refine balloc ?_ _ | with_reducible refine bset ?_ (by simp <;> omega) | with_reducible refine bstep ?_ (by assumption) | with_reducible refine btrans ?_ (by assumption)))) (Nat.le_refl _)))
  have HG2 := fun (w' : World) (b : Below w.heap.size w w') => Lib.hid (rget_c (w := w') (o := o) (hp.below (by (repeat (first | with_reducible exact Below.refl _ _ | with_reducible assumption | with_reducible refine bdraw ?_ | with_reducible refine bdrewN ?_ _ | with_reducible refine balloc ?_ _ | with_reducible refine bset ?_ (by simp <;> omega) | with_reducible refine bstep ?_ (by assumption) | with_reducible refine btrans ?_ (by assumption)))) (Nat.le_refl _)))
  have HF1 := fun (w' : World) (b : Below w.heap.size w w') => Lib.hid (formed_c (w := w') (hp.below (by (repeat (first | with_reducible exact Below.refl _ _ | with_reducible assumption | with_reducible refine bdraw ?_ | with_reducible refine bdrewN ?_ _ | with_reducible refine balloc ?_ _ | with_reducible refine bset ?_ (by simp <;> omega) | with_reducible refine bstep ?_ (by assumption) | with_reducible refine btrans ?_ (by assumption)))) (Nat.le_refl _)))
  have HF2 := fun (w' : World) (b : Below w.heap.size w w') => Lib.hid (rformed_c (w := w') (hp.below (by (repeat (first | with_reducible exact Below.refl _ _ | with_reducible assumption | with_reducible refine bdraw ?_ | with_reducible refine bdrewN ?_ _ | with_reducible refine balloc ?_ _ | with_reducible refine bset ?_ (by simp <;> omega) | with_reducible refine bstep ?_ (by assumption) | with_reducible refine btrans ?_ (by assumption)))) (Nat.le_refl _)))
  generalize gotw l o = x at *
  generalize gotn l o = n at *
  generalize formedW l = f at *
  have heq := fun (w : World) => (show (binOp .eql 32 (.agg #[.int .i64 x.c, .int .i64 x.n, .int .i64 x.o, .bool x.g]) (.agg #[.int .i64 x.c, .int .i64 x.n, .int .i64 x.o, .bool x.g])).run Try.prog w = .ok (.bool true) w by simp [go_sem])
  go_enter Try.func4, Try.ntmps4
  go_wp2_with fail
  refine (alive_c (w := _)).mono ?_
  rintro e w1 ⟨rfl, b1⟩
  go_wp2_with fail
  refine (HG1 _ (by (repeat (first | with_reducible exact Below.refl _ _ | with_reducible assumption | with_reducible refine bdraw ?_ | with_reducible refine bdrewN ?_ _ | with_reducible refine balloc ?_ _ | with_reducible refine bset ?_ (by simp <;> omega) | with_reducible refine bstep ?_ (by assumption) | with_reducible refine btrans ?_ (by assumption))))).out.mono ?_
  rintro e w2 ⟨rfl, b2⟩
  go_wp2_with fail
  refine (HG2 _ (by (repeat (first | with_reducible exact Below.refl _ _ | with_reducible assumption | with_reducible refine bdraw ?_ | with_reducible refine bdrewN ?_ _ | with_reducible refine balloc ?_ _ | with_reducible refine bset ?_ (by simp <;> omega) | with_reducible refine bstep ?_ (by assumption) | with_reducible refine btrans ?_ (by assumption))))).out.mono ?_
  rintro e w3 ⟨rfl, b3⟩
  have p0 := at_new (w := w2) (cs := #[.int .i64 x.c, .int .i64 x.n, .int .i64 x.o, .bool x.g]) (t := 32) (i := 0) (v := .int .i64 x.c) rfl; have p1 := at_new (w := w2) (cs := #[.int .i64 x.c, .int .i64 x.n, .int .i64 x.o, .bool x.g]) (t := 32) (i := 1) (v := .int .i64 x.n) rfl; have p2 := at_new (w := w2) (cs := #[.int .i64 x.c, .int .i64 x.n, .int .i64 x.o, .bool x.g]) (t := 32) (i := 2) (v := .int .i64 x.o) rfl; have p3 := at_new (w := w2) (cs := #[.int .i64 x.c, .int .i64 x.n, .int .i64 x.o, .bool x.g]) (t := 32) (i := 3) (v := .bool x.g) rfl
  have c0 := atb p0 (w' := w3) (by (repeat (first | with_reducible exact Below.refl _ _ | with_reducible assumption | with_reducible refine bdraw ?_ | with_reducible refine bdrewN ?_ _ | with_reducible refine balloc ?_ _ | with_reducible refine bset ?_ (by simp <;> omega) | with_reducible refine bstep ?_ (by assumption) | with_reducible refine btrans ?_ (by assumption)))); have c1 := atb p1 (w' := w3) (by (repeat (first | with_reducible exact Below.refl _ _ | with_reducible assumption | with_reducible refine bdraw ?_ | with_reducible refine bdrewN ?_ _ | with_reducible refine balloc ?_ _ | with_reducible refine bset ?_ (by simp <;> omega) | with_reducible refine bstep ?_ (by assumption) | with_reducible refine btrans ?_ (by assumption)))); have c2 := atb p2 (w' := w3) (by (repeat (first | with_reducible exact Below.refl _ _ | with_reducible assumption | with_reducible refine bdraw ?_ | with_reducible refine bdrewN ?_ _ | with_reducible refine balloc ?_ _ | with_reducible refine bset ?_ (by simp <;> omega) | with_reducible refine bstep ?_ (by assumption) | with_reducible refine btrans ?_ (by assumption)))); have c3 := atb p3 (w' := w3) (by (repeat (first | with_reducible exact Below.refl _ _ | with_reducible assumption | with_reducible refine bdraw ?_ | with_reducible refine bdrewN ?_ _ | with_reducible refine balloc ?_ _ | with_reducible refine bset ?_ (by simp <;> omega) | with_reducible refine bstep ?_ (by assumption) | with_reducible refine btrans ?_ (by assumption))))
  have hz3 : w2.heap.size < w3.heap.size := by have := b3.size; simp at this; omega
  go_wp2_with (first
    | (go_at_call 14; go_must (refine (HF1 _ (by (repeat (first | with_reducible exact Below.refl _ _ | with_reducible assumption | with_reducible refine bdraw ?_ | with_reducible refine bdrewN ?_ _ | with_reducible refine balloc ?_ _ | with_reducible refine bset ?_ (by simp <;> omega) | with_reducible refine bstep ?_ (by assumption) | with_reducible refine btrans ?_ (by assumption))))).out.mono ?_; rintro e w7 ⟨rfl, b7⟩))
    | (go_at_call 15; go_must (refine (HF2 _ (by (repeat (first | with_reducible exact Below.refl _ _ | with_reducible assumption | with_reducible refine bdraw ?_ | with_reducible refine bdrewN ?_ _ | with_reducible refine balloc ?_ _ | with_reducible refine bset ?_ (by simp <;> omega) | with_reducible refine bstep ?_ (by assumption) | with_reducible refine btrans ?_ (by assumption))))).out.mono ?_; rintro e w8 ⟨rfl, b8⟩)))
  go_ret
  exact ⟨ret_bool (by simp), by (repeat (first | with_reducible exact Below.refl _ _ | with_reducible assumption | with_reducible refine bdraw ?_ | with_reducible refine bdrewN ?_ _ | with_reducible refine balloc ?_ _ | with_reducible refine bset ?_ (by simp <;> omega) | with_reducible refine bstep ?_ (by assumption) | with_reducible refine btrans ?_ (by assumption)))⟩
end Go.Proofs.Ytkocbhcklnjomaa
