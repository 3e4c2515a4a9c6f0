/- CacheGets, walked. -/
import Derived.Test.YtjcbheeihckgmaaBodm
namespace Go.Proofs.Ytjcbheeihckgmaa
open Go.RowKit
attribute [local go_sem] u8_flip

theorem cachegets_c {S : Foot} {v : Value} {l : List Bd} {o c n : Int} {w : World} (hp : Sl bdE S w v l) (hl : l.length ≤ 4611686018427387904) (hv : ∀ b ∈ l, b.v.length ≤ 4611686018427387904) :
    Calls Try.prog 3 #[v, .int .i64 o, .agg #[.int .i64 c, .int .i64 n]] w fun e w' => e = .returned (.bool true) ∧ Below w.heap.size w w' := by
  have hp := hp.any
  obtain ⟨A, cap, rfl, hc1, hc2, _⟩ := hp.shape
  unfold maxLen at hc2
  have hbA : Below w.heap.size w (w.alloc (.cells #[.int .i64 c, .int .i64 n] 24)) := (Below.refl _ _).alloc (Nat.le_refl _) _
  go_enter Try.func3, Try.ntmps3
  go_wp2_with fail
  refine (alive_c (w := _)).mono ?_
  rintro e w1 ⟨rfl, b1⟩
  have hb1 := hbA.trans (b1.mono (by simp))
  have hp1 := hp.below hb1 (Nat.le_refl _)
  have s0 := box_cell (cs := [.int .i64 c, .int .i64 n]) b1 (by simp) 0 _ rfl
  have s1 := box_cell (cs := [.int .i64 c, .int .i64 n]) b1 (by simp) 1 _ rfl
  have hsl : w.heap.size < w1.heap.size := by have := b1.size; simp at this; omega
  have HG := Lib.hid (great_c hp1 hl hv)
  by_cases hg : 1048576 ≤ l.length + used l
  · rw [decide_eq_true hg] at HG
    clear hg
    go_wp2_with fail
    refine HG.out.mono ?_
    rintro e w2 ⟨rfl, rfl⟩
    go_wp2
    go_ret
    exact ⟨rfl, hb1⟩
  rw [decide_eq_false hg] at HG
  have HCP := Lib.hid (rcopy_c hp1 (by omega) (by omega))
  have hlu : l.length ≤ 1048576 ∧ used l ≤ 1048576 := by omega
  clear hg
  go_wp2_with fail
  refine HG.out.mono ?_
  rintro e w2 ⟨rfl, rfl⟩
  go_wp2_with fail
  refine HCP.out.mono ?_
  rintro e w2 ⟨vo, rfl, oo, b2⟩
  have ho2 := oo.slAny
  have t0 := (b2.cell (p := ⟨w.heap.size, 0, none⟩) hsl).trans s0
  have t1 := (b2.cell (p := ⟨w.heap.size, 1, none⟩) hsl).trans s1
  have hsl2 := Nat.lt_of_lt_of_le hsl b2.size
  have hb2 := bstep hb1 b2
  have hp2 := hp.below hb2 (Nat.le_refl _)
  have HGET := Lib.hid (get_c (o := o) (c := c) (n := n) ho2 hlu.2)
  clear HCP HG oo s0 s1
  go_wp2_with fail
  refine HGET.out.mono ?_
  rintro e w3 ⟨vb, rfl, ob, b3⟩
  have q0 := (b3.cell (p := ⟨w.heap.size, 0, none⟩) hsl2).trans t0
  have q1 := (b3.cell (p := ⟨w.heap.size, 1, none⟩) hsl2).trans t1
  have hp3 := hp2.below b3 (Nat.le_refl _)
  have HRGET := Lib.hid (rget_c (o := o) (c := c) (n := n) hp3 hlu.2)
  clear HGET t0 t1
  go_wp2_with fail
  refine HRGET.out.mono ?_
  rintro e w4 ⟨vc, rfl, oc, b4⟩
  have hb24 : Below w2.heap.size w2 w4 := bstep b3 b4
  have ho4 := ho2.below hb24 (Nat.le_refl _)
  have hp4 := hp2.below hb24 (Nat.le_refl _)
  have ob4 := ob.below b4 (Nat.le_refl _)
  have HS := Lib.hid (same_c ob4.slAny oc.slAny)
  rw [beq_self_eq_true] at HS
  have HU := Lib.hid (used_c ho4 (by omega))
  clear HRGET oc
  generalize gote o c n l = ge at *
  go_wp2_with (first
    | (go_at_call 12; refine HS.out.mono ?_; rintro e w4' ⟨rfl, rfl⟩)
    | (go_at_call 13; refine HU.out.mono ?_; rintro e w5 ⟨rfl, b5⟩; have hp5 := hp4.below b5 (Nat.le_refl _); have ho5 := ho4.below b5 (Nat.le_refl _); have HRU := Lib.hid (rused_c hp5 (by omega)); have HF := Lib.hid (forget_c o ho5 hlu.1 hlu.2))
    | (go_at_call 14; refine HRU.out.mono ?_; rintro e w5' ⟨rfl, rfl⟩)
    | (go_at_call 16; refine HF.out.mono ?_; rintro e w6 ⟨v6, rfl, o6, b6⟩; have hp6 := hp5.below b6 (Nat.le_refl _); have HRF := Lib.hid (rforget_c o hp6 hlu.1 hlu.2))
    | (go_at_call 17; refine HRF.out.mono ?_; rintro e w7 ⟨v7, rfl, o7, b7⟩; have HSS := Lib.hid (samebds_c (o6.slAny.below b7 (Nat.le_refl _)) o7.slAny); rw [beq_self_eq_true] at HSS)
    | (go_at_call 15; refine HSS.out.mono ?_; rintro e w8 ⟨rfl, b8⟩))
  have hb28 : Below w2.heap.size w2 w8 := bstep (bstep (bstep (bstep hb24 b5) b6) b7) b8
  have hb38 : Below w3.heap.size w3 w8 := bstep (bstep (bstep (bstep b4 b5) b6) b7) b8
  have ob8 := ob.below hb38 (Nat.le_refl _)
  generalize hbs : gotv o c n l = bs at *
  obtain ⟨A3, c3, rfl, hd1, hd2, _⟩ := ob8.slAny.shape
  unfold maxLen at hd2
  clear HS HU HRU HF HRF HSS o6 o7 ob ob4 q0 q1
  generalize hn3 : bs.length = n3 at *
  go_loopw [13] (fun i wr => ∃ (k : Nat) (ls : List UInt8), ls.length = n3 ∧ i = .int .i64 k ∧ k ≤ n3 ∧ Own u8E Any wr w2.heap.size 5 (.slice A3 n3 c3) ls ∧ Below w2.heap.size w8 wr) (fun i _ => n3 - (intOf i).toNat)
  case atStart => exact ⟨0, _, hn3, rfl, Nat.zero_le _, ob8, Below.refl _ _⟩
  case round =>
    obtain ⟨k, ls, hls, rfl, hk, hown, hbel⟩ := hrel
    by_cases hlt : k < n3
    · obtain ⟨g, cap, hv, hg, hgl, hcell, hfr, hset⟩ := hown.byteCell (i := k) (by omega)
      have hv' := hv
      injection hv' with hv1 hv2 hv3
      subst hv1 hv3
      have hset' := hset (xr (ls[k]'(by omega)) 255)
      have HS := Lib.hid (show (ls.set k (xr (ls[k]'(by omega)) 255)).length = n3 by rw [List.length_set]; exact hls)
      clear hset hown hv hv2
      generalize ls[k]'(by omega) = x at *
      have HL := Lib.hid hls
      clear hls hn3 HL
      go_wp2
      go_roundw
      case rel => exact ⟨k + 1, _, HS.out, by go_num, by omega, hset', hbel.setCell hg _⟩
      case measure => simp [intOf]; omega
    · have bw : Below w2.heap.size w2 wr := hb28.trans hbel
      have hoe := ho2.below bw (Nat.le_refl _)
      have hpe := hp2.below bw (Nat.le_refl _)
      have HS := Lib.hid (samebds_c hoe hpe)
      rw [beq_self_eq_true] at HS
      clear hls hn3
      go_wp2_with (go_at_call 15; refine HS.out.mono ?_; rintro e w9 ⟨rfl, b9⟩)
      go_ret
      exact ⟨rfl, bstep (bstep hb2 bw) b9⟩
end Go.Proofs.Ytjcbheeihckgmaa
