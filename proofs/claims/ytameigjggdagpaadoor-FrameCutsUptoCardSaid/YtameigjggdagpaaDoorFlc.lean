/- The frame layer's laws, walked: FrameSeals, FrameOpens, FrameCuts. -/
import Derived.Test.YtameigjggdagpaaDoorFla
namespace Go.Proofs.YtameigjggdagpaaDoor
open Go.RowKit

attribute [local go_sem] u8_flip

theorem frameSeals_c {S : Foot} {va : Value} {la : List UInt8} {w : World} (ha : Sl u8E S w va la) (ht : Tab w) (hz : la.length ≤ 140737488351232) :
    Calls Tryd.prog 4 #[va] w fun e w' => e = .returned (.bool true) ∧ Below w.heap.size w w' := by
  have hal := Lib.hid (alive_c ht)
  go_enter Tryd.func4, Tryd.ntmps4
  go_wp2_with fail
  refine hal.out.mono ?_
  rintro e w1 ⟨rfl, b1⟩
  have ha1 := ha.below b1 (Nat.le_refl _)
  go_wp2_with fail
  refine (copy_c ha1 (by omega)).mono ?_
  rintro e w2 ⟨v2, rfl, o2, b2⟩
  have b02 := bstep b1 b2
  have ht2 := ht.below b02 (Nat.le_refl _)
  go_wp2_with fail
  refine (seal_c o2.slAny ht2).mono ?_
  rintro e w3 ⟨v3, rfl, o3, b3⟩
  have b03 := bstep b02 b3
  have ha3 := ha.below b03 (Nat.le_refl _)
  go_wp2_with fail
  refine (rseal_c ha3).mono ?_
  rintro e w4 ⟨v4, rfl, o4, b4⟩
  have b04 := bstep b03 b4
  have o3' := o3.below b4 (Nat.le_refl _)
  have s2 := (o2.below (bstep b3 b4) (Nat.le_refl _))
  go_wp2_with fail
  refine (same_c o3'.slAny o4.slAny).mono ?_
  rintro e w5 ⟨rfl, rfl⟩
  have hself : (sealB la == sealB la) = true := by simp
  rw [hself]
  clear hself
  obtain ⟨A3, c3, hv3, hc3, hm3, _⟩ := o3'.slAny.shape
  unfold maxLen at hm3
  generalize sealE la = sE at *
  generalize hn3 : (sealB la).length = n3 at *
  subst hv3
  go_wp2
  go_loopw [9] (fun i wr => ∃ (k : Nat) (ls : List UInt8), ls.length = n3 ∧ i = .int .i64 k ∧ k ≤ n3 ∧ Own u8E Any wr w2.heap.size 5 (.slice A3 n3 c3) ls ∧ Below w2.heap.size w4 wr) (fun i _ => n3 - (intOf i).toNat)
  case atStart => exact ⟨0, _, hn3, rfl, Nat.zero_le _, o3', Below.refl _ _⟩
  case round =>
    obtain ⟨k, ls, hls, rfl, hk, hown, hbel⟩ := hrel
    by_cases hlt : k < n3
    · obtain ⟨g, cap, hv, hg, hgl, hcell, hfr, hset⟩ := hown.byteCell (i := k) (by omega)
      have hv' := hv
      injection hv' with hv1 hv2 hv3
      subst hv1 hv3
      have hset' := hset (xr (ls[k]'(by omega)) 255)
      have HS := Lib.hid (show (ls.set k (xr (ls[k]'(by omega)) 255)).length = n3 by rw [List.length_set]; exact hls)
      clear hset hown hv hv2
      generalize ls[k]'(by omega) = x at *
      have HL := Lib.hid hls
      clear hls hn3 HL
      go_wp2
      go_roundw
      case rel => exact ⟨k + 1, _, HS.out, by go_num, by omega, hset', hbel.setCell hg _⟩
      case measure => simp [intOf]; omega
    · have bw : Below w2.heap.size w2 wr := (b3.trans (b4.mono b3.size)).trans hbel
      have h2 := o2.below bw (Nat.le_refl _)
      have h0 := ha.below (bstep b02 bw) (Nat.le_refl _)
      have hs := Lib.hid (same_c h2.slAny h0)
      have hself : (la == la) = true := by simp
      rw [hself] at hs
      clear hself hls hn3
      go_wp2_with (go_at_call 15; refine hs.out.mono ?_; rintro e w5 ⟨rfl, rfl⟩)
      go_ret
      exact ⟨rfl, bstep b02 bw⟩

theorem frameCuts_c {S : Foot} {va : Value} {la : List UInt8} {w : World} (ha : Sl u8E S w va la) (ht : Tab w) (hz : la.length ≤ 1048576) :
    Calls Tryd.prog 7 #[va] w fun e w' => e = .returned (.bool true) ∧ Below w.heap.size w w' := by
  have hal := Lib.hid (alive_c ht)
  go_enter Tryd.func7, Tryd.ntmps7
  go_wp2_with fail
  refine hal.out.mono ?_
  rintro e w1 ⟨rfl, b1⟩
  have ha1 := ha.below b1 (Nat.le_refl _)
  have ht1 := ht.below b1 (Nat.le_refl _)
  go_wp2_with fail
  refine (cut_c ha1 ht1 (by omega)).mono ?_
  rintro e w2 ⟨v2, k, hk, rfl, o2, b2⟩
  have b02 := bstep b1 b2
  have ha2 := ha.below b02 (Nat.le_refl _)
  go_wp2_with fail
  refine (rcut_c ha2 (by omega)).mono ?_
  rintro e w3 ⟨v3, j, hj, rfl, o3, b3⟩
  have b03 := bstep b02 b3
  have o2' := o2.below b3 (Nat.le_refl _)
  rw [cutK_one hk hj] at o2' ⊢
  generalize cutK la j = c at *
  go_wp2_with fail
  refine (lists_c o2'.slAny o3.slAny).mono ?_
  rintro e w4 ⟨rfl, nq, rfl⟩
  have hself : (c.1 == c.1) = true := by simp
  rw [hself]
  clear hself
  go_wp2
  go_ret
  exact ⟨rfl, bdrewN b03 nq⟩

theorem frameOpens_c {S : Foot} {va : Value} {la : List UInt8} {w : World} (ha : Sl u8E S w va la) (ht : Tab w) (hz : la.length ≤ 140737488351232) :
    Calls Tryd.prog 5 #[va] w fun e w' => e = .returned (.bool true) ∧ Below w.heap.size w w' := by
  have hal := Lib.hid (alive_c ht)
  go_enter Tryd.func5, Tryd.ntmps5
  go_wp2_with fail
  refine hal.out.mono ?_
  rintro e w1 ⟨rfl, b1⟩
  have ha1 := ha.below b1 (Nat.le_refl _)
  go_wp2_with fail
  refine (copy_c ha1 (by omega)).mono ?_
  rintro e w2 ⟨v2, rfl, o2, b2⟩
  have b02 := bstep b1 b2
  have ht2 := ht.below b02 (Nat.le_refl _)
  go_wp2_with fail
  refine (open_c o2.slAny ht2).mono ?_
  rintro e w3 ⟨v3, rfl, o3, b3⟩
  have b03 := bstep b02 b3
  have ha3 := ha.below b03 (Nat.le_refl _)
  go_wp2_with fail
  refine (ropen_c ha3).mono ?_
  rintro e w4 ⟨v4, rfl, o4, b4⟩
  have b04 := bstep b03 b4
  have b24 := bstep b3 b4
  have ht4 := ht.below b04 (Nat.le_refl _)
  have o24 := o2.below b24 (Nat.le_refl _)
  go_wp2_with fail
  refine (whole_c o24.slAny ht4).mono ?_
  rintro e w5 ⟨v5, rfl, o5, b5⟩
  have b05 := bstep b04 b5
  have ha5 := ha.below b05 (Nat.le_refl _)
  go_wp2_with fail
  refine (rwhole_c ha5).mono ?_
  rintro e w6 ⟨v6, rfl, o6, b6⟩
  have b36 := bstep (bstep b4 b5) b6
  have o3' := o3.below b36 (Nat.le_refl _)
  have o4' := o4.below (bstep b5 b6) (Nat.le_refl _)
  have o5' := o5.below b6 (Nat.le_refl _)
  have b06 := bstep b05 b6
  generalize openE la = oE at *
  generalize openN la = oN at *
  generalize wholeE la = wE at *
  go_wp2_with fail
  refine (same_c o3'.slAny o4'.slAny).mono ?_
  rintro e w7 ⟨rfl, rfl⟩
  have hself : (openP la == openP la) = true := by simp
  rw [hself]
  clear hself
  go_wp2_with fail
  refine (same_c o5'.slAny o6.slAny).mono ?_
  rintro e w7 ⟨rfl, rfl⟩
  have hself : (wholeP la == wholeP la) = true := by simp
  rw [hself]
  clear hself
  obtain ⟨A3, c3, hv3, hc3, hm3, _⟩ := o3'.slAny.shape
  unfold maxLen at hm3
  generalize hn3 : (openP la).length = n3 at *
  subst hv3
  go_wp2
  go_loopw [15] (fun i wr => ∃ (k : Nat) (ls : List UInt8), ls.length = n3 ∧ i = .int .i64 k ∧ k ≤ n3 ∧ Own u8E Any wr w2.heap.size 5 (.slice A3 n3 c3) ls ∧ Below w2.heap.size w6 wr) (fun i _ => n3 - (intOf i).toNat)
  case atStart => exact ⟨0, _, hn3, rfl, Nat.zero_le _, o3', Below.refl _ _⟩
  case round =>
    obtain ⟨k, ls, hls, rfl, hk, hown, hbel⟩ := hrel
    by_cases hlt : k < n3
    · obtain ⟨g, cap, hv, hg, hgl, hcell, hfr, hset⟩ := hown.byteCell (i := k) (by omega)
      have hv' := hv
      injection hv' with hv1 hv2 hv3
      subst hv1 hv3
      have hset' := hset (xr (ls[k]'(by omega)) 255)
      have HS := Lib.hid (show (ls.set k (xr (ls[k]'(by omega)) 255)).length = n3 by rw [List.length_set]; exact hls)
      clear hset hown hv hv2
      generalize ls[k]'(by omega) = x at *
      clear hls hn3
      go_wp2
      go_roundw
      case rel => exact ⟨k + 1, _, HS.out, by go_num, by omega, hset', hbel.setCell hg _⟩
      case measure => simp [intOf]; omega
    · have bw : Below w2.heap.size w2 wr := (bstep b3 b36).trans hbel
      have h2 := o2.below bw (Nat.le_refl _)
      have h0 := ha.below (bstep b02 bw) (Nat.le_refl _)
      have hs := Lib.hid (same_c h2.slAny h0)
      have hself : (la == la) = true := by simp
      rw [hself] at hs
      clear hself hls hn3
      go_wp2_with (go_at_call 15; refine hs.out.mono ?_; rintro e w5 ⟨rfl, rfl⟩)
      go_ret
      exact ⟨rfl, bstep b02 bw⟩
end Go.Proofs.YtameigjggdagpaaDoor
