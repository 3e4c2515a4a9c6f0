/- The frame layer: the document's Open, both Whole, both Cut, Lists, by what they return. -/
import Derived.Test.YtameigjggdagpaaDoorFrc
namespace Go.Proofs.YtameigjggdagpaaDoor
open Go.RowKit

theorem be4_num {l : List UInt8} (h : 4 ≤ l.length) : be4 (num l) = l.take 4 := by
  match l, h with
  | x0 :: x1 :: x2 :: x3 :: r, _ =>
    have h0 := x0.toNat_lt
    have h1 := x1.toNat_lt
    have h2 := x2.toNat_lt
    have h3 := x3.toNat_lt
    simp only [num, numK, be4, List.take_succ_cons, List.take_zero, List.foldl_cons, List.foldl_nil]
    congr 1
    · apply UInt8.toNat_inj.1; rw [ofNat8]; omega
    congr 1
    · apply UInt8.toNat_inj.1; rw [ofNat8]; omega
    congr 1
    · apply UInt8.toNat_inj.1; rw [ofNat8]; omega
    congr 1
    · apply UInt8.toNat_inj.1; rw [ofNat8]; omega

/-- the frame is there just where the sums agree -/
theorem sealed_iff {l : List UInt8} (h8 : 8 ≤ l.length) (hl : 8 + num l ≤ l.length) :
    (sealed (payload l) == l.take (8 + num l)) = decide ((crc (l.take 4 ++ payload l)).toNat = num (l.drop 4)) := by
  have hpl : (payload l).length = num l := by unfold payload; rw [List.length_take, List.length_drop]; omega
  have e1 : l.take (8 + num l) = l.take 4 ++ ((l.drop 4).take 4 ++ payload l) := by
    unfold payload
    have a : l.take (8 + num l) = l.take 8 ++ (l.drop 8).take (num l) := by rw [List.take_add]
    have b : l.take 8 = l.take 4 ++ (l.drop 4).take 4 := by rw [show 8 = 4 + 4 from rfl, List.take_add]
    rw [a, b, List.append_assoc]
  have e2 : sealed (payload l) = l.take 4 ++ (be4 (crc (l.take 4 ++ payload l)).toNat ++ payload l) := by
    unfold sealed
    rw [hpl, be4_num (by omega), List.append_assoc]
  rw [e1, e2, Bool.eq_iff_iff, beq_iff_eq, decide_eq_true_iff]
  rw [List.append_cancel_left_eq, List.append_cancel_right_eq]
  constructor
  · intro h
    have := num_be4 (crc_lt (l.take 4 ++ payload l)) []
    rw [List.append_nil, h] at this
    have e : num ((l.drop 4).take 4) = num (l.drop 4) := by unfold num; rw [List.take_take]; rfl
    omega
  · intro h
    rw [h, be4_num (by rw [List.length_drop]; omega)]

/-- the document's Open -/
theorem ropen_c {S : Foot} {v : Value} {l : List UInt8} {w : World} (hp : Sl u8E S w v l) :
    Calls Tryd.prog 17 #[v] w fun e w' => ∃ v', e = .returned (.tuple #[v', .int .i64 (openN l : Int), .int .i64 (openE l)]) ∧ Own u8E Any w' w.heap.size 5 v' (openP l) ∧ Below w.heap.size w w' := by
  obtain ⟨i0, hi, hz0, hz1, hz2⟩ := info_parts slice_info
  by_cases h8 : l.length < 8
  · have hE : openE l = 5 := by unfold openE; rw [if_pos h8]
    unfold openN openP
    rw [hE, if_neg (by decide), if_neg (by decide)]
    obtain ⟨A, cap, rfl, hc1, hc2, _⟩ := hp.shape
    have hlt : (l.length : Int) < 8 := by omega
    go_enter Tryd.func17, Tryd.ntmps17
    go_wp2
    go_ret3
    exact ⟨_, rfl, Own.nil, Below.refl _ _⟩
  by_cases hn : 1048576 < num l
  · have hE : openE l = 4 := by unfold openE; rw [if_neg h8, if_pos hn]
    unfold openN openP
    rw [hE, if_neg (by decide), if_neg (by decide)]
    have hnum := Lib.hid (length_c hp (by omega))
    obtain ⟨A, cap, rfl, hc1, hc2, _⟩ := hp.shape
    have hnl := num_lt l
    go_enter Tryd.func17, Tryd.ntmps17
    go_wp2_with (go_at_call 28; refine hnum.out.mono ?_; rintro e w1 ⟨rfl, nq, rfl⟩)
    go_ret3
    exact ⟨_, rfl, Own.nil, bdrewN (Below.refl _ _) _⟩
  by_cases hl : l.length < 8 + num l
  · have hE : openE l = 5 := by unfold openE; rw [if_neg h8, if_neg hn, if_pos hl]
    unfold openN openP
    rw [hE, if_neg (by decide), if_neg (by decide)]
    have hnum := Lib.hid (length_c hp (by omega))
    obtain ⟨A, cap, rfl, hc1, hc2, _⟩ := hp.shape
    unfold maxLen at hc2
    have hnl := num_lt l
    go_enter Tryd.func17, Tryd.ntmps17
    go_wp2_with (go_at_call 28; refine hnum.out.mono ?_; rintro e w1 ⟨rfl, nq, rfl⟩)
    go_ret3
    exact ⟨_, rfl, Own.nil, bdrewN (Below.refl _ _) _⟩
  have hnum := Lib.hid (length_c hp (by omega))
  have hpl : (payload l).length = num l := by unfold payload; rw [List.length_take, List.length_drop]; omega
  have hiff := Lib.hid (sealed_iff (l := l) (by omega) (by omega))
  have hE : openE l = if (crc (l.take 4 ++ payload l)).toNat = num (l.drop 4) then 0 else 6 := by
    unfold openE
    rw [if_neg h8, if_neg hn, if_neg hl]
  obtain ⟨A, cap, rfl, hc1, hc2, _⟩ := hp.shape
  unfold maxLen at hc2
  have hN : openN l = if openE l = 0 then 8 + num l else 0 := rfl
  have hP : openP l = if openE l = 0 then payload l else [] := rfl
  have hpay : payload l = (l.drop 8).take (num l) := rfl
  generalize hnn : num l = n at *
  obtain ⟨A1, c1, s1, r1⟩ := hp.cut_lh Tryd.underlying22 hi hz1 (lo := 8) (hi := 8 + n) (by omega) (by omega) (L := 8) (H := 8 + (n : Int)) rfl (by omega)
  obtain ⟨A2, c2, s2, r2⟩ := hp.cut_h Tryd.underlying22 hi hz1 (hi := 8 + n) (by omega) (H := 8 + (n : Int)) (by omega)
  rw [show 8 + n - 8 = n by omega] at s1 r1
  rw [List.drop_take, show 8 + n - 8 = n by omega, ← hpay] at s1
  have HE := Lib.hid hE
  have HN := Lib.hid hN
  have HP := Lib.hid hP
  have HPL := Lib.hid hpl
  clear hE hN hP hpl hpay hnn
  go_enter Tryd.func17, Tryd.ntmps17
  go_wp2_with fail
  refine hnum.out.mono ?_
  rintro e w1 ⟨rfl, nq, rfl⟩
  clear hnum
  go_wp2_with fail
  refine (copy_c (s1.drewN nq) (by rw [HPL.out]; omega)).mono ?_
  rintro e w1 ⟨v1, rfl, o1, b1⟩
  go_wp2_with fail
  refine (rseal_ok o1.slAny (by rw [HPL.out]; omega)).mono ?_
  rintro e w2 ⟨v2, rfl, o2, b2⟩
  have b02 := bstep ((bdrewN (Below.refl w.heap.size w) nq)) (bstep b1 b2)
  have s2' := s2.below b02 (Nat.le_refl _)
  have o1' := o1.below b2 (Nat.le_refl _)
  go_wp2_with fail
  refine (same_c o2.slAny s2').mono ?_
  rintro e w3 ⟨rfl, rfl⟩
  rw [hiff.out]
  by_cases hs : (crc (l.take 4 ++ payload l)).toNat = num (l.drop 4)
  · have hd : decide ((crc (l.take 4 ++ payload l)).toNat = num (l.drop 4)) = true := decide_eq_true hs
    rw [hd]
    have hEE := Lib.hid (show openE l = 0 by rw [HE.out, if_pos hs])
    clear hs hd HE hiff
    go_wp2
    go_ret3
    refine ⟨v1, ?_, ?_, b02⟩
    · rw [HN.out, hEE.out, if_pos rfl]; rfl
    · rw [HP.out, hEE.out, if_pos rfl]; exact o1'.base_mono (by simp)
  · have hd : decide ((crc (l.take 4 ++ payload l)).toNat = num (l.drop 4)) = false := decide_eq_false hs
    rw [hd]
    have hEE := Lib.hid (show openE l = 6 by rw [HE.out, if_neg hs])
    clear hs hd HE hiff
    go_wp2
    go_ret3
    refine ⟨.slice none 0 0, ?_, ?_, b02⟩
    · rw [HN.out, hEE.out, if_neg (by decide)]; rfl
    · rw [HP.out, hEE.out, if_neg (by decide)]; exact Own.nil
end Go.Proofs.YtameigjggdagpaaDoor
