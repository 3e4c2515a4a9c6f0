/- The frame layer: Seal (the program's and the document's), by what it returns. -/
import Derived.Test.YtameigjggdagpaaDoorFrm
namespace Go.Proofs.YtameigjggdagpaaDoor
open Go.RowKit

def sealed (p : List UInt8) : List UInt8 := be4 p.length ++ be4 (crc (be4 p.length ++ p)).toNat ++ p
def sealB (p : List UInt8) : List UInt8 := if 1048576 < p.length then [] else sealed p
def sealE (p : List UInt8) : Int := if 1048576 < p.length then 1 else 0
theorem crc_lt (l : List UInt8) : (crc l).toNat < 4294967296 := (crc l).isLt
theorem be4_length (m : Nat) : (be4 m).length = 4 := rfl
theorem sealed_length (p : List UInt8) : (sealed p).length = 8 + p.length := by simp [sealed, be4_length]; omega

attribute [local go_sem] u32_notB

/-- Seal, a payload that fits. -/
theorem seal_ok {S : Foot} {v : Value} {l : List UInt8} {w : World} (hp : Sl u8E S w v l) (ht : Tab w) (hl : l.length ≤ 1048576) :
    Calls Tryd.prog 13 #[v] w fun e w' => ∃ v', e = .returned (.tuple #[v', .int .i64 0]) ∧ Own u8E Any w' w.heap.size 5 v' (sealed l) ∧ Below w.heap.size w w' := by
  obtain ⟨i0, hi, hz0, hz1, hz2⟩ := info_parts slice_info
  obtain ⟨A, cap, rfl, _, _, _⟩ := hp.shape
  have hcr := crc_lt (be4 l.length ++ l)

  go_enter Tryd.func13, Tryd.ntmps13
  go_wp2_with (at_make; refine wpList_make_own _ rfl _ _ 22 rfl w.heap.size 5 i0 _ 1 Tryd.underlying22 hi hz0 hz1 _ _ _ (8 + l.length) rfl rfl (by omega) (by rw [hz2]; omega) (by unfold maxLen; omega) (Nat.le_refl _) ?_; intro w1 ho1 hg1)
  have hb1 : Below w.heap.size w w1 := bgrown hg1 (Nat.le_refl _) (by simp)
  have o1 : Own u8E Any w1 w.heap.size 5 (.slice (some ⟨w.heap.size, 0, none⟩) 0 (8 + l.length)) [] := ⟨[], ho1, Reps.nil⟩
  clear ho1 hg1
  refine (four_c (m := l.length) o1 hb1.size (by simp) (by omega)).mono ?_
  rintro e w2 ⟨v2, rfl, ho2, hb2⟩
  have hb02 := hb1.trans hb2
  have h2 := hp.below hb02 (Nat.le_refl _)
  have ht2 := ht.below hb02 (Nat.le_refl _)
  have ho2' : Own u8E Any w2 w.heap.size 5 v2 (be4 l.length) := ho2
  clear ho2
  go_wp2_with fail
  refine (more_c ini ho2'.slAny ht2).mono ?_
  rintro e w3 ⟨rfl, rfl⟩
  go_wp2_with fail
  refine (more_c _ h2 ht2).mono ?_
  rintro e w3 ⟨rfl, rfl⟩
  go_wp2_with fail
  rw [← crc_append]
  refine (four_c ho2' hb02.size (by simp only [be4_length]; omega) hcr).mono ?_
  rintro e w3 ⟨v3, rfl, ho3, hb3⟩
  have hb03 := hb02.trans hb3
  have h3 := hp.below hb03 (Nat.le_refl _)
  obtain ⟨xs3, hx3, hr3⟩ := ho3
  have hlt3 := hx3.lt
  go_wp2_with (at_builtin; refine wpList_append_sl _ rfl (.tmp 23) (.tmp 24) 22 rfl (E := u8E) (base := w.heap.size) Tryd.underlying22 hi hz0 hz1 hz2 rfl hx3 h3 rfl rfl (by simp only [maxLen, be4_length, List.length_append]; omega) (by simp only [be4_length, List.length_append]; omega) hb03.size ?_; intro v4 w4 ys ho4 hr4 hg4 hbl)
  go_ret2
  refine ⟨v4, rfl, ⟨_, ho4, ?_⟩, hb03.grown hg4 hb03.size (fun k hk => (hlt3 k hk).1)⟩
  exact Reps.append ⟨hr3.1, hr3.2⟩ ⟨hr4.1, hr4.2⟩

/-- Seal, whatever the payload. -/
theorem seal_c {S : Foot} {v : Value} {l : List UInt8} {w : World} (hp : Sl u8E S w v l) (ht : Tab w) :
    Calls Tryd.prog 13 #[v] w fun e w' => ∃ v', e = .returned (.tuple #[v', .int .i64 (sealE l)]) ∧ Own u8E Any w' w.heap.size 5 v' (sealB l) ∧ Below w.heap.size w w' := by
  by_cases hl : l.length ≤ 1048576
  · rw [sealE, sealB, if_neg (by omega), if_neg (by omega)]
    exact seal_ok hp ht hl
  · rw [sealE, sealB, if_pos (by omega), if_pos (by omega)]
    obtain ⟨A, cap, rfl, _, _, _⟩ := hp.shape
    have hlt : (1048576 : Int) < (l.length : Int) := by omega
    go_enter Tryd.func13, Tryd.ntmps13
    go_wp2
    go_ret2
    exact ⟨_, rfl, Own.nil, Below.refl _ _⟩

/-- the document's Seal, a payload that fits. -/
theorem rseal_ok {S : Foot} {v : Value} {l : List UInt8} {w : World} (hp : Sl u8E S w v l) (hl : l.length ≤ 1048576) :
    Calls Tryd.prog 14 #[v] w fun e w' => ∃ v', e = .returned (.tuple #[v', .int .i64 0]) ∧ Own u8E Any w' w.heap.size 5 v' (sealed l) ∧ Below w.heap.size w w' := by
  obtain ⟨i0, hi, hz0, hz1, hz2⟩ := info_parts slice_info
  obtain ⟨A, cap, rfl, _, _, _⟩ := hp.shape
  have hcr := crc_lt (be4 l.length ++ l)
  go_enter Tryd.func14, Tryd.ntmps14
  go_wp2_with fail
  refine (rfour_c (m := l.length) (by omega)).mono ?_
  rintro e w1 ⟨v1, rfl, o1, b1⟩
  go_wp2_with fail
  refine (copy_c o1.slAny (by rw [be4_length]; omega)).mono ?_
  rintro e w2 ⟨v2, rfl, o2, b2⟩
  have o1' := o1.below b2 (Nat.le_refl _)
  go_wp2_with fail
  refine (copy_c o1'.slAny (by rw [be4_length]; omega)).mono ?_
  rintro e w3 ⟨v3, rfl, o3, b3⟩
  have b03 := bstep (bstep b1 b2) b3
  have hp3 := hp.below b03 (Nat.le_refl _)
  have lt3 := o3.lt
  obtain ⟨xs3, ho3, hr3⟩ := o3
  go_wp2_with (at_builtin; refine wpList_append_sl _ rfl (.tmp 16) (.tmp 17) 22 rfl (E := u8E) (base := w2.heap.size) Tryd.underlying22 hi hz0 hz1 hz2 rfl ho3 hp3 rfl rfl (by simp only [maxLen, be4_length]; omega) (by simp only [be4_length]; omega) b3.size ?_; intro v4 w4 ys4 ho4 hr4 hg4 hbl4)
  have b4 : Below w2.heap.size w3 w4 := bgrown hg4 b3.size (fun k hk => (lt3 k hk).1)
  have o4 : Own u8E Any w4 w2.heap.size 5 v4 (be4 l.length ++ l) := ⟨_, ho4, Reps.append ⟨hr3.1, hr3.2⟩ ⟨hr4.1, hr4.2⟩⟩
  have b24 := b3.trans b4
  have b04 := bstep (bstep b1 b2) b24
  have o2' := o2.below b24 (Nat.le_refl _)
  clear hg4 hbl4 ho4 hr4 ho3 hr3 lt3
  go_wp2_with fail
  refine (rsum_c o4.slAny).mono ?_
  rintro e w5 ⟨rfl, rfl⟩
  go_wp2_with fail
  refine (rfour_c hcr).mono ?_
  rintro e w5 ⟨v5, rfl, o5, b5⟩
  have o2'' := o2'.below b5 (Nat.le_refl _)
  have lt2 := o2''.lt
  have b15 := bstep (bstep b2 b24) b5
  obtain ⟨xs2, ho2, hr2⟩ := o2''
  go_wp2_with (first
    | (at_builtin
       refine wpList_append_sl _ rfl (.tmp 14) (.tmp 20) 22 rfl (E := u8E) (base := w1.heap.size) Tryd.underlying22 hi hz0 hz1 hz2 rfl ho2 o5.slAny rfl rfl (by simp only [maxLen, be4_length]; omega) (by simp only [be4_length]; omega) b15.size ?_
       intro v6 w6 ys6 ho6 hr6 hg6 hbl6
       have b6 : Below w1.heap.size w5 w6 := bgrown hg6 b15.size (fun k hk => (lt2 k hk).1)
       have o6 : Own u8E Any w6 w1.heap.size 5 v6 (be4 l.length ++ be4 (crc (be4 l.length ++ l)).toNat) := ⟨_, ho6, Reps.append ⟨hr2.1, hr2.2⟩ ⟨hr6.1, hr6.2⟩⟩
       have b16 := b15.trans b6
       have b06 := bstep b1 b16
       have hp6 := hp.below b06 (Nat.le_refl _)
       have lt6 := o6.lt
       clear hg6 hbl6 ho6 hr6
       obtain ⟨xs6, ho6, hr6⟩ := o6)
    | (at_builtin
       refine wpList_append_sl _ rfl (.tmp 22) (.tmp 23) 22 rfl (E := u8E) (base := w1.heap.size) Tryd.underlying22 hi hz0 hz1 hz2 rfl ho6 hp6 rfl rfl (by simp only [maxLen, be4_length, List.length_append]; omega) (by simp only [be4_length, List.length_append]; omega) b16.size ?_
       intro v7 w7 ys7 ho7 hr7 hg7 hbl7))
  have b7 : Below w1.heap.size w6 w7 := bgrown hg7 b16.size (fun k hk => (lt6 k hk).1)
  have o7 : Own u8E Any w7 w1.heap.size 5 v7 (sealed l) := ⟨_, ho7, Reps.append ⟨hr6.1, hr6.2⟩ ⟨hr7.1, hr7.2⟩⟩
  go_ret2
  exact ⟨v7, rfl, o7.base_mono b1.size, bstep b1 (b16.trans b7)⟩

/-- the document's Seal, whatever the payload. -/
theorem rseal_c {S : Foot} {v : Value} {l : List UInt8} {w : World} (hp : Sl u8E S w v l) :
    Calls Tryd.prog 14 #[v] w fun e w' => ∃ v', e = .returned (.tuple #[v', .int .i64 (sealE l)]) ∧ Own u8E Any w' w.heap.size 5 v' (sealB l) ∧ Below w.heap.size w w' := by
  by_cases hl : l.length ≤ 1048576
  · rw [sealE, sealB, if_neg (by omega), if_neg (by omega)]
    exact rseal_ok hp hl
  · rw [sealE, sealB, if_pos (by omega), if_pos (by omega)]
    obtain ⟨A, cap, rfl, _, _, _⟩ := hp.shape
    have hlt : (1048576 : Int) < (l.length : Int) := by omega
    go_enter Tryd.func14, Tryd.ntmps14
    go_wp2
    go_ret2
    exact ⟨_, rfl, Own.nil, Below.refl _ _⟩
end Go.Proofs.YtameigjggdagpaaDoor
