/- The frame layer's laws, walked: FrameSums. -/
import Derived.Test.YtameigjggdagpaaDoorFla
namespace Go.Proofs.YtameigjggdagpaaDoor
open Go.RowKit

theorem frameSums_c {S S' : Foot} {va vb : Value} {la lb : List UInt8} {w : World} (ha : Sl u8E S w va la) (hb : Sl u8E S' w vb lb) (ht : Tab w) :
    Calls Tryd.prog 3 #[va, vb] w fun e w' => e = .returned (.bool true) ∧ Below w.heap.size w w' := by
  obtain ⟨i0, hi, hz0, hz1, hz2⟩ := info_parts slice_info
  have hal := Lib.hid (alive_c ht)
  obtain ⟨A, cap, rfl, hc1, hc2, _⟩ := ha.shape
  obtain ⟨A', cap', rfl, hc1', hc2', _⟩ := hb.shape
  by_cases h1 : 65536 < la.length
  · have d1 : decide ((65536 : Int) < (la.length : Int)) = true := by simp; omega
    go_enter Tryd.func3, Tryd.ntmps3
    go_wp2_with (go_at_call 9; refine hal.out.mono ?_; rintro e w1 ⟨rfl, b1⟩)
    go_ret
    exact ⟨rfl, b1⟩
  have d1 : decide ((65536 : Int) < (la.length : Int)) = false := by simp; omega
  by_cases h2 : 65536 < lb.length
  · have d2 : decide ((65536 : Int) < (lb.length : Int)) = true := by simp; omega
    go_enter Tryd.func3, Tryd.ntmps3
    go_wp2_with (go_at_call 9; refine hal.out.mono ?_; rintro e w1 ⟨rfl, b1⟩)
    go_ret
    exact ⟨rfl, b1⟩
  have d2 : decide ((65536 : Int) < (lb.length : Int)) = false := by simp; omega
  go_enter Tryd.func3, Tryd.ntmps3
  go_wp2_with fail
  refine hal.out.mono ?_
  rintro e w1 ⟨rfl, b1⟩
  have ha1 := ha.below b1 (Nat.le_refl _)
  go_wp2_with fail
  refine (copy_c ha1 (by omega)).mono ?_
  rintro e w2 ⟨v2, rfl, o2, b2⟩
  have b02 := bstep b1 b2
  have hb2 := hb.below b02 (Nat.le_refl _)
  have lt2 := o2.lt
  obtain ⟨xs2, ho2, hr2⟩ := o2
  go_wp2_with (at_builtin; refine wpList_append_sl _ rfl (.tmp 17) (.tmp 18) 22 rfl (E := u8E) (base := w1.heap.size) Tryd.underlying22 hi hz0 hz1 hz2 rfl ho2 hb2 rfl rfl (by simp only [maxLen]; omega) (by omega) b2.size ?_; intro v3 w3 ys ho3 hr3 hg3 hbl3)
  have b3 : Below w1.heap.size w2 w3 := bgrown hg3 b2.size (fun k hk => (lt2 k hk).1)
  have o3 : Own u8E Any w3 w1.heap.size 5 v3 (la ++ lb) := ⟨_, ho3, Reps.append ⟨hr2.1, hr2.2⟩ ⟨hr3.1, hr3.2⟩⟩
  have b03 := bstep b1 (b2.trans b3)
  have ht3 := ht.below b03 (Nat.le_refl _)
  have ha3 := ha.below b03 (Nat.le_refl _)
  refine (sum_c o3.slAny ht3).mono ?_
  rintro e w4 ⟨rfl, rfl⟩
  go_wp2_with fail
  refine (rsum_c o3.slAny).mono ?_
  rintro e w4 ⟨rfl, rfl⟩
  go_wp2_with fail
  refine (sum_c ha3 ht3).mono ?_
  rintro e w4 ⟨rfl, rfl⟩
  go_wp2_with fail
  refine (rsum_c ha3).mono ?_
  rintro e w4 ⟨rfl, rfl⟩
  go_wp2_with fail
  go_ret
  exact ⟨rfl, b03⟩
end Go.Proofs.YtameigjggdagpaaDoor
