/- Bodies: lists of one's own (Copy, Forget), whether two lists are the same. -/
import Derived.Test.YtjcbheeihckgmaaBodf
namespace Go.Proofs.Ytjcbheeihckgmaa
open Go.RowKit

theorem bd_info : (Try.prog.info? 38).map (fun i => (i.zero, i.size, i.bytes)) = some (some (.agg #[.int .i64 0, .int .i64 0, .int .i64 0, .slice none 0 0]), 4, 48) := by kernel_rfl

def forget (l : List Bd) (o : Int) : List Bd := l.filter fun b => decide (b.o ≠ o)
theorem forget_snoc {l : List Bd} {k : Nat} (o : Int) (h : k < l.length) : forget (l.take (k + 1)) o = if l[k].o = o then forget (l.take k) o else forget (l.take k) o ++ [l[k]] := by
  unfold forget
  rw [List.take_succ_eq_append_getElem h, List.filter_append]
  by_cases h : l[k].o = o <;> simp [h]
theorem forget_len (l : List Bd) (o : Int) : (forget l o).length ≤ l.length := List.length_filter_le _ _
theorem val_le {l : List Bd} {k : Nat} (h : k < l.length) : l[k].v.length ≤ used l := by
  have h1 := used_snoc h
  have h2 := used_le (l := l) (k + 1)
  omega

/-- an object's body goes: the program's -/
theorem forget_c {S : Foot} {v : Value} {l : List Bd} (o : Int) {w : World} (hp : Sl bdE S w v l) (hl : l.length ≤ 1048576) (hu : used l ≤ 1048576) :
    Calls Try.prog 16 #[v, .int .i64 o] w fun e w' => ∃ v', e = .returned v' ∧ Own bdE (HiN w.heap.size v'.ownBlock) w' w.heap.size 38 v' (forget l o) ∧ Below w.heap.size w w' := by
  obtain ⟨i0, hi, hz0, hz1, hz2⟩ := info_parts bd_info
  obtain ⟨A, cap, rfl, hc1, hc2, _⟩ := hp.shape
  unfold maxLen at hc2
  go_enter Try.func16, Try.ntmps16
  go_wp2
  go_loopw [5, 10] (fun v i wr => ∃ k : Nat, k ≤ l.length ∧ i = .int .i64 k ∧ Own bdE (HiN w.heap.size v.ownBlock) wr w.heap.size 38 v (forget (l.take k) o) ∧ Below w.heap.size w wr) (fun _ i _ => l.length - (intOf i).toNat)
  case atStart => exact ⟨0, Nat.zero_le _, rfl, Own.nil, Below.refl _ _⟩
  case round =>
    obtain ⟨k, hk, rfl, hown, hbr⟩ := hrel
    by_cases hlt : k < l.length
    · obtain ⟨b, off, Av, cv, rfl, a0, a1, a2, a3, hv⟩ := (hp.below hbr (Nat.le_refl _)).body hlt
      have c0 := a0.cell
      have c1 := a1.cell
      have c2 := a2.cell
      have c3 := a3.cell
      have hvl := Lib.hid (val_le hlt)
      have HS0 := forget_snoc o hlt
      have hfl := forget_len (l.take k) o
      have hll : (l.take k).length ≤ l.length := by rw [List.length_take]; omega
      have HK := Lib.hid hfl
      clear hfl a0 a1 a2 a3
      generalize hx : l[k] = x at *
      have HX := Lib.hid hx
      clear hx
      by_cases ho : x.o = o
      · have hb : ((x.o : Int) != o) = false := by rw [ho]; simp
        rw [if_pos ho] at HS0
        have HS := Lib.hid HS0
        clear HS0 ho
        go_wp2
        go_roundw
        case rel => exact ⟨k + 1, by omega, by go_num, by rw [HS.out]; exact hown.alloc _, (hbr.alloc hbr.size _)⟩
        case measure => simp [intOf]; omega
      · have hb : ((x.o : Int) != o) = true := by rw [bne_iff_ne]; exact ho
        rw [if_neg ho] at HS0
        have HS := Lib.hid HS0
        clear HS0 ho
        go_wp2_with fail
        refine (twin_c (hv.below (B := wr.heap.size) ((Below.refl _ _).alloc (Nat.le_refl _) _) (Nat.le_refl _)) (by have := hvl.out; omega)).mono ?_
        rintro e w1 ⟨A1, c1', rfl, o1, b1⟩
        have hbw : Below w.heap.size w (wr.alloc (.cells #[.int .i64 x.o, .int .i64 x.c, .int .i64 x.n, .slice Av x.v.length cv] 38)) := (hbr.alloc hbr.size _)
        have hb1 := bstep hbw b1
        have hown1 := (hown.alloc _).below b1 (Nat.le_refl _)
        have hlt1 := hown.lt
        have hsz : wr.heap.size ≤ (wr.alloc (.cells #[.int .i64 x.o, .int .i64 x.c, .int .i64 x.n, .slice Av x.v.length cv] 38)).heap.size := by simp
        have hsl : Sl u8E (HiN w.heap.size u5.ownBlock) w1 (.slice A1 x.v.length c1') x.v := o1.byteSl (fun g h1 h2 => ⟨by have := hbr.size; omega, rfl, fun hc => by have := hlt1 g hc.symm; omega⟩)
        have hsl2 := hsl.below (B := w1.heap.size) ((Below.refl _ _).alloc (Nat.le_refl _) (.cells #[.int .i64 x.o, .int .i64 x.c, .int .i64 x.n, .slice A1 x.v.length c1'] 38)) (Nat.le_refl _)
        have hrd : bdE.rd (HiN w.heap.size u5.ownBlock) (w1.alloc (.cells #[.int .i64 x.o, .int .i64 x.c, .int .i64 x.n, .slice A1 x.v.length c1'] 38)) [.int .i64 x.o, .int .i64 x.c, .int .i64 x.n, .slice A1 x.v.length c1'] x := ⟨_, rfl, hsl2⟩
        go_wp2_with (at_builtin; refine wpList_append_one _ rfl (.tmp 18) (.tmp 21) 22 rfl (E := bdE) (base := w.heap.size) Try.underlying22 hi hz0 hz1 hz2 rfl (hown1.alloc _) hrd (new_cells w1 [.int .i64 x.o, .int .i64 x.c, .int .i64 x.n, .slice A1 x.v.length c1'] 38) rfl rfl (by have := HK.out; unfold maxLen; omega) (by have := HK.out; omega) (by have := hb1.size; simp; omega) ?_; intro v3 w3 hown3 hb3 hbl3 hg3)
        go_roundw
        case rel => exact ⟨k + 1, by omega, by go_num, by rw [HS.out]; exact hown3, (hb1.alloc hb1.size _).trans hb3⟩
        case measure => simp [intOf]; omega
    · have hkl := Lib.hid (show k = l.length by omega)
      go_wp2
      go_ret
      have e := hkl.out
      subst e
      rw [List.take_length] at hown
      exact ⟨_, rfl, hown, hbr⟩

/-- an object's body goes: the document's -/
theorem rforget_c {S : Foot} {v : Value} {l : List Bd} (o : Int) {w : World} (hp : Sl bdE S w v l) (hl : l.length ≤ 1048576) (hu : used l ≤ 1048576) :
    Calls Try.prog 17 #[v, .int .i64 o] w fun e w' => ∃ v', e = .returned v' ∧ Own bdE (HiN w.heap.size v'.ownBlock) w' w.heap.size 38 v' (forget l o) ∧ Below w.heap.size w w' := by
  obtain ⟨i0, hi, hz0, hz1, hz2⟩ := info_parts bd_info
  obtain ⟨A, cap, rfl, hc1, hc2, _⟩ := hp.shape
  unfold maxLen at hc2
  go_enter Try.func17, Try.ntmps17
  go_wp2
  go_loopw [5, 6] (fun v i wr => ∃ k : Nat, k ≤ l.length ∧ i = .int .i64 k ∧ Own bdE (HiN w.heap.size v.ownBlock) wr w.heap.size 38 v (forget (l.take k) o) ∧ Below w.heap.size w wr) (fun _ i _ => l.length - (intOf i).toNat)
  case atStart => exact ⟨0, Nat.zero_le _, rfl, Own.nil, Below.refl _ _⟩
  case round =>
    obtain ⟨k, hk, rfl, hown, hbr⟩ := hrel
    by_cases hlt : k < l.length
    · obtain ⟨b, off, Av, cv, rfl, a0, a1, a2, a3, hv⟩ := (hp.below hbr (Nat.le_refl _)).body hlt
      have c0 := a0.cell
      have c1 := a1.cell
      have c2 := a2.cell
      have c3 := a3.cell
      have hvl := Lib.hid (val_le hlt)
      have HS0 := forget_snoc o hlt
      have hfl := forget_len (l.take k) o
      have hll : (l.take k).length ≤ l.length := by rw [List.length_take]; omega
      have HK := Lib.hid hfl
      clear hfl a0 a1 a2 a3
      generalize hx : l[k] = x at *
      have HX := Lib.hid hx
      clear hx
      by_cases ho : x.o = o
      · have hb : ((x.o : Int) != o) = false := by rw [ho]; simp
        rw [if_pos ho] at HS0
        have HS := Lib.hid HS0
        clear HS0 ho
        go_wp2
        go_roundw
        case rel => exact ⟨k + 1, by omega, by go_num, by rw [HS.out]; exact hown, hbr⟩
        case measure => simp [intOf]; omega
      · have hb : ((x.o : Int) != o) = true := by rw [bne_iff_ne]; exact ho
        rw [if_neg ho] at HS0
        have HS := Lib.hid HS0
        clear HS0 ho
        go_wp2_with fail
        refine (rbody_c hv (by have := hvl.out; omega)).mono ?_
        rintro e w1 ⟨A1, c1', rfl, o1, b1⟩
        have hbw : Below w.heap.size w wr := hbr
        have hb1 := bstep hbw b1
        have hown1 := (hown).below b1 (Nat.le_refl _)
        have hlt1 := hown.lt
        have hsz : wr.heap.size ≤ wr.heap.size := by simp
        have hsl : Sl u8E (HiN w.heap.size u5.ownBlock) w1 (.slice A1 x.v.length c1') x.v := o1.byteSl (fun g h1 h2 => ⟨by have := hbr.size; omega, rfl, fun hc => by have := hlt1 g hc.symm; omega⟩)
        have hsl2 := hsl.below (B := w1.heap.size) ((Below.refl _ _).alloc (Nat.le_refl _) (.cells #[.int .i64 x.o, .int .i64 x.c, .int .i64 x.n, .slice A1 x.v.length c1'] 38)) (Nat.le_refl _)
        have hrd : bdE.rd (HiN w.heap.size u5.ownBlock) (w1.alloc (.cells #[.int .i64 x.o, .int .i64 x.c, .int .i64 x.n, .slice A1 x.v.length c1'] 38)) [.int .i64 x.o, .int .i64 x.c, .int .i64 x.n, .slice A1 x.v.length c1'] x := ⟨_, rfl, hsl2⟩
        go_wp2_with (at_builtin; refine wpList_append_one _ rfl (.tmp 20) (.tmp 26) 22 rfl (E := bdE) (base := w.heap.size) Try.underlying22 hi hz0 hz1 hz2 rfl (hown1.alloc _) hrd (new_cells w1 [.int .i64 x.o, .int .i64 x.c, .int .i64 x.n, .slice A1 x.v.length c1'] 38) rfl rfl (by have := HK.out; unfold maxLen; omega) (by have := HK.out; omega) (by have := hb1.size; simp; omega) ?_; intro v3 w3 hown3 hb3 hbl3 hg3)
        go_roundw
        case rel => exact ⟨k + 1, by omega, by go_num, by rw [HS.out]; exact hown3, (hb1.alloc hb1.size _).trans hb3⟩
        case measure => simp [intOf]; omega
    · have hkl := Lib.hid (show k = l.length by omega)
      go_wp2
      go_ret
      have e := hkl.out
      subst e
      rw [List.take_length] at hown
      exact ⟨_, rfl, hown, hbr⟩

/-- one's own list -/
theorem rcopy_c {S : Foot} {v : Value} {l : List Bd} {w : World} (hp : Sl bdE S w v l) (hl : l.length ≤ 1048576) (hu : used l ≤ 1048576) :
    Calls Try.prog 9 #[v] w fun e w' => ∃ v', e = .returned v' ∧ Own bdE (HiN w.heap.size v'.ownBlock) w' w.heap.size 38 v' l ∧ Below w.heap.size w w' := by
  obtain ⟨i0, hi, hz0, hz1, hz2⟩ := info_parts bd_info
  obtain ⟨A, cap, rfl, hc1, hc2, _⟩ := hp.shape
  unfold maxLen at hc2
  go_enter Try.func9, Try.ntmps9
  go_wp2
  go_loopw [3, 4] (fun v i wr => ∃ k : Nat, k ≤ l.length ∧ i = .int .i64 k ∧ Own bdE (HiN w.heap.size v.ownBlock) wr w.heap.size 38 v (l.take k) ∧ Below w.heap.size w wr) (fun _ i _ => l.length - (intOf i).toNat)
  case atStart => exact ⟨0, Nat.zero_le _, rfl, Own.nil, Below.refl _ _⟩
  case round =>
    obtain ⟨k, hk, rfl, hown, hbr⟩ := hrel
    by_cases hlt : k < l.length
    · obtain ⟨b, off, Av, cv, rfl, a0, a1, a2, a3, hv⟩ := (hp.below hbr (Nat.le_refl _)).body hlt
      have c0 := a0.cell
      have c1 := a1.cell
      have c2 := a2.cell
      have c3 := a3.cell
      have hvl := Lib.hid (val_le hlt)
      have HS0 : l.take (k + 1) = l.take k ++ [l[k]] := List.take_succ_eq_append_getElem hlt
      have hfl := Nat.le_of_eq (rfl : (l.take k).length = (l.take k).length)
      have hll : (l.take k).length ≤ l.length := by rw [List.length_take]; omega
      have HK := Lib.hid hfl
      clear hfl a0 a1 a2 a3
      generalize hx : l[k] = x at *
      have HX := Lib.hid hx
      clear hx
      have HS := Lib.hid HS0
      clear HS0
      go_wp2_with fail
      refine (rbody_c hv (by have := hvl.out; omega)).mono ?_
      rintro e w1 ⟨A1, c1', rfl, o1, b1⟩
      have hbw : Below w.heap.size w wr := hbr
      have hb1 := bstep hbw b1
      have hown1 := (hown).below b1 (Nat.le_refl _)
      have hlt1 := hown.lt
      have hsz : wr.heap.size ≤ wr.heap.size := by simp
      have hsl : Sl u8E (HiN w.heap.size u3.ownBlock) w1 (.slice A1 x.v.length c1') x.v := o1.byteSl (fun g h1 h2 => ⟨by have := hbr.size; omega, rfl, fun hc => by have := hlt1 g hc.symm; omega⟩)
      have hsl2 := hsl.below (B := w1.heap.size) ((Below.refl _ _).alloc (Nat.le_refl _) (.cells #[.int .i64 x.o, .int .i64 x.c, .int .i64 x.n, .slice A1 x.v.length c1'] 38)) (Nat.le_refl _)
      have hrd : bdE.rd (HiN w.heap.size u3.ownBlock) (w1.alloc (.cells #[.int .i64 x.o, .int .i64 x.c, .int .i64 x.n, .slice A1 x.v.length c1'] 38)) [.int .i64 x.o, .int .i64 x.c, .int .i64 x.n, .slice A1 x.v.length c1'] x := ⟨_, rfl, hsl2⟩
      go_wp2_with (at_builtin; refine wpList_append_one _ rfl (.tmp 11) (.tmp 17) 22 rfl (E := bdE) (base := w.heap.size) Try.underlying22 hi hz0 hz1 hz2 rfl (hown1.alloc _) hrd (new_cells w1 [.int .i64 x.o, .int .i64 x.c, .int .i64 x.n, .slice A1 x.v.length c1'] 38) rfl rfl (by have := HK.out; unfold maxLen; omega) (by have := HK.out; omega) (by have := hb1.size; simp; omega) ?_; intro v3 w3 hown3 hb3 hbl3 hg3)
      go_roundw
      case rel => exact ⟨k + 1, by omega, by go_num, by rw [HS.out]; exact hown3, (hb1.alloc hb1.size _).trans hb3⟩
      case measure => simp [intOf]; omega
    · have hkl := Lib.hid (show k = l.length by omega)
      go_wp2
      go_ret
      have e := hkl.out
      subst e
      rw [List.take_length] at hown
      exact ⟨_, rfl, hown, hbr⟩

end Go.Proofs.Ytjcbheeihckgmaa
