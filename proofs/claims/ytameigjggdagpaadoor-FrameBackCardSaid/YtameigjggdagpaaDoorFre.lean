/- The frame layer: both Whole, both Cut, Lists, by what they return. -/
import Derived.Test.YtameigjggdagpaaDoorFrd
namespace Go.Proofs.YtameigjggdagpaaDoor
open Go.RowKit

def wholeE (b : List UInt8) : Int := if 8 ≤ b.length ∧ num b < b.length - 8 then 4 else openE b
def wholeP (b : List UInt8) : List UInt8 := if 8 ≤ b.length ∧ num b < b.length - 8 then [] else openP b

/-- Whole: bytes that are one frame. -/
theorem whole_c {S : Foot} {v : Value} {l : List UInt8} {w : World} (hp : Sl u8E S w v l) (ht : Tab w) :
    Calls Tryd.prog 18 #[v] w fun e w' => ∃ v', e = .returned (.tuple #[v', .int .i64 (wholeE l)]) ∧ Own u8E Any w' w.heap.size 5 v' (wholeP l) ∧ Below w.heap.size w w' := by
  have hopen := Lib.hid (open_c hp ht)
  by_cases h8 : 8 ≤ l.length
  · have hnum := Lib.hid (number_c hp (by omega))
    have hnl := num_lt l
    obtain ⟨A, cap, rfl, hc1, hc2, _⟩ := hp.shape
    unfold maxLen at hc2
    unfold wholeE wholeP
    by_cases hn : num l < l.length - 8
    · rw [if_pos ⟨h8, hn⟩, if_pos ⟨h8, hn⟩]
      go_enter Tryd.func18, Tryd.ntmps18
      go_wp2_with (go_at_call 26; refine hnum.out.mono ?_; rintro e w1 ⟨rfl, rfl⟩)
      go_ret2
      exact ⟨_, rfl, Own.nil, Below.refl _ _⟩
    · rw [if_neg (fun h => hn h.2), if_neg (fun h => hn h.2)]
      go_enter Tryd.func18, Tryd.ntmps18
      go_wp2_with (first | (go_at_call 26; refine hnum.out.mono ?_; rintro e w1 ⟨rfl, rfl⟩) | (go_at_call 16; refine hopen.out.mono ?_; rintro e w1 ⟨v1, rfl, o1, b1⟩))
      go_ret2
      exact ⟨_, rfl, o1, b1⟩
  · obtain ⟨A, cap, rfl, hc1, hc2, _⟩ := hp.shape
    unfold wholeE wholeP
    rw [if_neg (fun h => h8 h.1), if_neg (fun h => h8 h.1)]
    have hd : decide ((8 : Int) ≤ (l.length : Int)) = false := by simp; omega
    go_enter Tryd.func18, Tryd.ntmps18
    go_wp2_with (go_at_call 16; refine hopen.out.mono ?_; rintro e w1 ⟨v1, rfl, o1, b1⟩)
    go_ret2
    exact ⟨_, rfl, o1, b1⟩

/-- the document's Whole -/
theorem rwhole_c {S : Foot} {v : Value} {l : List UInt8} {w : World} (hp : Sl u8E S w v l) :
    Calls Tryd.prog 19 #[v] w fun e w' => ∃ v', e = .returned (.tuple #[v', .int .i64 (wholeE l)]) ∧ Own u8E Any w' w.heap.size 5 v' (wholeP l) ∧ Below w.heap.size w w' := by
  have hopen := fun n => Lib.hid (ropen_c (hp.drewN n))
  by_cases h8 : 8 ≤ l.length
  · have hnum := Lib.hid (length_c hp (by omega))
    have hnl := num_lt l
    obtain ⟨A, cap, rfl, hc1, hc2, _⟩ := hp.shape
    unfold maxLen at hc2
    unfold wholeE wholeP
    by_cases hn : num l < l.length - 8
    · rw [if_pos ⟨h8, hn⟩, if_pos ⟨h8, hn⟩]
      go_enter Tryd.func19, Tryd.ntmps19
      go_wp2_with (go_at_call 28; refine hnum.out.mono ?_; rintro e w1 ⟨rfl, nq, rfl⟩)
      go_ret2
      exact ⟨_, rfl, Own.nil, bdrewN (Below.refl _ _) _⟩
    · rw [if_neg (fun h => hn h.2), if_neg (fun h => hn h.2)]
      go_enter Tryd.func19, Tryd.ntmps19
      go_wp2_with (first | (go_at_call 28; refine hnum.out.mono ?_; rintro e w1 ⟨rfl, nq, rfl⟩) | (go_at_call 17; refine (hopen nq).out.mono ?_; rintro e w1 ⟨v1, rfl, o1, b1⟩))
      go_ret2
      exact ⟨_, rfl, o1, (bdrewN (Below.refl _ _) nq).trans b1⟩
  · obtain ⟨A, cap, rfl, hc1, hc2, _⟩ := hp.shape
    unfold wholeE wholeP
    rw [if_neg (fun h => h8 h.1), if_neg (fun h => h8 h.1)]
    have hd : decide ((8 : Int) ≤ (l.length : Int)) = false := by simp; omega
    go_enter Tryd.func19, Tryd.ntmps19
    go_wp2_with (go_at_call 17; refine (hopen 0).out.mono ?_; rintro e w1 ⟨v1, rfl, o1, b1⟩)
    go_ret2
    exact ⟨_, rfl, o1, b1⟩

/-! ### Cut -/
/-- behind k frames: the payloads, and how many bytes -/
def cutK (b : List UInt8) : Nat → List (List UInt8) × Nat
  | 0 => ([], 0)
  | k + 1 => if openE (b.drop (cutK b k).2) = 0 then ((cutK b k).1 ++ [openP (b.drop (cutK b k).2)], (cutK b k).2 + openN (b.drop (cutK b k).2)) else cutK b k
def Stops (b : List UInt8) (k : Nat) : Prop := openE (b.drop (cutK b k).2) ≠ 0
theorem cutK_yes {b : List UInt8} {k : Nat} (h : openE (b.drop (cutK b k).2) = 0) : cutK b (k + 1) = ((cutK b k).1 ++ [openP (b.drop (cutK b k).2)], (cutK b k).2 + openN (b.drop (cutK b k).2)) := by
  rw [cutK, if_pos h]
theorem cutK_no {b : List UInt8} {k : Nat} (h : Stops b k) : cutK b (k + 1) = cutK b k := by
  rw [cutK, if_neg h]
theorem cutK_stay {b : List UInt8} {k : Nat} (h : Stops b k) (j : Nat) : cutK b (k + j) = cutK b k := by
  induction j with
  | zero => rfl
  | succ j ih =>
    rw [← Nat.add_assoc, cutK_no, ih]
    unfold Stops
    rw [ih]
    exact h
theorem cutK_one {b : List UInt8} {k j : Nat} (h : Stops b k) (h' : Stops b j) : cutK b k = cutK b j := by
  rcases Nat.le_total k j with hkj | hkj
  · obtain ⟨d, rfl⟩ := Nat.exists_eq_add_of_le hkj
    exact (cutK_stay h d).symm
  · obtain ⟨d, rfl⟩ := Nat.exists_eq_add_of_le hkj
    exact cutK_stay h' d
theorem open_fits {b : List UInt8} (h : openE b = 0) : 8 ≤ openN b ∧ openN b ≤ b.length := by
  have h1 := h
  unfold openE at h1
  unfold openN
  rw [if_pos h]
  split at h1
  · omega
  · split at h1
    · omega
    · split at h1
      · omega
      · omega
theorem cutK_le (b : List UInt8) (k : Nat) : (cutK b k).2 ≤ b.length := by
  induction k with
  | zero => exact Nat.zero_le _
  | succ k ih =>
    by_cases h : openE (b.drop (cutK b k).2) = 0
    · rw [cutK_yes h]
      have := (open_fits h).2
      rw [List.length_drop] at this
      show (cutK b k).2 + _ ≤ _
      omega
    · rw [cutK_no h]; exact ih
theorem cutK_len (b : List UInt8) (k : Nat) : (cutK b k).1.length * 8 ≤ (cutK b k).2 := by
  induction k with
  | zero => exact Nat.le_refl _
  | succ k ih =>
    by_cases h : openE (b.drop (cutK b k).2) = 0
    · rw [cutK_yes h]
      have := (open_fits h).1
      show ((cutK b k).1 ++ [_]).length * 8 ≤ (cutK b k).2 + _
      rw [List.length_append, List.length_singleton]
      omega
    · rw [cutK_no h]; exact ih

theorem sl_info : (Tryd.prog.info? 22).map (fun i => (i.zero, i.size, i.bytes)) = some (some (.slice none 0 0), 1, 24) := by kernel_rfl

/-- Cut: frames one behind the other. -/
theorem cut_c {S : Foot} {v : Value} {l : List UInt8} {w : World} (hp : Sl u8E S w v l) (ht : Tab w) (hl : l.length ≤ 17592186044416) :
    Calls Tryd.prog 20 #[v] w fun e w' => ∃ v' k, Stops l k ∧ e = .returned (.tuple #[v', .int .i64 ((cutK l k).2 : Int)]) ∧ Own (slE u8E) (HiN w.heap.size v'.ownBlock) w' w.heap.size 22 v' (cutK l k).1 ∧ Below w.heap.size w w' := by
  obtain ⟨i0, hi, hz0, hz1, hz2⟩ := info_parts slice_info
  obtain ⟨i1, hi1, hy0, hy1, hy2⟩ := info_parts sl_info
  obtain ⟨A, cap, rfl, hc1, hc2, _⟩ := hp.shape
  unfold maxLen at hc2
  go_enter Tryd.func20, Tryd.ntmps20
  go_wp2
  go_loopw [2, 3] (fun v s wr => ∃ k : Nat, s = .int .i64 ((cutK l k).2 : Int) ∧ Own (slE u8E) (HiN w.heap.size v.ownBlock) wr w.heap.size 22 v (cutK l k).1 ∧ Below w.heap.size w wr) (fun _ s _ => l.length - (intOf s).toNat)
  case atStart => exact ⟨0, rfl, Own.nil, Below.refl _ _⟩
  case round =>
    obtain ⟨k, rfl, hown, hbr⟩ := hrel
    have hle := cutK_le l k
    have hlen := cutK_len l k
    have hpr := hp.below hbr (Nat.le_refl _)
    have htr := ht.below hbr (Nat.le_refl _)
    obtain ⟨A1, c1, s1, r1⟩ := hpr.cut_l Tryd.underlying22 hi hz1 (lo := (cutK l k).2) hle rfl
    have HO := Lib.hid (open_c s1 htr)
    have HY := Lib.hid (@cutK_yes l k)
    have HF := Lib.hid (@open_fits (l.drop (cutK l k).2))
    have hst : Hid (Stops l k ↔ openE (l.drop (cutK l k).2) ≠ 0) := Iff.rfl
    generalize hck : cutK l k = c at *
    have HC := Lib.hid hck
    clear hck
    obtain ⟨done, n⟩ := c
    simp only at hle hlen s1 r1 HO HY HF hst hown
    generalize hr : l.drop n = r at *
    clear hr htr hpr
    go_wp2_with fail
    refine HO.out.mono ?_
    rintro e w1 ⟨v1, rfl, o1, b1⟩
    have hown1 := hown.below b1 (Nat.le_refl _)
    have hlt := hown.lt
    have hbw1 := bstep hbr b1
    have hrl := s1.cells.1
    obtain ⟨Av, cv, hv1, _⟩ := o1.slAny.shape
    generalize hvl : (openP r).length = pl at hv1
    clear hvl
    subst hv1
    by_cases hE : openE r = 0
    · have hb : ((openE r : Int) != 0) = false := by rw [hE]; rfl
      have hF := HF.out hE
      have HYY := Lib.hid (HY.out hE)
      have hsl : Sl u8E (HiN w.heap.size u2.ownBlock) w1 (.slice Av pl cv) (openP r) := o1.byteSl (fun g h1 h2 => ⟨by have := hbr.size; omega, rfl, fun hc => by have := hlt g hc.symm; omega⟩)
      have hsl2 := (hsl.below (B := w1.heap.size) ((Below.refl _ _).alloc (Nat.le_refl _) (.cells #[.slice Av pl cv] 22)) (Nat.le_refl _))
      have hrd : (slE u8E).rd (HiN w.heap.size u2.ownBlock) (w1.alloc (.cells #[.slice Av pl cv] 22)) [.slice Av pl cv] (openP r) := ⟨_, rfl, hsl2⟩
      have HE := Lib.hid hE
      clear hE
      go_wp2_with (at_builtin; go_loud (refine wpList_append_one _ rfl (.tmp 19) (.tmp 21) 35 rfl (E := slE u8E) (base := w.heap.size) Tryd.underlying35 hi1 hy0 hy1 hy2 rfl (hown1.alloc _) hrd (new_cells w1 [.slice Av pl cv] 22) rfl rfl (by unfold maxLen; omega) (by omega) (by have := hbw1.size; simp; omega) ?_); intro v3 w3 hown3 hb3 hbl3 hg3)
      go_roundw
      case rel =>
        refine ⟨k + 1, ?_, ?_, ?_⟩
        · rw [HYY.out]; go_num
        · rw [HYY.out]; exact hown3
        · exact (hbw1.alloc hbw1.size _).trans hb3
      case measure => simp [intOf]; omega
    · have hb : ((openE r : Int) != 0) = true := by rw [bne_iff_ne]; exact hE
      have HE := Lib.hid (hst.out.2 hE)
      clear hE
      go_wp2
      go_ret2
      exact ⟨u2, k, HE.out, by rw [HC.out]; rfl, by rw [HC.out]; exact hown1, hbw1⟩
/-- the document's Cut -/
theorem rcut_c {S : Foot} {v : Value} {l : List UInt8} {w : World} (hp : Sl u8E S w v l) (hl : l.length ≤ 17592186044416) :
    Calls Tryd.prog 21 #[v] w fun e w' => ∃ v' k, Stops l k ∧ e = .returned (.tuple #[v', .int .i64 ((cutK l k).2 : Int)]) ∧ Own (slE u8E) (HiN w.heap.size v'.ownBlock) w' w.heap.size 22 v' (cutK l k).1 ∧ Below w.heap.size w w' := by
  obtain ⟨i0, hi, hz0, hz1, hz2⟩ := info_parts slice_info
  obtain ⟨i1, hi1, hy0, hy1, hy2⟩ := info_parts sl_info
  obtain ⟨A, cap, rfl, hc1, hc2, _⟩ := hp.shape
  unfold maxLen at hc2
  go_enter Tryd.func21, Tryd.ntmps21
  go_wp2
  go_loopw [4, 5] (fun v s wr => ∃ k : Nat, s = .int .i64 ((cutK l k).2 : Int) ∧ Own (slE u8E) (HiN w.heap.size v.ownBlock) wr w.heap.size 22 v (cutK l k).1 ∧ Below w.heap.size w wr) (fun _ s _ => l.length - (intOf s).toNat)
  case atStart => exact ⟨0, rfl, Own.nil, Below.refl _ _⟩
  case round =>
    obtain ⟨k, rfl, hown, hbr⟩ := hrel
    have hle := cutK_le l k
    have hlen := cutK_len l k
    have hpr := hp.below hbr (Nat.le_refl _)
    obtain ⟨A1, c1, s1, r1⟩ := hpr.cut_l Tryd.underlying22 hi hz1 (lo := (cutK l k).2) hle rfl
    have HO := Lib.hid (ropen_c s1)
    have HY := Lib.hid (@cutK_yes l k)
    have HF := Lib.hid (@open_fits (l.drop (cutK l k).2))
    have hst : Hid (Stops l k ↔ openE (l.drop (cutK l k).2) ≠ 0) := Iff.rfl
    generalize hck : cutK l k = c at *
    have HC := Lib.hid hck
    clear hck
    obtain ⟨done, n⟩ := c
    simp only at hle hlen s1 r1 HO HY HF hst hown
    generalize hr : l.drop n = r at *
    clear hr hpr
    go_wp2_with fail
    refine HO.out.mono ?_
    rintro e w1 ⟨v1, rfl, o1, b1⟩
    have hown1 := hown.below b1 (Nat.le_refl _)
    have hlt := hown.lt
    have hbw1 := bstep hbr b1
    have hrl := s1.cells.1
    obtain ⟨Av, cv, hv1, _⟩ := o1.slAny.shape
    generalize hvl : (openP r).length = pl at hv1
    clear hvl
    subst hv1
    by_cases hE : openE r = 0
    · have hb : ((openE r : Int) != 0) = false := by rw [hE]; rfl
      have hF := HF.out hE
      have HYY := Lib.hid (HY.out hE)
      have hsl : Sl u8E (HiN w.heap.size u4.ownBlock) w1 (.slice Av pl cv) (openP r) := o1.byteSl (fun g h1 h2 => ⟨by have := hbr.size; omega, rfl, fun hc => by have := hlt g hc.symm; omega⟩)
      have hsl2 := (hsl.below (B := w1.heap.size) ((Below.refl _ _).alloc (Nat.le_refl _) (.cells #[.slice Av pl cv] 22)) (Nat.le_refl _))
      have hrd : (slE u8E).rd (HiN w.heap.size u4.ownBlock) (w1.alloc (.cells #[.slice Av pl cv] 22)) [.slice Av pl cv] (openP r) := ⟨_, rfl, hsl2⟩
      have HE := Lib.hid hE
      clear hE
      go_wp2_with (at_builtin; go_loud (refine wpList_append_one _ rfl (.tmp 21) (.tmp 23) 35 rfl (E := slE u8E) (base := w.heap.size) Tryd.underlying35 hi1 hy0 hy1 hy2 rfl (hown1.alloc _) hrd (new_cells w1 [.slice Av pl cv] 22) rfl rfl (by unfold maxLen; omega) (by omega) (by have := hbw1.size; simp; omega) ?_); intro v3 w3 hown3 hb3 hbl3 hg3)
      go_roundw
      case rel =>
        refine ⟨k + 1, ?_, ?_, ?_⟩
        · rw [HYY.out]; go_num
        · rw [HYY.out]; exact hown3
        · exact (hbw1.alloc hbw1.size _).trans hb3
      case measure => simp [intOf]; omega
    · have hb : ((openE r : Int) != 0) = true := by rw [bne_iff_ne]; exact hE
      have HE := Lib.hid (hst.out.2 hE)
      clear hE
      go_wp2
      go_ret2
      exact ⟨u4, k, HE.out, by rw [HC.out]; rfl, by rw [HC.out]; exact hown1, hbw1⟩

/-- Lists: are the lists of bytes the same? -/
theorem lists_c {S S' : Foot} {v u : Value} {l m : List (List UInt8)} {w : World} (hl : Sl (slE u8E) S w v l) (hm : Sl (slE u8E) S' w u m) :
    Calls Tryd.prog 22 #[v, u] w fun e w' => e = .returned (.bool (l == m)) ∧ ∃ n, w' = w.drewN n := by
  obtain ⟨A, cap, rfl, hc1, hc2, _⟩ := hl.shape
  obtain ⟨A', cap', rfl, hc1', hc2', _⟩ := hm.shape
  unfold maxLen at hc2 hc2'
  by_cases hlen : l.length = m.length
  · have hne : ((l.length : Int) != (m.length : Int)) = false := by rw [hlen]; simp
    have HL := Lib.hid hlen
    clear hlen
    go_enter Tryd.func22, Tryd.ntmps22
    go_wp2
    go_loopw [5] (fun i wr => ∃ k nr : Nat, k ≤ l.length ∧ i = .int .i64 k ∧ wr = w.drewN nr ∧ Hid (l.take k = m.take k)) (fun i _ => l.length - (intOf i).toNat)
    case atStart => exact ⟨0, 0, by omega, rfl, rfl, rfl⟩
    case round =>
      obtain ⟨k, nr, hk, rfl, rfl, hpre⟩ := hrel
      by_cases hlt : k < l.length
      · have hlt' : k < m.length := by have := HL.out; omega
        have hi1 : (k : Int) < (l.length : Int) := by omega
        have hi2 : (k : Int) < (m.length : Int) := by omega
        obtain ⟨b, off, x, rfl, hat, hx⟩ := hl.elem hlt
        obtain ⟨b', off', y, rfl, hat', hy⟩ := hm.elem hlt'
        have hcell := hat.cell
        have hcell' := hat'.cell
        have hst := Lib.hid (show l.take (k + 1) = l.take k ++ [l[k]] from List.take_succ_eq_append_getElem hlt)
        have hst' := Lib.hid (show m.take (k + 1) = m.take k ++ [m[k]] from List.take_succ_eq_append_getElem hlt')
        have hs := fun j => Lib.hid (quiet_more (a := nr) (n := j) (same_c (hx.drewN (nr + j)) (hy.drewN (nr + j))))
        generalize hlk : l[k] = lk at *
        generalize hmk : m[k] = mk at *
        have HLK := Lib.hid hlk
        have HMK := Lib.hid hmk
        clear hat hat' hlk hmk hl hm
        go_wp2
        go_quiet ((go_at_call 15; with_reducible exact (hs _).out))
        by_cases he : lk = mk
        · have hb : (lk == mk) = true := by rw [he]; simp
          have HE := Lib.hid he
          rw [hb]
          clear he hb
          go_wp2
          exact ⟨⟨k + 1, nr + nq, by omega, by go_num, by simp, by unfold Hid; rw [hst.out, hst'.out, hpre.out, HE.out]⟩, by simp [intOf]; omega⟩
        · have hb : (lk == mk) = false := by simpa using he
          have HF : Hid ((l == m) = false) := by
            unfold Hid
            rw [beq_eq_false_iff_ne]
            intro h
            subst h
            exact he (HLK.out.symm.trans HMK.out)
          rw [hb]
          clear he hb
          go_wp2
          go_ret
          exact ⟨by rw [HF.out]; rfl, nr + nq, by rw [World.drewN_drewN]⟩
      · have hkl := Lib.hid (show k = l.length by omega)
        go_wp2
        go_ret
        have he : l = m := by
          have h1 := hpre.out
          have h2 := HL.out
          rw [hkl.out, List.take_length, h2, List.take_length] at h1
          exact h1
        refine ⟨?_, nr, rfl⟩
        subst he
        simp
  · have hne : ((l.length : Int) != (m.length : Int)) = true := by rw [bne_iff_ne]; omega
    have HF : Hid ((l == m) = false) := by
      unfold Hid
      rw [beq_eq_false_iff_ne]
      intro h
      subst h
      exact hlen rfl
    clear hlen
    go_enter Tryd.func22, Tryd.ntmps22
    go_wp2
    go_ret
    exact ⟨by rw [HF.out]; rfl, 0, rfl⟩
end Go.Proofs.YtameigjggdagpaaDoor
