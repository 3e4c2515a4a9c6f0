/- The frame layer: Open, Whole, Cut (the program's and the document's), Lists, by what they return. -/
import Derived.Test.YtameigjggdagpaaDoorFrs
namespace Go.Proofs.YtameigjggdagpaaDoor
open Go.RowKit

def payload (b : List UInt8) : List UInt8 := (b.drop 8).take (num b)
/-- what Open says: its error -/
def openE (b : List UInt8) : Int :=
  if b.length < 8 then 5 else if 1048576 < num b then 4 else if b.length < 8 + num b then 5 else
  if (crc (b.take 4 ++ payload b)).toNat = num (b.drop 4) then 0 else 6
def openP (b : List UInt8) : List UInt8 := if openE b = 0 then payload b else []
def openN (b : List UInt8) : Nat := if openE b = 0 then 8 + num b else 0

theorem Tab.drewN {w : World} (h : Tab w) (n : Nat) : Tab (w.drewN n) := h

theorem u32_signed : IntKind.u32.signed = false := rfl
attribute [local go_sem] u32_notB u32_signed

theorem open_long {S : Foot} {v : Value} {l : List UInt8} {w : World} (hp : Sl u8E S w v l) (ht : Tab w) (h8 : 8 ≤ l.length) (hn : num l ≤ 1048576) (hl : 8 + num l ≤ l.length) :
    Calls Tryd.prog 16 #[v] w fun e w' => ∃ v', e = .returned (.tuple #[v', .int .i64 (openN l : Int), .int .i64 (openE l)]) ∧ Own u8E Any w' w.heap.size 5 v' (openP l) ∧ Below w.heap.size w w' := by
  obtain ⟨i0, hi, hz0, hz1, hz2⟩ := info_parts slice_info
  obtain ⟨A, cap, rfl, hc1, hc2, _⟩ := hp.shape
  unfold maxLen at hc2
  have hnum := number_c hp (by omega)
  generalize hnn : num l = n at *
  have HN := Lib.hid hnn
  clear hnn
  obtain ⟨A1, c1, s1, r1⟩ := hp.cut_lh Tryd.underlying22 hi hz1 (lo := 8) (hi := 8 + n) (by omega) (by omega) (L := 8) (H := 8 + (n : Int)) rfl (by omega)
  obtain ⟨A2, c2, s2, r2⟩ := hp.cut_h Tryd.underlying22 hi hz1 (hi := 4) (by omega) (H := 4) rfl
  obtain ⟨A3, c3, s3, r3⟩ := hp.cut_l Tryd.underlying22 hi hz1 (lo := 4) (by omega) (L := 4) rfl
  have HNUM := Lib.hid hnum
  clear hnum
  rw [show 8 + n - 8 = n by omega] at s1 r1
  rw [List.drop_take, show 8 + n - 8 = n by omega] at s1
  go_enter Tryd.func16, Tryd.ntmps16
  go_wp2_with fail
  refine HNUM.out.mono ?_
  rintro e w1 ⟨rfl, rfl⟩
  go_wp2_with fail
  clear hp
  have m2 : ∀ k, Hid (Calls Tryd.prog 23 #[.int .u32 4294967295, .slice A2 4 c2] (w.drewN k) fun e w'' => e = .returned (.int .u32 ((more ini (l.take 4)).toNat : Int)) ∧ ∃ m, w'' = w.drewN m) := fun k => quiet_left (more_c ini (s2.drewN k) (ht.drewN k))
  have m1 := fun k => Lib.hid (quiet_left (more_c (more ini (l.take 4)) (s1.drewN k) (ht.drewN k)))
  have m3 := fun k => Lib.hid (quiet_left (number_c (s3.drewN k) (by rw [List.length_drop]; omega)))
  go_quiet ((first | (go_at_call 23; with_reducible exact (m2 _).out) | (go_at_call 23; with_reducible exact (m1 _).out) | (go_at_call 26; with_reducible exact (m3 _).out)))
  have hcrc := crc_append (l.take 4) ((l.drop 8).take n)
  have s1' := s1.drewN nq
  have hpl : ((l.drop 8).take n).length = n := by rw [List.length_take, List.length_drop]; omega
  have HE : Hid (openE l = if (crc (l.take 4 ++ (l.drop 8).take n)).toNat = num (l.drop 4) then 0 else 6) := by
    unfold Hid openE payload
    rw [HN.out, if_neg (by omega), if_neg (by omega), if_neg (by omega)]
  rw [hcrc] at HE
  generalize nt (more (more ini (l.take 4)) ((l.drop 8).take n)) = C at *
  clear m1 m2 m3 HNUM r1 r2 r3
  by_cases hs : C.toNat = num (l.drop 4)
  · have hb : ((C.toNat : Int) != (num (l.drop 4) : Int)) = false := by rw [hs]; simp
    have hE : openE l = 0 := by rw [HE.out, if_pos hs]
    have HS := Lib.hid hs
    clear hs HE hcrc
    have hEE := Lib.hid hE
    clear hE
    have hpl' := Lib.hid hpl
    clear hpl
    go_wp2_with (go_at_call 27; refine (clone_c s1' (by rw [hpl'.out]; omega)).mono ?_; rintro e w' ⟨v', rfl, ho, hb⟩)
    go_ret3
    refine ⟨v', ?_, ?_, ?_⟩
    · unfold openN
      rw [hEE.out, if_pos rfl, HN.out]
      rfl
    · unfold openP payload
      rw [hEE.out, if_pos rfl, HN.out]
      exact ho.base_mono (by simp)
    · exact (bdrewN (Below.refl _ _) nq).trans (hb.mono (by simp))
  · have hb : ((C.toNat : Int) != (num (l.drop 4) : Int)) = true := by rw [bne_iff_ne]; omega
    have hE : openE l = 6 := by rw [HE.out, if_neg hs]
    clear hs HE hcrc
    have hEE := Lib.hid hE
    clear hE hpl
    go_wp2
    go_ret3
    refine ⟨.slice none 0 0, ?_, ?_, bdrewN (Below.refl _ _) nq⟩
    · unfold openN
      rw [hEE.out, if_neg (by decide)]
      rfl
    · unfold openP
      rw [hEE.out, if_neg (by decide)]
      exact Own.nil

/-- Open: its error, the payload, the size. -/
theorem open_c {S : Foot} {v : Value} {l : List UInt8} {w : World} (hp : Sl u8E S w v l) (ht : Tab w) :
    Calls Tryd.prog 16 #[v] w fun e w' => ∃ v', e = .returned (.tuple #[v', .int .i64 (openN l : Int), .int .i64 (openE l)]) ∧ Own u8E Any w' w.heap.size 5 v' (openP l) ∧ Below w.heap.size w w' := by
  by_cases h8 : l.length < 8
  · have hE : openE l = 5 := by unfold openE; rw [if_pos h8]
    unfold openN openP
    rw [hE, if_neg (by decide), if_neg (by decide)]
    obtain ⟨A, cap, rfl, hc1, hc2, _⟩ := hp.shape
    have hlt : (l.length : Int) < 8 := by omega
    go_enter Tryd.func16, Tryd.ntmps16
    go_wp2
    go_ret3
    exact ⟨_, rfl, Own.nil, Below.refl _ _⟩
  by_cases hn : 1048576 < num l
  · have hE : openE l = 4 := by unfold openE; rw [if_neg h8, if_pos hn]
    unfold openN openP
    rw [hE, if_neg (by decide), if_neg (by decide)]
    have hnum := Lib.hid (number_c hp (by omega))
    obtain ⟨A, cap, rfl, hc1, hc2, _⟩ := hp.shape
    have hnl := num_lt l
    go_enter Tryd.func16, Tryd.ntmps16
    go_wp2_with (go_at_call 26; refine hnum.out.mono ?_; rintro e w1 ⟨rfl, rfl⟩)
    go_ret3
    exact ⟨_, rfl, Own.nil, Below.refl _ _⟩
  by_cases hl : l.length < 8 + num l
  · have hE : openE l = 5 := by unfold openE; rw [if_neg h8, if_neg hn, if_pos hl]
    unfold openN openP
    rw [hE, if_neg (by decide), if_neg (by decide)]
    have hnum := Lib.hid (number_c hp (by omega))
    obtain ⟨A, cap, rfl, hc1, hc2, _⟩ := hp.shape
    unfold maxLen at hc2
    have hnl := num_lt l
    go_enter Tryd.func16, Tryd.ntmps16
    go_wp2_with (go_at_call 26; refine hnum.out.mono ?_; rintro e w1 ⟨rfl, rfl⟩)
    go_ret3
    exact ⟨_, rfl, Own.nil, Below.refl _ _⟩
  exact open_long hp ht (by omega) (by omega) (by omega)
end Go.Proofs.YtameigjggdagpaaDoor
