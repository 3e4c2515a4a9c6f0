/- The frame layer's laws, walked: FrameTurned. -/
import Derived.Test.YtameigjggdagpaaDoorFla
import Derived.Test.YtameigjggdagpaaDoorFlp
namespace Go.Proofs.YtameigjggdagpaaDoor
open Go.RowKit

attribute [local go_sem] u8_xr

theorem xr_ne {x y : UInt8} (h : y ≠ 0) : xr x y ≠ x := by
  unfold xr
  intro he
  apply h
  have : x ^^^ (x ^^^ y) = x ^^^ x := by rw [he]
  rwa [← UInt8.xor_assoc, UInt8.xor_self, UInt8.zero_xor] at this

theorem frameTurned_c {S : Foot} {va : Value} {la : List UInt8} {w : World} (a : Nat) (x : UInt8) (ha : Sl u8E S w va la) (ht : Tab w) (h32 : a < 4294967296) :
    Calls Tryd.prog 6 #[va, .int .u32 (a : Int), .int .u8 (x.toNat : Int)] w fun e w' => e = .returned (.bool true) ∧ Below w.heap.size w w' := by
  have hal := Lib.hid (alive_c ht)
  obtain ⟨A0, c0, rfl, hc0, hm0, _⟩ := ha.shape
  by_cases hbig : 1048576 < la.length
  · have hE : sealE la = 1 := by unfold sealE; rw [if_pos hbig]
    have hd : decide ((1048576 : Int) < (la.length : Int)) = true := by simp; omega
    go_enter Tryd.func6, Tryd.ntmps6
    go_wp2_with fail
    refine hal.out.mono ?_
    rintro e w1 ⟨rfl, b1⟩
    have ha1 := ha.below b1 (Nat.le_refl _)
    have ht1 := ht.below b1 (Nat.le_refl _)
    have hs := seal_c ha1 ht1
    rw [hE] at hs
    clear hE
    have HS := Lib.hid hs
    clear hs
    go_wp2_with (go_at_call 13; refine HS.out.mono ?_; rintro e w2 ⟨v2, rfl, o2, b2⟩)
    go_ret
    exact ⟨rfl, bstep b1 b2⟩
  have hle : la.length ≤ 1048576 := by omega
  obtain ⟨hW, hP⟩ := sealed_whole la hle
  have hsl := sealed_length la
  go_enter Tryd.func6, Tryd.ntmps6
  go_wp2_with fail
  refine hal.out.mono ?_
  rintro e w1 ⟨rfl, b1⟩
  have ha1 := ha.below b1 (Nat.le_refl _)
  have ht1 := ht.below b1 (Nat.le_refl _)
  have HT0 : ∀ (i : Nat) (hi : i < (sealed la).length) (y : UInt8), y ≠ (sealed la)[i] → wholeE ((sealed la).set i y) ≠ 0 := fun i hi y h => turned_whole la hle hi h
  have HT := Lib.hid HT0
  clear HT0
  have HSL := Lib.hid hsl
  have HW := Lib.hid hW
  have HP := Lib.hid hP
  clear hsl hW hP
  go_wp2_with fail
  refine (seal_ok ha1 ht1 hle).mono ?_
  rintro e w2 ⟨v2, rfl, o2, b2⟩
  have b02 := bstep b1 b2
  have ht2 := ht.below b02 (Nat.le_refl _)
  generalize hsd : sealed la = b at *
  have HSD := Lib.hid hsd
  clear hsd
  have hwh := whole_c o2.slAny ht2
  rw [HW.out, HP.out] at hwh
  have HWH := Lib.hid hwh
  clear hwh
  go_wp2_with fail
  refine HWH.out.mono ?_
  rintro e w3 ⟨v3, rfl, o3, b3⟩
  have b03 := bstep b02 b3
  have ha3 := ha.below b03 (Nat.le_refl _)
  have o2' := o2.below b3 (Nat.le_refl _)
  go_wp2_with fail
  refine (same_c o3.slAny ha3).mono ?_
  rintro e w4 ⟨rfl, rfl⟩
  have hself : (la == la) = true := by simp
  rw [hself]
  clear hself
  by_cases hx : x = 0
  · have hb : ((x.toNat : Int) == 0) = true := by rw [hx]; rfl
    clear hx
    go_wp2
    go_ret
    exact ⟨rfl, b03⟩
  have hxn : x.toNat ≠ 0 := by
    intro h
    exact hx (UInt8.toNat_inj.1 h)
  have hb : ((x.toNat : Int) == 0) = false := by rw [beq_eq_false_iff_ne]; omega
  have HX := Lib.hid hx
  clear hx hxn
  have hbl : b.length = 8 + la.length := HSL.out
  have hpos : 0 < b.length := by omega
  have hmod := Nat.mod_lt a hpos
  obtain ⟨g, cap, hv, hg, hgl, hcell, hfr, hset⟩ := o2'.byteCell (i := a % b.length) hmod
  subst hv
  have hset' := hset (xr (b[a % b.length]'hmod) x)
  have HTT := Lib.hid (HT.out _ hmod _ (xr_ne HX.out (x := b[a % b.length]'hmod)))
  clear hset HT HSD HWH o2 o2' HSL
  generalize b[a % b.length]'hmod = y at *
  generalize hb' : b.set (a % b.length) (xr y x) = b' at *
  clear hb'
  have hne : ((b.length : Int) == 0) = false := by rw [beq_eq_false_iff_ne]; omega
  have hl1 : (1 : Int) ≤ (b.length : Int) := by omega
  have hbb : (b.length : Int) ≤ 1048584 := by omega
  generalize hbn : b.length = n at *
  clear hbn hbl
  go_wp2_with fail
  have b04 := b03.setCell (p := ⟨g, a % n, none⟩) (Nat.le_trans b1.size hg) (.int .u8 ((xr y x).toNat : Int))
  have hwh := whole_c hset'.slAny (ht.below b04 (Nat.le_refl _))
  rw [wholeP_none HTT.out] at hwh
  have hE : (wholeE b' != 0) = true := by rw [bne_iff_ne]; exact HTT.out
  generalize wholeE b' = E at *
  refine hwh.mono ?_
  rintro e w5 ⟨v5, rfl, o5, b5⟩
  obtain ⟨A5, c5, rfl, _⟩ := o5.slAny.shape
  clear hset' hwh
  go_wp2
  go_ret
  exact ⟨rfl, b04.trans (b5.mono (by have := b04.size; simpa using this))⟩
end Go.Proofs.YtameigjggdagpaaDoor
