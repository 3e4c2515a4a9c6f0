/- The frame layer's small functions, each by what it returns: more, Sum (the program's and the document's), four, number, length. -/
import Derived.Test.YtameigjggdagpaaDoorByte
import Derived.Test.YtameigjggdagpaaDoorSum
namespace Go.Proofs.YtameigjggdagpaaDoor
open Go.RowKit

/-! The walk's own words for the operations on a sum: each a plain name, so that nothing is turned behind it. -/
def xb (c : BitVec 32) (x : UInt8) : BitVec 32 := c ^^^ BitVec.ofNat 32 x.toNat
def sh4 (c : BitVec 32) : BitVec 32 := c >>> 4
def ix (c : BitVec 32) : Nat := (c &&& 15#32).toNat
def tb (c : BitVec 32) : BitVec 32 := tabB.getD (ix c) 0#32
def hs (c : BitVec 32) : BitVec 32 := halfStep c

theorem u32_xb (a : BitVec 32) (x : UInt8) : bits .xor .u32 (a.toNat : Int) (x.toNat : Int) = ((xb a x).toNat : Int) := by
  have := x.toNat_lt
  unfold xb
  rw [u32_xor_nat _ _ a.isLt (by omega), BitVec.toNat_xor, BitVec.toNat_ofNat, Nat.mod_eq_of_lt (by omega)]
theorem u32_hs (a : BitVec 32) : bits .xor .u32 ((sh4 a).toNat : Int) ((tb a).toNat : Int) = ((hs a).toNat : Int) := by
  rw [u32_xor_nat _ _ (sh4 a).isLt (tb a).isLt, ← BitVec.toNat_xor]; rfl
theorem u32_ix (a : BitVec 32) : bits .and .u32 (a.toNat : Int) 15 = (ix a : Int) := by
  have := u32_and_nat a.toNat 15 a.isLt (by omega)
  unfold ix
  rw [BitVec.toNat_and]
  exact this
theorem u32_sh4 (a : BitVec 32) : (a.toNat : Int) / 16 = ((sh4 a).toNat : Int) := by
  unfold sh4
  rw [BitVec.toNat_ushiftRight, Nat.shiftRight_eq_div_pow]; omega
theorem u8_mod32 (x : UInt8) : (x.toNat : Int) % 4294967296 = (x.toNat : Int) := by
  have := x.toNat_lt
  omega
theorem ix_lt' (a : BitVec 32) : ix a < 16 := by
  unfold ix
  rw [BitVec.toNat_and]
  exact Nat.lt_of_le_of_lt Nat.and_le_right (by decide)
theorem ix_lt (a : BitVec 32) : (ix a : Int) < 16 := by have := ix_lt' a; omega

/-- the program's table, in memory -/
def tabAt (n : Nat) : Value := .int .u32 ((tabB.getD n 0#32).toNat : Int)
def Tab (w : World) : Prop := 0 < w.heap.size ∧ ∀ j, j < 16 → w.cell? ⟨0, j, none⟩ = some (tabAt j)
theorem Tab.below {B : Nat} {w w' : World} (h : Tab w) (hb : Below B w w') (hB : w.heap.size ≤ B) : Tab w' :=
  ⟨by have := hb.size; have := h.1; omega, fun j hj => (hb.cell (p := ⟨0, j, none⟩) (by have := h.1; show 0 < B; omega)).trans (h.2 j hj)⟩
attribute [local go_sem] u32_xb u32_hs u32_ix u32_sh4 u8_mod32 ix_lt

theorem more_step {l : List UInt8} {k : Nat} (c : BitVec 32) (h : k < l.length) : more c (l.take (k + 1)) = byteStep (more c (l.take k)) l[k] := by
  rw [List.take_succ_eq_append_getElem h, more_append]; rfl

/-- more: a sum that goes on. -/
theorem more_c {S : Foot} {v : Value} {l : List UInt8} {w : World} (c : BitVec 32) (h : Sl u8E S w v l) (ht : Tab w) :
    Calls Tryd.prog 23 #[.int .u32 (c.toNat : Int), v] w fun e w' => e = .returned (.int .u32 ((more c l).toNat : Int)) ∧ w = w' := by
  obtain ⟨A, cap, rfl, hc1, hc2, _⟩ := h.shape
  unfold maxLen at hc2
  have hT : ∀ c : BitVec 32, w.cell? ⟨0, ix c, none⟩ = some (.int .u32 ((tb c).toNat : Int)) := fun c => ht.2 _ (ix_lt' c)
  clear ht
  go_enter Tryd.func23, Tryd.ntmps23
  go_wp2
  go_loop [0, 9] (fun s i => ∃ k : Nat, k ≤ l.length ∧ s = .int .u32 ((more c (l.take k)).toNat : Int) ∧ i = .int .i64 k) (fun _ i => l.length - (intOf i).toNat)
  case atStart => exact ⟨0, by omega, rfl, rfl⟩
  case round =>
    obtain ⟨k, hk, rfl, rfl⟩ := hrel
    generalize hd : more c (l.take k) = d
    have HD := Lib.hid hd
    clear hd
    by_cases hlt : k < l.length
    · have HS := Lib.hid (more_step c hlt)
      obtain ⟨b, off, rfl, hat⟩ := h.byte hlt
      have hcell := hat.cell
      clear hat
      go_wp2
      go_round
      case rel => exact ⟨k + 1, by omega, by rw [HS.out, HD.out]; rfl, by go_num⟩
      case measure => simp [intOf]; omega
    · go_wp2
      have hkl : k = l.length := by omega
      go_ret
      subst hkl
      have := HD.out
      rw [List.take_length] at this
      rw [this]
      exact ⟨rfl, rfl⟩

theorem u32_notB (a : BitVec 32) : bits .xor .u32 IntKind.u32.max (a.toNat : Int) = ((nt a).toNat : Int) := by
  unfold nt
  have h : bits .xor .u32 ((4294967295#32).toNat : Int) (a.toNat : Int) = ((4294967295#32 ^^^ a).toNat : Int) := by
    rw [u32_xor_nat _ _ (4294967295#32).isLt a.isLt, BitVec.toNat_xor]
  have e : 4294967295#32 ^^^ a = ~~~ a := by
    have : (4294967295#32) = BitVec.allOnes 32 := by decide
    rw [this, BitVec.allOnes_xor]
  rw [e] at h
  exact h

/-- Sum: of bytes. -/
theorem sum_c {S : Foot} {v : Value} {l : List UInt8} {w : World} (h : Sl u8E S w v l) (ht : Tab w) :
    Calls Tryd.prog 11 #[v] w fun e w' => e = .returned (.int .u32 ((crc l).toNat : Int)) ∧ w = w' := by
  go_enter Tryd.func11, Tryd.ntmps11
  go_wp2_with (go_at_call 23; refine (more_c ini h ht).mono ?_; rintro e w' ⟨rfl, rfl⟩)
  go_ret
  exact ⟨congrArg (fun n => Ending.returned (.int .u32 n)) (u32_notB _), rfl⟩

def sh1 (c : BitVec 32) : BitVec 32 := c >>> 1
def xp (c : BitVec 32) : BitVec 32 := c ^^^ 0xedb88320#32
def bitN : Nat → BitVec 32 → BitVec 32
  | 0, c => c
  | n + 1, c => bitStep (bitN n c)
theorem u32_sh1 (a : BitVec 32) : (a.toNat : Int) / 2 = ((sh1 a).toNat : Int) := by
  unfold sh1
  rw [BitVec.toNat_ushiftRight, Nat.shiftRight_eq_div_pow]; omega
theorem u32_xp (a : BitVec 32) : bits .xor .u32 (a.toNat : Int) 3988292384 = ((xp a).toNat : Int) := by
  have := u32_xor_nat a.toNat 3988292384 a.isLt (by omega)
  unfold xp
  rw [BitVec.toNat_xor]
  exact this
theorem low_bit (a : BitVec 32) : a.getLsbD 0 = decide (a.toNat % 2 = 1) := by
  unfold BitVec.getLsbD
  rw [Nat.testBit_zero]
theorem bitStep_odd {a : BitVec 32} (h : a.toNat % 2 = 1) : bitStep a = xp (sh1 a) := by
  unfold bitStep
  rw [low_bit, decide_eq_true h]; rfl
theorem bitStep_not_odd {a : BitVec 32} (h : ¬ a.toNat % 2 = 1) : bitStep a = sh1 a := by
  unfold bitStep
  rw [low_bit, decide_eq_false h]; rfl

attribute [local go_sem] u32_sh1 u32_xp

/-- the document's Sum -/
theorem rsum_c {S : Foot} {v : Value} {l : List UInt8} {w : World} (h : Sl u8E S w v l) :
    Calls Tryd.prog 12 #[v] w fun e w' => e = .returned (.int .u32 ((crc l).toNat : Int)) ∧ w = w' := by
  obtain ⟨A, cap, rfl, hc1, hc2, _⟩ := h.shape
  unfold maxLen at hc2
  go_enter Tryd.func12, Tryd.ntmps12
  go_wp2
  go_loop [3, 4] (fun s i => ∃ k : Nat, k ≤ l.length ∧ s = .int .u32 ((more ini (l.take k)).toNat : Int) ∧ i = .int .i64 k) (fun _ i => l.length - (intOf i).toNat)
  case atStart => exact ⟨0, by omega, rfl, rfl⟩
  case round =>
    obtain ⟨k, hk, rfl, rfl⟩ := hrel
    generalize hd : more ini (l.take k) = d
    have HD := Lib.hid hd
    clear hd
    by_cases hlt : k < l.length
    · have HS := Lib.hid (more_step ini hlt)
      obtain ⟨b, off, rfl, hat⟩ := h.byte hlt
      have hcell := hat.cell
      clear hat
      go_wp2
      go_loop [3, 5] (fun s j => ∃ n : Nat, n ≤ 8 ∧ s = .int .u32 ((bitN n (xb d l[k])).toNat : Int) ∧ j = .int .i64 n) (fun _ j => 8 - (intOf j).toNat)
      case atStart => exact ⟨0, by omega, rfl, rfl⟩
      case round =>
        obtain ⟨n, hn, rfl, rfl⟩ := hrel
        generalize he : bitN n (xb d l[k]) = c
        have HE := Lib.hid he
        clear he
        by_cases h8 : n < 8
        · by_cases hodd : c.toNat % 2 = 1
          · have hb : ((c.toNat : Int) % 2 == 1) = true := by rw [beq_iff_eq]; omega
            have HO := Lib.hid hodd
            clear hodd
            go_wp2
            go_round
            case rel => exact ⟨n + 1, by omega, by rw [bitN, HE.out, bitStep_odd HO.out], by go_num⟩
            case measure => simp [intOf]; omega
          · have hb : ((c.toNat : Int) % 2 == 1) = false := by rw [beq_eq_false_iff_ne]; omega
            have HO := Lib.hid hodd
            clear hodd
            go_wp2
            go_round
            case rel => exact ⟨n + 1, by omega, by rw [bitN, HE.out, bitStep_not_odd HO.out], by go_num⟩
            case measure => simp [intOf]; omega
        · have hn8 := Lib.hid (show n = 8 by omega)
          go_wp2
          go_round
          case rel =>
            refine ⟨k + 1, by omega, ?_, by go_num⟩
            rw [HS.out, HD.out, byteStep_bits, ← HE.out, hn8.out]; rfl
          case measure => simp [intOf]; omega
    · go_wp2
      have hkl : k = l.length := by omega
      go_ret
      subst hkl
      have := HD.out
      rw [List.take_length] at this
      refine ⟨?_, rfl⟩
      refine congrArg (fun n => Ending.returned (.int .u32 n)) ?_
      unfold crc nt
      rw [this, BitVec.toNat_not]
      have := d.isLt
      omega

/-! ### numbers as four bytes -/
def be4 (m : Nat) : List UInt8 := [UInt8.ofNat (m / 16777216), UInt8.ofNat (m / 65536), UInt8.ofNat (m / 256), UInt8.ofNat m]
def numK (l : List UInt8) : Nat := l.foldl (fun c x => c * 256 + x.toNat) 0
def num (l : List UInt8) : Nat := numK (l.take 4)
theorem numK_step {l : List UInt8} {k : Nat} (h : k < l.length) : numK (l.take (k + 1)) = numK (l.take k) * 256 + (l[k]).toNat := by
  rw [List.take_succ_eq_append_getElem h]; unfold numK; rw [List.foldl_append]; rfl
theorem numK_lt (l : List UInt8) : numK l < 256 ^ l.length := by
  have key : ∀ (l : List UInt8) (c n : Nat), c < 256 ^ n → l.foldl (fun c x => c * 256 + x.toNat) c < 256 ^ (n + l.length) := by
    intro l
    induction l with
    | nil => intro c n h; simpa using h
    | cons x l ih =>
      intro c n h
      have hx := x.toNat_lt
      have := ih (c * 256 + x.toNat) (n + 1) (by rw [Nat.pow_succ]; omega)
      simp only [List.foldl_cons, List.length_cons]
      rwa [show n + (l.length + 1) = n + 1 + l.length by omega]
  have := key l 0 0 (by simp)
  rw [Nat.zero_add] at this
  exact this
theorem num_lt (l : List UInt8) : num l < 4294967296 := by
  have h1 := numK_lt (l.take 4)
  have h2 : (256 : Nat) ^ (l.take 4).length ≤ 256 ^ 4 := Nat.pow_le_pow_right (by omega) (List.length_take_le _ _)
  exact Nat.lt_of_lt_of_le h1 (by simpa using h2)
theorem ofNat8 (m : Nat) : (UInt8.ofNat m).toNat = m % 256 := by simp
theorem num_be4 {m : Nat} (h : m < 4294967296) (r : List UInt8) : num (be4 m ++ r) = m := by
  have : (be4 m ++ r).take 4 = be4 m := by simp [be4]
  unfold num
  rw [this]
  simp only [be4, numK, List.foldl_cons, List.foldl_nil, ofNat8]
  omega

theorem be4_cells {m : Nat} (hm : m < 4294967296) : (be4 m).map (fun x => Value.int .u8 (x.toNat : Int)) = [.int .u8 ((m : Int) / 16777216), .int .u8 ((m : Int) / 65536 % 256), .int .u8 ((m : Int) / 256 % 256), .int .u8 ((m : Int) % 256)] := by
  simp only [be4, List.map_cons, List.map_nil, ofNat8]
  congr 2
  omega

/-- four: the document's. -/
theorem rfour_c {m : Nat} {w : World} (h1 : m < 4294967296) :
    Calls Tryd.prog 25 #[.int .u32 (m : Int)] w fun e w' => ∃ v', e = .returned v' ∧ Own u8E Any w' w.heap.size 5 v' (be4 m) ∧ Below w.heap.size w w' := by
  go_enter Tryd.func25, Tryd.ntmps25
  go_wp2
  go_ret
  refine ⟨_, rfl, ?_, (Below.refl _ _).alloc (Nat.le_refl _) _⟩
  have := bytes_cells w (be4 m) 5 w.heap.size (Nat.le_refl _) (by simp [be4]) Any
  rw [be4_cells h1] at this
  exact this

/-- number: of four bytes. -/
theorem number_c {S : Foot} {v : Value} {l : List UInt8} {w : World} (h : Sl u8E S w v l) (h4 : 4 ≤ l.length) :
    Calls Tryd.prog 26 #[v] w fun e w' => e = .returned (.int .u32 (num l : Int)) ∧ w = w' := by
  obtain ⟨A, cap, rfl, hc1, hc2, _⟩ := h.shape
  unfold maxLen at hc2
  go_enter Tryd.func26, Tryd.ntmps26
  go_wp2
  go_loop [3, 9] (fun s i => ∃ k : Nat, k ≤ 4 ∧ s = .int .u32 (numK (l.take k) : Int) ∧ i = .int .i64 k) (fun _ i => 4 - (intOf i).toNat)
  case atStart => exact ⟨0, by omega, rfl, rfl⟩
  case round =>
    obtain ⟨k, hk, rfl, rfl⟩ := hrel
    have hbd := numK_lt (l.take k)
    generalize hd : numK (l.take k) = d at hbd
    have HD := Lib.hid hd
    clear hd
    by_cases hlt : k < 4
    · have hd24 : d < 16777216 := by
        have h2 : (256 : Nat) ^ (l.take k).length ≤ 256 ^ 3 := Nat.pow_le_pow_right (by omega) (by rw [List.length_take]; omega)
        exact Nat.lt_of_lt_of_le hbd (by simpa using h2)
      clear hbd
      have HS := Lib.hid (numK_step (show k < l.length by omega))
      obtain ⟨b, off, rfl, hat⟩ := h.byte (show k < l.length by omega)
      have hcell := hat.cell
      clear hat
      have hx := (l[k]'(by omega)).toNat_lt
      have hor : bits .or .u32 ((d : Int) * 256) ((l[k]'(by omega)).toNat : Int) = ((d * 256 + (l[k]'(by omega)).toNat : Nat) : Int) := by
        have := u32_or_nat (d * 256) ((l[k]'(by omega)).toNat) (by omega) (by omega)
        rw [nat_join 8 _ _ (by omega) (by omega)] at this
        simpa using this
      go_wp2
      go_round
      case rel => exact ⟨k + 1, by omega, by rw [HS.out, HD.out]; go_num, by go_num⟩
      case measure => simp [intOf]; omega
    · clear hbd
      have hk4 := Lib.hid (show k = 4 by omega)
      go_wp2
      go_ret
      refine ⟨?_, rfl⟩
      rw [← HD.out, hk4.out]; rfl

theorem ofInt_i64' (a : Nat) (ha : a < 9223372036854775808) : (BitVec.ofInt 64 (a : Int)).toNat = a := by
  rw [BitVec.ofInt_natCast, BitVec.toNat_ofNat]; exact Nat.mod_eq_of_lt (by omega)
theorem i64_or_join (i x y : Nat) (hx : x % 2 ^ i = 0) (hy : y < 2 ^ i) (hx' : x < 4294967296) (hy' : y < 4294967296) : bits .or .i64 (x : Int) (y : Int) = ((x + y : Nat) : Int) := by
  show IntKind.i64.wrap ((BitVec.ofInt 64 (x : Int) ||| BitVec.ofInt 64 (y : Int)).toNat : Int) = _
  rw [BitVec.toNat_or, ofInt_i64' x (by omega), ofInt_i64' y (by omega), nat_join i x y hx hy, IntKind.wrap_i64]
  omega

theorem num_four {l : List UInt8} (h : 4 ≤ l.length) : num l = l[0].toNat * 16777216 + l[1].toNat * 65536 + l[2].toNat * 256 + l[3].toNat := by
  match l, h with
  | x0 :: x1 :: x2 :: x3 :: r, _ =>
    simp only [num, numK, List.take_succ_cons, List.take_zero, List.foldl_cons, List.foldl_nil, List.getElem_cons_zero, List.getElem_cons_succ]
    omega

/-- the document's length: of four bytes. -/
theorem length_c {S : Foot} {v : Value} {l : List UInt8} {w : World} (h : Sl u8E S w v l) (h4 : 4 ≤ l.length) :
    Calls Tryd.prog 28 #[v] w fun e w' => e = .returned (.int .i64 (num l : Int)) ∧ ∃ n, w' = w.drewN n := by
  obtain ⟨A, cap, rfl, hc1, hc2, _⟩ := h.shape
  unfold maxLen at hc2
  have HN := Lib.hid (num_four h4)
  obtain ⟨b, off, rfl, hat0⟩ := h.byte (i := 0) (by omega)
  obtain ⟨b1, off1, e1, hat1⟩ := h.byte (i := 1) (by omega)
  obtain ⟨b2, off2, e2, hat2⟩ := h.byte (i := 2) (by omega)
  obtain ⟨b3, off3, e3, hat3⟩ := h.byte (i := 3) (by omega)
  injection e1 with e1; injection e1 with e1 e1'; subst e1 e1'
  injection e2 with e2; injection e2 with e2 e2'; subst e2 e2'
  injection e3 with e3; injection e3 with e3 e3'; subst e3 e3'
  have c0 := hat0.cell
  have c1 := hat1.cell
  have c2 := hat2.cell
  have c3 := hat3.cell
  rw [Nat.add_zero] at c0
  clear hat0 hat1 hat2 hat3
  have l0 : (0 : Int) < (l.length : Int) := by omega
  have l1 : (1 : Int) < (l.length : Int) := by omega
  have l2 : (2 : Int) < (l.length : Int) := by omega
  have l3 : (3 : Int) < (l.length : Int) := by omega
  have x0 := (l[0]'(by omega)).toNat_lt
  have x1 := (l[1]'(by omega)).toNat_lt
  have x2 := (l[2]'(by omega)).toNat_lt
  have x3 := (l[3]'(by omega)).toNat_lt
  generalize (l[0]'(by omega)).toNat = y0 at *
  generalize (l[1]'(by omega)).toNat = y1 at *
  generalize (l[2]'(by omega)).toNat = y2 at *
  generalize (l[3]'(by omega)).toNat = y3 at *
  go_enter Tryd.func28, Tryd.ntmps28
  go_wp2
  go_quiet (fail)
  go_wp2
  go_ret
  refine ⟨?_, nq, rfl⟩
  refine congrArg (fun n => Ending.returned (.int .i64 n)) ?_
  have e1 := i64_or_join 24 (y0 * 16777216) (y1 * 65536) (by omega) (by omega) (by omega) (by omega)
  have e2 := i64_or_join 16 (y0 * 16777216 + y1 * 65536) (y2 * 256) (by omega) (by omega) (by omega) (by omega)
  have e3 := i64_or_join 8 (y0 * 16777216 + y1 * 65536 + y2 * 256) y3 (by omega) (by omega) (by omega) (by omega)
  rw [HN.out, ← e3, ← e2, ← e1]
  simp

/-- four: a number as four bytes, behind others that the caller owns. -/
theorem four_c {base : Nat} {v : Value} {l : List UInt8} {m : Nat} {w : World} (ho : Own u8E Any w base 5 v l) (hb : base ≤ w.heap.size) (hl : l.length ≤ 70368744177664) (h1 : m < 4294967296) :
    Calls Tryd.prog 24 #[v, .int .u32 (m : Int)] w fun e w' => ∃ v', e = .returned v' ∧ Own u8E Any w' base 5 v' (l ++ be4 m) ∧ Below base w w' := by
  obtain ⟨i0, hi, hz0, hz1, hz2⟩ := info_parts slice_info
  have hlt := ho.lt
  obtain ⟨xs, hox, hrx⟩ := ho
  have hsrc := (bytes_cells w (be4 m) 5 base hb (by simp [be4]) Any).slAny
  rw [be4_cells h1] at hsrc
  have hox' := hox.alloc (.cells #[.int .u8 ((m : Int) / 16777216), .int .u8 ((m : Int) / 65536 % 256), .int .u8 ((m : Int) / 256 % 256), .int .u8 ((m : Int) % 256)] 5)
  go_enter Tryd.func24, Tryd.ntmps24
  go_wp2_with (at_builtin; refine wpList_append_sl _ rfl (.tmp 5) (.tmp 17) 22 rfl (E := u8E) (base := base) Tryd.underlying22 hi hz0 hz1 hz2 rfl hox' hsrc rfl rfl (by simp [maxLen, be4]; omega) (by simp [be4]; omega) (by simp; omega) ?_; intro v' w' ys ho' hr hg hbl)
  go_ret
  refine ⟨v', rfl, ⟨_, ho', ?_⟩, ((Below.refl _ _).alloc hb _).grown hg (by simp; omega) (fun k hk => (hlt k hk).1)⟩
  exact Reps.append ⟨hrx.1, hrx.2⟩ ⟨hr.1, hr.2⟩
end Go.Proofs.YtameigjggdagpaaDoor
