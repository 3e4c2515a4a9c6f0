/- The sum of bytes (CRC-32): the program's walk by halves of a byte over its table, the document's walk by bits; plain, no program in sight. -/
import Derived.WalkKit
namespace Go.Proofs.YtameigjggdagpaaDoor

/-- one bit's step -/
def bitStep (c : BitVec 32) : BitVec 32 := if c.getLsbD 0 then (c >>> 1) ^^^ 0xedb88320#32 else c >>> 1

theorem bitStep_eq (c : BitVec 32) : bitStep c = (c >>> 1) ^^^ (if c.getLsbD 0 then 0xedb88320#32 else 0#32) := by
  unfold bitStep; split <;> simp

theorem bitStep_xor (a b : BitVec 32) : bitStep (a ^^^ b) = bitStep a ^^^ bitStep b := by
  have hs : (a ^^^ b) >>> 1 = (a >>> 1) ^^^ (b >>> 1) := by
    ext i hi
    simp
  have hp : (if (a ^^^ b).getLsbD 0 then 0xedb88320#32 else 0#32) = (if a.getLsbD 0 then 0xedb88320#32 else 0#32) ^^^ (if b.getLsbD 0 then 0xedb88320#32 else 0#32) := by
    rw [BitVec.getLsbD_xor]
    cases a.getLsbD 0 <;> cases b.getLsbD 0 <;> simp
  rw [bitStep_eq, bitStep_eq, bitStep_eq, hs, hp]
  ac_rfl

def tabB : List (BitVec 32) := [0x00000000#32, 0x1db71064#32, 0x3b6e20c8#32, 0x26d930ac#32, 0x76dc4190#32, 0x6b6b51f4#32, 0x4db26158#32, 0x5005713c#32, 0xedb88320#32, 0xf00f9344#32, 0xd6d6a3e8#32, 0xcb61b38c#32, 0x9b64c2b0#32, 0x86d3d2d4#32, 0xa00ae278#32, 0xbdbdf21c#32]

def halfStep (c : BitVec 32) : BitVec 32 := (c >>> 4) ^^^ tabB.getD (c &&& 15#32).toNat 0#32

theorem low_cases : ∀ n : Fin 16, bitStep (bitStep (bitStep (bitStep (BitVec.ofNat 32 n.val)))) = tabB.getD n.val 0#32 := by decide

theorem bitStep_even {c : BitVec 32} (h : c.getLsbD 0 = false) : bitStep c = c >>> 1 := by unfold bitStep; rw [h]; rfl

theorem high_steps (c : BitVec 32) (h0 : c.getLsbD 0 = false) (h1 : c.getLsbD 1 = false) (h2 : c.getLsbD 2 = false) (h3 : c.getLsbD 3 = false) :
    bitStep (bitStep (bitStep (bitStep c))) = c >>> 4 := by
  rw [bitStep_even h0]
  rw [bitStep_even (c := c >>> 1) (by simpa using h1)]
  rw [bitStep_even (c := c >>> 1 >>> 1) (by simpa using h2)]
  rw [bitStep_even (c := c >>> 1 >>> 1 >>> 1) (by simpa using h3)]
  rw [← BitVec.shiftRight_add, ← BitVec.shiftRight_add, ← BitVec.shiftRight_add]

theorem half_bits (c : BitVec 32) : halfStep c = bitStep (bitStep (bitStep (bitStep c))) := by
  have hc : c = (c &&& ~~~15#32) ^^^ (c &&& 15#32) := by
    ext i hi
    simp only [BitVec.getElem_xor, BitVec.getElem_and, BitVec.getElem_not]
    cases c[i] <;> simp
  have hlt : (c &&& 15#32).toNat < 16 := by
    rw [BitVec.toNat_and]
    exact Nat.lt_of_le_of_lt Nat.and_le_right (by decide)
  have hlo : c &&& 15#32 = BitVec.ofNat 32 (c &&& 15#32).toNat := by simp
  have hL := low_cases ⟨(c &&& 15#32).toNat, hlt⟩
  simp only [← hlo] at hL
  have hb : ∀ i, i < 4 → (c &&& ~~~15#32).getLsbD i = false := by
    intro i hi
    rw [BitVec.getLsbD_and]
    have : (~~~15#32).getLsbD i = false := by
      match i, hi with
      | 0, _ => decide
      | 1, _ => decide
      | 2, _ => decide
      | 3, _ => decide
    rw [this, Bool.and_false]
  have hH := high_steps (c &&& ~~~15#32) (hb 0 (by omega)) (hb 1 (by omega)) (hb 2 (by omega)) (hb 3 (by omega))
  have hsh : (c &&& ~~~15#32) >>> 4 = c >>> 4 := by
    ext i hi
    simp only [BitVec.getElem_ushiftRight]
    rw [BitVec.getLsbD_and]
    by_cases h : 4 + i < 32
    · have : (~~~15#32).getLsbD (4 + i) = true := by
        have hh : ∀ j : Fin 32, 4 ≤ j.val → (~~~15#32).getLsbD j.val = true := by decide
        exact hh ⟨4 + i, h⟩ (by simp)
      rw [this, Bool.and_true]
    · rw [BitVec.getLsbD_of_ge _ _ (by omega), Bool.false_and]
  conv => rhs; rw [hc, bitStep_xor, bitStep_xor, bitStep_xor, bitStep_xor, hH, hL, hsh]
  rfl

def byteStep (c : BitVec 32) (x : UInt8) : BitVec 32 := halfStep (halfStep (c ^^^ BitVec.ofNat 32 x.toNat))
def more (c : BitVec 32) (l : List UInt8) : BitVec 32 := l.foldl byteStep c
def bits8 (c : BitVec 32) : BitVec 32 := bitStep (bitStep (bitStep (bitStep (bitStep (bitStep (bitStep (bitStep c)))))))
def ini : BitVec 32 := 0xffffffff#32
def nt (c : BitVec 32) : BitVec 32 := ~~~ c
def crc (l : List UInt8) : BitVec 32 := nt (more ini l)
theorem crc_append (l m : List UInt8) : crc (l ++ m) = nt (more (more ini l) m) := by unfold crc; rw [show more ini (l ++ m) = more (more ini l) m from by simp [more]]

theorem byteStep_bits (c : BitVec 32) (x : UInt8) : byteStep c x = bits8 (c ^^^ BitVec.ofNat 32 x.toNat) := by
  unfold byteStep bits8
  rw [half_bits, half_bits]
theorem more_append (c : BitVec 32) (l m : List UInt8) : more c (l ++ m) = more (more c l) m := by simp [more]

/-! A step is one to one in the sum, and in the byte. -/
theorem bitStep_inj {a b : BitVec 32} (h : bitStep a = bitStep b) : a = b := by
  have hz : bitStep (a ^^^ b) = 0#32 := by rw [bitStep_xor, h, BitVec.xor_self]
  have key : ∀ d : BitVec 32, bitStep d = 0#32 → d = 0#32 := by
    intro d hd
    unfold bitStep at hd
    split at hd
    · have h31 : (d >>> 1 ^^^ 3988292384#32).getLsbD 31 = true := by
        rw [BitVec.getLsbD_xor, BitVec.getLsbD_ushiftRight, BitVec.getLsbD_of_ge d (1 + 31) (by omega)]
        decide
      rw [hd] at h31
      simp at h31
    · rename_i h0
      ext i hi
      match i with
      | 0 => simpa [BitVec.getLsbD_eq_getElem] using h0
      | i + 1 =>
        have := congrArg (fun z => z.getLsbD i) hd
        simp only [BitVec.getLsbD_ushiftRight] at this
        rw [Nat.add_comm 1 i, BitVec.getLsbD_eq_getElem hi] at this
        simpa using this
  have := key _ hz
  have h2 := congrArg (· ^^^ b) this
  simpa [BitVec.xor_assoc] using h2

theorem bits8_inj {a b : BitVec 32} (h : bits8 a = bits8 b) : a = b := by
  unfold bits8 at h
  exact bitStep_inj (bitStep_inj (bitStep_inj (bitStep_inj (bitStep_inj (bitStep_inj (bitStep_inj (bitStep_inj h)))))))
theorem byteStep_left {a b : BitVec 32} {x : UInt8} (h : byteStep a x = byteStep b x) : a = b := by
  rw [byteStep_bits, byteStep_bits] at h
  have := bits8_inj h
  have h2 := congrArg (· ^^^ BitVec.ofNat 32 x.toNat) this
  simpa [BitVec.xor_assoc] using h2
theorem byteStep_right {a : BitVec 32} {x y : UInt8} (h : byteStep a x = byteStep a y) : x = y := by
  rw [byteStep_bits, byteStep_bits] at h
  have := bits8_inj h
  have h2 := congrArg (a ^^^ ·) this
  simp only [← BitVec.xor_assoc, BitVec.xor_self, BitVec.zero_xor] at h2
  have h3 := congrArg BitVec.toNat h2
  simp only [BitVec.toNat_ofNat] at h3
  have hx := x.toNat_lt
  have hy := y.toNat_lt
  rw [Nat.mod_eq_of_lt (by omega), Nat.mod_eq_of_lt (by omega)] at h3
  exact UInt8.toNat_inj.1 h3
theorem more_left {l : List UInt8} : ∀ {a b : BitVec 32}, more a l = more b l → a = b := by
  induction l with
  | nil => intro a b h; exact h
  | cons x l ih => intro a b h; exact byteStep_left (ih h)
theorem not_inj {a b : BitVec 32} (h : nt a = nt b) : a = b := by
  have := congrArg (~~~ ·) h
  simpa [nt] using this
/-- One byte turned: another sum. -/
theorem crc_turned {l m : List UInt8} {x y : UInt8} (h : x ≠ y) : crc (l ++ x :: m) ≠ crc (l ++ y :: m) := by
  intro he
  have h1 := not_inj he
  rw [more_append, more_append] at h1
  have h2 : more (byteStep (more ini l) x) m = more (byteStep (more ini l) y) m := h1
  exact h (byteStep_right (more_left h2))
theorem crc_123456789 : crc [49, 50, 51, 52, 53, 54, 55, 56, 57] = 0xcbf43926#32 := by decide +kernel
end Go.Proofs.YtameigjggdagpaaDoor
