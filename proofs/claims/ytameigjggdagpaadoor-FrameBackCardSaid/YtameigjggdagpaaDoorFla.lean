/- The frame layer's laws, walked: alive, FrameSums. -/
import Derived.Test.YtameigjggdagpaaDoorFre
import Derived.Lib.SlBytesConst
namespace Go.Proofs.YtameigjggdagpaaDoor
open Go.RowKit

def nine : List UInt8 := [49, 50, 51, 52, 53, 54, 55, 56, 57]
theorem nine_cells (w : World) : Sl u8E Any (w.alloc (.cells #[.int .u8 49, .int .u8 50, .int .u8 51, .int .u8 52, .int .u8 53, .int .u8 54, .int .u8 55, .int .u8 56, .int .u8 57] 5 (9, 10))) (.slice (some ⟨w.heap.size, 0, none⟩) 9 9) nine :=
  bytes_block w nine 5 (9, 10) (by decide)
theorem nine_crc : ((crc nine).toNat : Int) = 3421780262 := by
  have : crc nine = 3421780262#32 := crc_123456789
  rw [this]; rfl
theorem sealed_nil : sealed [] = [0, 0, 0, 0, 33, 68, 223, 28] := by decide +kernel

/-- the fixed fact -/
theorem alive_c {w : World} (ht : Tab w) : Calls Tryd.prog 9 #[] w fun e w' => e = .returned (.bool true) ∧ Below w.heap.size w w' := by
  have hs := Lib.hid (seal_ok (Sl.nil (E := u8E) (S := Any) (w := w)) ht (by simp))
  have kc := fun (w : World) (C : Array Value) (n c : Nat) => Lib.run_convert_bytes_const (P := Tryd.prog) w 22 5 C n c Tryd.underlying22 Tryd.underlying5
  go_enter Tryd.func9, Tryd.ntmps9
  go_wp2_with fail
  refine hs.out.mono ?_
  rintro e w1 ⟨v1, rfl, o1, b1⟩
  have ht1 := ht.below b1 (Nat.le_refl _)
  have bA := (Below.refl w1.heap.size w1).alloc (Nat.le_refl _) (.cells #[.int .u8 49, .int .u8 50, .int .u8 51, .int .u8 52, .int .u8 53, .int .u8 54, .int .u8 55, .int .u8 56, .int .u8 57] 5 (9, 10))
  have ht2 := ht1.below bA (Nat.le_refl _)
  rw [sealed_nil] at o1
  have s2 := (o1.below bA (Nat.le_refl _)).slAny
  have hsum := Lib.hid (sum_c (nine_cells w1) ht2)
  rw [nine_crc] at hsum
  obtain ⟨A, cap, rfl, hc, _⟩ := s2.shape
  obtain ⟨b, off, rfl, hat⟩ := s2.byte (i := 4) (by decide)
  have hcell := hat.cell
  have hcell' : (w1.alloc (.cells #[.int .u8 49, .int .u8 50, .int .u8 51, .int .u8 52, .int .u8 53, .int .u8 54, .int .u8 55, .int .u8 56, .int .u8 57] 5 (9, 10))).cell? ⟨b, off + 4, none⟩ = some (.int .u8 33) := hcell
  clear hcell hat o1
  go_wp2_with (go_at_call 11; refine hsum.out.mono ?_; rintro e w2 ⟨rfl, rfl⟩)
  go_ret
  exact ⟨rfl, bstep b1 bA⟩
end Go.Proofs.YtameigjggdagpaaDoor
