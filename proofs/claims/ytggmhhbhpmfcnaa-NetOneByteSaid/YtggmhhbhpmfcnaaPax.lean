/- Packets: the fixed fact. -/
import Derived.Test.YtggmhhbhpmfcnaaPaw
import Derived.Lib.SlBytesConst
namespace Go.Proofs.Ytggmhhbhpmfcnaa
open Go.RowKit

/-- a new block of one slice -/
theorem sl_one {α : Type} {E : Enc α} {S : Foot} {w : World} {v : Value} {l : List α} {t : TypeId} {c : Nat} (h : Sl E S w v l) (hc : 1 ≤ c) (hm : c ≤ 1048576) : Sl (slE E) Any (w.alloc (.cells #[v] t)) (.slice (some ⟨w.heap.size, 0, none⟩) 1 c) [l] := by
  refine ⟨some ⟨w.heap.size, 0, none⟩, c, [v], rfl, hc, by unfold maxLen; omega, by simp, Reps.single ⟨v, rfl, (salloc h _).any⟩, ?_⟩
  intro j u hu
  refine ⟨w.heap.size, 0, rfl, #[v], t, (0, 0), heap_alloc_new w _, ?_, trivial⟩
  rw [Nat.zero_add]
  simpa using hu

def ab : List UInt8 := [97, 98]
def p1 : Pk := ⟨0, 1, ab, ab⟩
def p2 : Pk := ⟨0, 1, ab, [97, 99]⟩
def p3 : Pk := ⟨0, 1, ab, [99, 98]⟩
theorem al1 : sends [] 0 1 [ab] = [p1] ∧ sendE [] 0 1 [ab] = 0 := by decide +kernel
theorem al2 : spoils [p1] 0 1 1 = [p2] ∧ spoilE [p1] 0 1 1 = 0 := by decide +kernel
theorem al3 : spoils [p2] 0 0 2 = [p3] ∧ spoilE [p2] 0 0 2 = 0 := by decide +kernel
theorem fit1 : Fit [p1] := by unfold Fit; decide
theorem fit2 : Fit [p2] := by unfold Fit; decide

set_option maxHeartbeats 4000000 in
theorem alive_c {w : World} : Calls Try.prog 7 #[] w fun e w' => e = .returned (.bool true) ∧ Below w.heap.size w w' := by
  have kc := Lib.run_convert_bytes_const (P := Try.prog) w 33 5 #[.int .u8 97, .int .u8 98] 2 2 Try.underlying33 Try.underlying5
  have hx : Sl u8E Any (w.alloc (.cells #[.int .u8 97, .int .u8 98] 5 (2, 3))) (.slice (some ⟨w.heap.size, 0, none⟩) 2 2) ab := bytes_block w ab 5 (2, 3) (by decide)
  have hl := sl_one (t := 33) hx (c := 1) (by omega) (by omega)
  rw [World.size_alloc] at hl
  have HS := Lib.hid (send_c (S := Any) (l := []) (f := 0) (t := 1) Sl.nil hl (by intro p hp; cases hp) (by decide) (by decide))
  rw [al1.1, al1.2] at HS
  have hb0 : Below w.heap.size w ((w.alloc (.cells #[.int .u8 97, .int .u8 98] 5 (2, 3))).alloc (.cells #[.slice (some ⟨w.heap.size, 0, none⟩) 2 2] 33)) := by (repeat (first | with_reducible exact Below.refl _ _ | with_reducible assumption | with_reducible refine bdraw ?_ | with_reducible refine bdrewN ?_ _ | with_reducible refine balloc ?_ _ | with_reducible refine bset ?_ (by simp <;> omega) | with_reducible refine bstep ?_ (by assumption) | with_reducible refine btrans ?_ (by assumption)))
  clear hx hl
  go_enter Try.func7, Try.ntmps7
  go_wp2_with fail
  refine HS.out.mono ?_
  rintro e w1 ⟨v1, rfl, o1, b1⟩
  clear HS kc
  go_wp2_with fail
  have HT := Lib.hid (spoil_c (i := 0) (k := 1) (t := 1) o1.slAny fit1)
  rw [al2.1, al2.2] at HT
  refine HT.out.mono ?_
  rintro e w2 ⟨v2, rfl, o2, b2⟩
  clear HT o1
  go_wp2_with fail
  have HT := Lib.hid (spoil_c (i := 0) (k := 0) (t := 2) o2.slAny fit2)
  rw [al3.1, al3.2] at HT
  refine HT.out.mono ?_
  rintro e w3 ⟨v3, rfl, o3, b3⟩
  clear HT o2
  obtain ⟨g, c, hv, hg1, hg2, hg3, hg4⟩ := o3.form1 (by decide)
  have hv : v3 = .slice (some ⟨g, 0, none⟩) 1 c := hv
  subst hv
  unfold maxLen at hg4
  obtain ⟨As, cs, Ah, ch, y2, y3, _, hs, hh⟩ := pkAt o3 (n := 0) (by decide)
  have yc2 : w3.cell? ⟨g, 2, none⟩ = some (.slice As 2 cs) := y2.cell
  have yc3 : w3.cell? ⟨g, 3, none⟩ = some (.slice Ah 2 ch) := y3.cell
  have k1 : (convert 33 9 (.slice As 2 cs)).run Try.prog w3 = .ok (.string ⟨#[97, 98]⟩) w3 := run_convert_sl (P := Try.prog) 33 9 5 Try.underlying33 Try.underlying5 Try.underlying9 hs
  have k2 : (convert 33 9 (.slice Ah 2 ch)).run Try.prog w3 = .ok (.string ⟨#[99, 98]⟩) w3 := run_convert_sl (P := Try.prog) 33 9 5 Try.underlying33 Try.underlying5 Try.underlying9 hh
  clear y2 y3 hs hh
  go_wp2
  go_ret
  exact ⟨rfl, by (repeat (first | with_reducible exact Below.refl _ _ | with_reducible assumption | with_reducible refine bdraw ?_ | with_reducible refine bdrewN ?_ _ | with_reducible refine balloc ?_ _ | with_reducible refine bset ?_ (by simp <;> omega) | with_reducible refine bstep ?_ (by assumption) | with_reducible refine btrans ?_ (by assumption)))⟩
end Go.Proofs.Ytggmhhbhpmfcnaa
