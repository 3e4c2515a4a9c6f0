/- Whether bodies are formed: the document's. -/
import Derived.Test.YtjcbheeihckgmaaBodj
namespace Go.Proofs.Ytjcbheeihckgmaa
open Go.RowKit

/-- block b: 256 marks, those of os set -/
def Arr (w : World) (b : Nat) (os : List Int) : Prop := ∃ cs t, w.heap[b]? = some (.cells cs t (0, 0)) ∧ cs.size = 256 ∧ ∀ j, j < 256 → cs[j]? = some (.bool (decide ((j : Int) ∈ os)))
theorem Arr.below {w w' : World} {B b : Nat} {os : List Int} (h : Arr w b os) (hb : Below B w w') (hB : b < B) : Arr w' b os := by
  obtain ⟨cs, t, h1, h2⟩ := h
  exact ⟨cs, t, (hb.block b hB).trans h1, h2⟩
theorem Arr.lt {w : World} {b : Nat} {os : List Int} (h : Arr w b os) : b < w.heap.size := by
  obtain ⟨cs, t, h1, _⟩ := h
  exact (Array.getElem?_eq_some_iff.1 h1).1
theorem Arr.cell {w : World} {b : Nat} {os : List Int} (h : Arr w b os) {x : Int} (h0 : 0 ≤ x) (h1 : x ≤ 255) : w.cell? ⟨b, x.toNat, none⟩ = some (.bool (decide (x ∈ os))) := by
  obtain ⟨cs, t, hb, hs, hc⟩ := h
  rw [cell_of_row w b _ cs t (0, 0) hb, hc _ (by omega), Int.toNat_of_nonneg h0]
theorem Arr.free {w : World} {b : Nat} {os : List Int} (h : Arr w b os) (x : Nat) : w.frozen? ⟨b, x, none⟩ = false := by
  obtain ⟨cs, t, hb, _⟩ := h
  exact frozen_of_row w b _ cs t hb
theorem Arr.set {w : World} {b : Nat} {os : List Int} (h : Arr w b os) {x : Int} (h0 : 0 ≤ x) (h1 : x ≤ 255) : Arr (w.setCell ⟨b, x.toNat, none⟩ (.bool true)) b (os ++ [x]) := by
  obtain ⟨cs, t, hb, hs, hc⟩ := h
  refine ⟨_, t, heap_setCell_same w b x.toNat cs t (.bool true) hb, by simpa using hs, fun j hj => ?_⟩
  rw [Array.getElem?_setIfInBounds]
  by_cases hx : x.toNat = j
  · rw [if_pos hx, if_pos (by omega)]
    have : (j : Int) ∈ os ++ [x] := by simp; omega
    simp [this]
  · rw [if_neg hx, hc j hj]
    have : (j : Int) ≠ x := by omega
    simp [this]

theorem zero256 : ∃ cs : Array Value, (∀ w, (zeroValue 51).run Try.prog w = .ok (.agg cs) w) ∧ cs.size = 256 ∧ ∀ j, j < 256 → cs[j]? = some (.bool false) :=
  ⟨Array.replicate 256 (.bool false), fun w => by kernel_rfl, by simp, fun j hj => by simp [hj]⟩

/-- are bodies formed: the document's -/
theorem rformed_c {S : Foot} {v : Value} {l : List Bd} {room : Int} {w : World} (hp : Sl bdE S w v l) (hu : used l ≤ 1048576) :
    Calls Try.prog 22 #[v, .int .i64 room] w fun e w' => e = .returned (.bool (formed l room)) ∧ Below w.heap.size w w' := by
  obtain ⟨A, cap, rfl, hc1, hc2, _⟩ := hp.shape
  unfold maxLen at hc2
  by_cases h1 : room < 0
  · have d1 : decide (room < 0) = true := decide_eq_true h1
    have HR : Hid (formed l room = false) := by unfold Hid formed; simp; omega
    go_enter Try.func22, Try.ntmps22
    go_wp2
    go_ret
    rw [HR.out]
    exact ⟨rfl, Below.refl _ _⟩
  have d1 : decide (room < 0) = false := decide_eq_false h1
  by_cases h2 : room ≤ 16777216
  rotate_left
  · have d2 : decide (16777216 < room) = true := decide_eq_true (by omega)
    have HR : Hid (formed l room = false) := by unfold Hid formed; simp; omega
    go_enter Try.func22, Try.ntmps22
    go_wp2
    go_ret
    rw [HR.out]
    exact ⟨rfl, Below.refl _ _⟩
  have d2 : decide (16777216 < room) = false := decide_eq_false (by omega)
  by_cases h3 : l.length ≤ 256
  rotate_left
  · have d3 : decide (256 < (l.length : Int)) = true := decide_eq_true (by omega)
    have HR : Hid (formed l room = false) := by unfold Hid formed; simp; omega
    go_enter Try.func22, Try.ntmps22
    go_wp2
    go_ret
    rw [HR.out]
    exact ⟨rfl, Below.refl _ _⟩
  have d3 : decide (256 < (l.length : Int)) = false := decide_eq_false (by omega)
  have HB := Lib.hid (show 0 ≤ room ∧ room ≤ 16777216 ∧ l.length ≤ 256 by omega)
  obtain ⟨cs0, hz, hzs, hzc⟩ := zero256
  have HA : Hid (Arr (w.alloc (.cells cs0 51)) w.heap.size []) := ⟨cs0, _, heap_alloc_new w _, hzs, fun j hj => by rw [hzc j hj]; simp⟩
  clear hzs hzc
  go_enter Try.func22, Try.ntmps22
  go_wp2
  go_loopw [6] (fun i wr => ∃ k : Nat, k ≤ l.length ∧ i = .int .i64 k ∧ Arr wr w.heap.size (objs (l.take k)) ∧ Below w.heap.size w wr ∧ Hid (fine (l.take k) = true)) (fun i _ => l.length - (intOf i).toNat)
  case atStart => exact ⟨0, Nat.zero_le _, rfl, HA.out, (Below.refl _ _).alloc (Nat.le_refl _) _, Lib.hid rfl⟩
  case round =>
    obtain ⟨k, hk, rfl, hsn, hbr, HF⟩ := hrel
    by_cases hlt : k < l.length
    · have HS := Lib.hid (fine_snoc hlt)
      have HO := Lib.hid (objs_snoc hlt)
      have HN := Lib.hid (fun (h : fine (l.take (k + 1)) = false) => (by unfold formed; rw [not_fine h]; simp : formed l room = false))
      obtain ⟨b, off, Av, cv, rfl, a0, a1, a2, a3, hv⟩ := (hp.below hbr (Nat.le_refl _)).body hlt
      have c0 := a0.cell
      have c1 := a1.cell
      have c2 := a2.cell
      have c3 := a3.cell
      generalize hx : l[k] = x at *
      clear hx
      have HC := fun w => Lib.hid (rright_c x Av cv w)
      cases hr : right x
      · have HR := Lib.hid (HN.out (by rw [HS.out, hr]; simp))
        rw [hr] at HC
        clear hr
        go_wp2_with (go_at_call 24; refine (HC _).out.mono ?_; rintro e w1 ⟨rfl, b1⟩)
        go_ret
        rw [HR.out]
        exact ⟨rfl, bstep hbr b1⟩
      · have ho : 0 ≤ x.o ∧ x.o ≤ 255 := by unfold right at hr; simp at hr; omega
        rw [hr] at HC
        by_cases hs : x.o ∈ objs (l.take k)
        · have HR := Lib.hid (HN.out (by rw [HS.out, decide_eq_true hs]; simp))
          have hc := (hsn.cell ho.1 ho.2)
          rw [decide_eq_true hs] at hc
          clear hr hs
          go_wp2_with (go_at_call 24; refine (HC _).out.mono ?_; rintro e w1 ⟨rfl, b1⟩; have x0 := (a0.keep (fun b _ _ hl => b1.block b hl)).cell; have hc1 := (b1.cell (p := ⟨w.heap.size, x.o.toNat, none⟩) hsn.lt).trans hc)
          go_ret
          rw [HR.out]
          exact ⟨rfl, bstep hbr b1⟩
        · have HR : Hid (fine (l.take (k + 1)) = true) := by
            unfold Hid
            rw [HS.out, HF.out, hr, decide_eq_false hs]
            rfl
          have hc := (hsn.cell ho.1 ho.2)
          rw [decide_eq_false hs] at hc
          clear hr hs
          go_wp2_with (go_at_call 24; refine (HC _).out.mono ?_; rintro e w1 ⟨rfl, b1⟩; have x0 := (a0.keep (fun b _ _ hl => b1.block b hl)).cell; have hc1 := (b1.cell (p := ⟨w.heap.size, x.o.toNat, none⟩) hsn.lt).trans hc; have hfr := (hsn.below b1 hsn.lt).free x.o.toNat)
          go_roundw
          case rel => exact ⟨k + 1, by omega, by go_num, by rw [HO.out]; exact (hsn.below b1 hsn.lt).set ho.1 ho.2, (bstep hbr b1).setCell (Nat.le_refl _) _, HR⟩
          case measure => simp [intOf]; omega
    · have HK := Lib.hid (show k = l.length by omega)
      have hF : fine l = true := by have h := HF.out; rw [HK.out, List.take_length] at h; exact h
      by_cases hroom : (used l : Int) ≤ room
      · have d4 : decide ((used l : Int) ≤ room) = true := decide_eq_true hroom
        have HR : Hid (formed l room = true) := by
          unfold Hid formed
          rw [hF, d4, decide_eq_true HB.out]
          rfl
        have HC := Lib.hid (rused_c (hp.below hbr (Nat.le_refl _)) (by omega))
        clear hF hroom
        go_wp2_with (go_at_call 14; refine HC.out.mono ?_; rintro e w1 ⟨rfl, rfl⟩)
        go_ret
        rw [HR.out]
        exact ⟨rfl, hbr⟩
      · have d4 : decide ((used l : Int) ≤ room) = false := decide_eq_false hroom
        have HR : Hid (formed l room = false) := by
          unfold Hid formed
          rw [d4]
          simp
        have HC := Lib.hid (rused_c (hp.below hbr (Nat.le_refl _)) (by omega))
        clear hF hroom
        go_wp2_with (go_at_call 14; refine HC.out.mono ?_; rintro e w1 ⟨rfl, rfl⟩)
        go_ret
        rw [HR.out]
        exact ⟨rfl, hbr⟩
end Go.Proofs.Ytjcbheeihckgmaa
