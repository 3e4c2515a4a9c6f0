/- Disks: formed, used: in both words. -/
import Derived.Test.YtbahiohlhhdkcaaDoorDka
import Derived.Test.YtbahiohlhhdkcaaDoorExt
import Derived.Handy
import Derived.BigQuiet
import Derived.Deep.QuietTactic
import Derived.Deep.RegionHeld3
namespace Go.Proofs.YtbahiohlhhdkcaaDoor
open Go.RowKit

def fineF (last left : Int) : List Fi → Bool
  | [] => true
  | f :: r => decide (last < f.n ∧ f.n ≤ 1048576 ∧ 0 ≤ f.s ∧ f.s ≤ (f.b.length : Int) ∧ (f.b.length : Int) ≤ left) && fineF f.n (left - f.b.length) r
def formedD (room : Int) (fs : List Fi) : Bool := decide (0 ≤ room ∧ room ≤ 16777216) && fineF (-1) room fs
def sizeD : List Fi → Nat
  | [] => 0
  | f :: r => f.b.length + sizeD r
def usedD (room : Int) (fs : List Fi) : Int := if formedD room fs then (sizeD fs : Int) else 0
theorem fineF_size : ∀ {fs : List Fi} {last left : Int}, fineF last left fs = true → 0 ≤ left → (sizeD fs : Int) ≤ left
  | [], _, _, _, h => by simpa [sizeD] using h
  | f :: r, last, left, h, h0 => by
    simp only [fineF, Bool.and_eq_true, decide_eq_true_eq] at h
    have := fineF_size h.2 (by omega)
    simp only [sizeD]; omega
theorem formedD_size {room : Int} {fs : List Fi} (h : formedD room fs = true) : (sizeD fs : Int) ≤ room ∧ 0 ≤ room ∧ room ≤ 16777216 := by
  simp only [formedD, Bool.and_eq_true, decide_eq_true_eq] at h
  exact ⟨fineF_size h.2 h.1.1, h.1⟩
theorem fineF_low : ∀ {fs : List Fi} {last left : Int}, fineF last left fs = true → ∀ f ∈ fs, last < f.n ∧ f.n ≤ 1048576 ∧ 0 ≤ f.s ∧ f.s ≤ (f.b.length : Int) ∧ (f.b.length : Int) ≤ left
  | [], _, _, _, f, hf => by simp at hf
  | x :: r, last, left, h, f, hf => by
    simp only [fineF, Bool.and_eq_true, decide_eq_true_eq] at h
    rcases List.mem_cons.1 hf with rfl | hf
    · omega
    · have := fineF_low h.2 f hf; omega
theorem fineF_len : ∀ {fs : List Fi} {last left : Int}, fineF last left fs = true → last ≤ 1048576 → (fs.length : Int) ≤ 1048576 - last
  | [], _, _, _, h => by simp; omega
  | x :: r, last, left, h, hl => by
    simp only [fineF, Bool.and_eq_true, decide_eq_true_eq] at h
    have := fineF_len h.2 (by omega)
    simp only [List.length_cons]; omega
theorem formedD_len {room : Int} {fs : List Fi} (h : formedD room fs = true) : fs.length ≤ 1048577 := by
  simp only [formedD, Bool.and_eq_true, decide_eq_true_eq] at h
  have := fineF_len h.2 (by omega)
  omega
theorem sizeD_mem {fs : List Fi} {f : Fi} (h : f ∈ fs) : f.b.length ≤ sizeD fs := by
  induction fs with
  | nil => simp at h
  | cons x r ih =>
    simp only [sizeD]
    rcases List.mem_cons.1 h with rfl | h
    · omega
    · have := ih h; omega

set_option maxHeartbeats 1000000 in
theorem formed_c {S : Foot} {v : Value} {room : Int} {l : List Fi} {w : World} (hp : Sl fiE S w v l) :
    Calls Tryd.prog 18 #[.agg #[.int .i64 room, v]] w fun e w' => e = .returned (.bool (formedD room l)) ∧ Below w.heap.size w w' := by
  have hp := hp.any
  obtain ⟨A, cap, rfl, hc1, hc2, _⟩ := hp.shape
  unfold maxLen at hc2
  have q0 := at_new (w := w) (cs := #[.int .i64 room, .slice A l.length cap]) (t := 24) (i := 0) (v := .int .i64 room) rfl; have q1 := at_new (w := w) (cs := #[.int .i64 room, .slice A l.length cap]) (t := 24) (i := 1) (v := .slice A l.length cap) rfl
  go_enter Tryd.func18, Tryd.ntmps18
  by_cases hr : 0 ≤ room ∧ room ≤ 16777216
  · obtain ⟨hr0, hr1⟩ := hr
    have HFm : Hid (formedD room l = fineF (-1) room l) := Lib.hid (by unfold formedD; rw [decide_eq_true ⟨hr0, hr1⟩, Bool.true_and])
    go_wp2
    go_loopw [3, 4, 18] (fun uv lv iv wr => ∃ (k : Nat) (u la : Int), k ≤ l.length ∧ iv = .int .i64 k ∧ uv = .int .i64 u ∧ lv = .int .i64 la ∧ 0 ≤ u ∧ u ≤ room ∧ Hid (fineF la (room - u) (l.drop k) = fineF (-1) room l) ∧ Below (w.alloc (.cells #[.int .i64 room, .slice A l.length cap] 24)).heap.size (w.alloc (.cells #[.int .i64 room, .slice A l.length cap] 24)) wr) (fun _ _ iv _ => l.length - (intOf iv).toNat)
    case atStart => exact ⟨0, 0, -1, Nat.zero_le _, by go_num, rfl, rfl, Int.le_refl _, hr0, Lib.hid (by simp), Below.refl _ _⟩
    case round =>
      obtain ⟨k, u, la, hk, rfl, rfl, rfl, hu0, hu1, HT, hbr⟩ := hrel
      by_cases hlt : k < l.length
      · obtain ⟨b, off, Av, cv, rfl, a0, a1, a2, hv⟩ := (hp.below (by (repeat (first | with_reducible exact Below.refl _ _ | with_reducible assumption | with_reducible refine bdraw ?_ | with_reducible refine bdrewN ?_ _ | with_reducible refine balloc ?_ _ | with_reducible refine bset ?_ (by simp <;> omega) | with_reducible refine bstep ?_ (by assumption) | with_reducible refine btrans ?_ (by assumption)))) (Nat.le_refl _)).fi hlt
        have HD := Lib.hid (List.drop_eq_getElem_cons hlt)
        generalize l[k] = x at *
        obtain ⟨_, _, e, hcv1, hcv2, _⟩ := hv.shape
        injection e with _ _ e
        subst e
        unfold maxLen at hcv2
        have hkI : (k : Int) < (l.length : Int) := by omega
        have c0 := atb a0 (w' := wr) (by (repeat (first | with_reducible exact Below.refl _ _ | with_reducible assumption | with_reducible refine bdraw ?_ | with_reducible refine bdrewN ?_ _ | with_reducible refine balloc ?_ _ | with_reducible refine bset ?_ (by simp <;> omega) | with_reducible refine bstep ?_ (by assumption) | with_reducible refine btrans ?_ (by assumption)))); have c1 := atb a1 (w' := wr) (by (repeat (first | with_reducible exact Below.refl _ _ | with_reducible assumption | with_reducible refine bdraw ?_ | with_reducible refine bdrewN ?_ _ | with_reducible refine balloc ?_ _ | with_reducible refine bset ?_ (by simp <;> omega) | with_reducible refine bstep ?_ (by assumption) | with_reducible refine btrans ?_ (by assumption)))); have c2 := atb a2 (w' := wr) (by (repeat (first | with_reducible exact Below.refl _ _ | with_reducible assumption | with_reducible refine bdraw ?_ | with_reducible refine bdrewN ?_ _ | with_reducible refine balloc ?_ _ | with_reducible refine bset ?_ (by simp <;> omega) | with_reducible refine bstep ?_ (by assumption) | with_reducible refine btrans ?_ (by assumption))))
        have d0 := atb q0 (w' := wr) (by (repeat (first | with_reducible exact Below.refl _ _ | with_reducible assumption | with_reducible refine bdraw ?_ | with_reducible refine bdrewN ?_ _ | with_reducible refine balloc ?_ _ | with_reducible refine bset ?_ (by simp <;> omega) | with_reducible refine bstep ?_ (by assumption) | with_reducible refine btrans ?_ (by assumption)))); have d1 := atb q1 (w' := wr) (by (repeat (first | with_reducible exact Below.refl _ _ | with_reducible assumption | with_reducible refine bdraw ?_ | with_reducible refine bdrewN ?_ _ | with_reducible refine balloc ?_ _ | with_reducible refine bset ?_ (by simp <;> omega) | with_reducible refine bstep ?_ (by assumption) | with_reducible refine btrans ?_ (by assumption))))
        clear a0 a1 a2
        have HN : Hid (¬ (la < x.n ∧ x.n ≤ 1048576 ∧ 0 ≤ x.s ∧ x.s ≤ (x.b.length : Int) ∧ (x.b.length : Int) ≤ room - u) → formedD room l = false) := Lib.hid (fun h => by
          rw [HFm.out, ← HT.out, HD.out, fineF, decide_eq_false h]; rfl)
        have HY : Hid ((la < x.n ∧ x.n ≤ 1048576 ∧ 0 ≤ x.s ∧ x.s ≤ (x.b.length : Int) ∧ (x.b.length : Int) ≤ room - u) → fineF x.n (room - u - x.b.length) (l.drop (k + 1)) = fineF (-1) room l) := Lib.hid (fun h => by
          rw [← HT.out, HD.out, fineF, decide_eq_true h]; rfl)
        have hz : w.heap.size < wr.heap.size := by have := hbr.size; simp at this; omega
        go_wp2
        all_goals first
          | (go_ret; exact ⟨ret_bool (HN.out (by simp_all; omega)).symm, by (repeat (first | with_reducible exact Below.refl _ _ | with_reducible assumption | with_reducible refine bdraw ?_ | with_reducible refine bdrewN ?_ _ | with_reducible refine balloc ?_ _ | with_reducible refine bset ?_ (by simp <;> omega) | with_reducible refine bstep ?_ (by assumption) | with_reducible refine btrans ?_ (by assumption)))⟩)
          | skip
        have hOK : la < x.n ∧ x.n ≤ 1048576 ∧ 0 ≤ x.s ∧ x.s ≤ (x.b.length : Int) ∧ (x.b.length : Int) ≤ room - u := by simp_all
        have HY2 := Lib.hid (HY.out hOK)
        obtain ⟨_, _, _, _, hle⟩ := hOK
        have hwr : IntKind.i64.wrap (u + (x.b.length : Int)) = u + (x.b.length : Int) := IntWalk.i64_in _ (by omega)
        go_quiet (fail)
        go_wp2
        go_roundw
        case rel => exact ⟨k + 1, u + x.b.length, x.n, by omega, by go_num, rfl, rfl, by omega, by omega, Lib.hid (by rw [show room - (u + (x.b.length : Int)) = room - u - x.b.length by omega]; exact HY2.out), by (repeat (first | with_reducible exact Below.refl _ _ | with_reducible assumption | with_reducible refine bdraw ?_ | with_reducible refine bdrewN ?_ _ | with_reducible refine balloc ?_ _ | with_reducible refine bset ?_ (by simp <;> omega) | with_reducible refine bstep ?_ (by assumption) | with_reducible refine btrans ?_ (by assumption)))⟩
        case measure => simp [intOf]; omega
      · have HR := Lib.hid (show formedD room l = true by rw [HFm.out, ← HT.out, List.drop_eq_nil_of_le (by omega)]; rfl)
        have hkI : ¬ (k : Int) < (l.length : Int) := by omega
        go_wp2
        go_ret
        exact ⟨ret_bool HR.out.symm, by (repeat (first | with_reducible exact Below.refl _ _ | with_reducible assumption | with_reducible refine bdraw ?_ | with_reducible refine bdrewN ?_ _ | with_reducible refine balloc ?_ _ | with_reducible refine bset ?_ (by simp <;> omega) | with_reducible refine bstep ?_ (by assumption) | with_reducible refine btrans ?_ (by assumption)))⟩
  · have HR : Hid (formedD room l = false) := Lib.hid (by unfold formedD; rw [decide_eq_false hr]; rfl)
    have h1 : room < 0 ∨ 16777216 < room := by omega
    clear hr
    rcases h1 with h1 | h1
    · go_wp2
      go_ret
      exact ⟨ret_bool HR.out.symm, by (repeat (first | with_reducible exact Below.refl _ _ | with_reducible assumption | with_reducible refine bdraw ?_ | with_reducible refine bdrewN ?_ _ | with_reducible refine balloc ?_ _ | with_reducible refine bset ?_ (by simp <;> omega) | with_reducible refine bstep ?_ (by assumption) | with_reducible refine btrans ?_ (by assumption)))⟩
    · go_wp2
      go_ret
      exact ⟨ret_bool HR.out.symm, by (repeat (first | with_reducible exact Below.refl _ _ | with_reducible assumption | with_reducible refine bdraw ?_ | with_reducible refine bdrewN ?_ _ | with_reducible refine balloc ?_ _ | with_reducible refine bset ?_ (by simp <;> omega) | with_reducible refine bstep ?_ (by assumption) | with_reducible refine btrans ?_ (by assumption)))⟩

set_option maxHeartbeats 1000000 in
theorem used_c {S : Foot} {v : Value} {room : Int} {l : List Fi} {w : World} (hp : Sl fiE S w v l) :
    Calls Tryd.prog 39 #[.agg #[.int .i64 room, v]] w fun e w' => e = .returned (.int .i64 (usedD room l)) ∧ Below w.heap.size w w' := by
  have hp := hp.any
  obtain ⟨A, cap, rfl, hc1, hc2, _⟩ := hp.shape
  unfold maxLen at hc2
  have q0 := at_new (w := w) (cs := #[.int .i64 room, .slice A l.length cap]) (t := 24) (i := 0) (v := .int .i64 room) rfl; have q1 := at_new (w := w) (cs := #[.int .i64 room, .slice A l.length cap]) (t := 24) (i := 1) (v := .slice A l.length cap) rfl
  have HC := Lib.hid (formed_c (room := room) (w := w.alloc (.cells #[.int .i64 room, .slice A l.length cap] 24)) (hp.below (by (repeat (first | with_reducible exact Below.refl _ _ | with_reducible assumption | with_reducible refine bdraw ?_ | with_reducible refine bdrewN ?_ _ | with_reducible refine balloc ?_ _ | with_reducible refine bset ?_ (by simp <;> omega) | with_reducible refine bstep ?_ (by assumption) | with_reducible refine btrans ?_ (by assumption)))) (Nat.le_refl _)))
  go_enter Tryd.func39, Tryd.ntmps39
  cases hf : formedD room l with
  | false =>
    rw [hf] at HC
    have HR : Hid (usedD room l = 0) := Lib.hid (by unfold usedD; rw [hf]; rfl)
    clear hf
    go_wp2_with (go_at_call 18; refine HC.out.mono ?_; rintro e w1 ⟨rfl, b1⟩)
    go_ret
    exact ⟨ret_int HR.out.symm, by (repeat (first | with_reducible exact Below.refl _ _ | with_reducible assumption | with_reducible refine bdraw ?_ | with_reducible refine bdrewN ?_ _ | with_reducible refine balloc ?_ _ | with_reducible refine bset ?_ (by simp <;> omega) | with_reducible refine bstep ?_ (by assumption) | with_reducible refine btrans ?_ (by assumption)))⟩
  | true =>
    rw [hf] at HC
    have hsz := formedD_size hf
    have HR : Hid (usedD room l = (sizeD l : Int)) := Lib.hid (by unfold usedD; rw [hf]; rfl)
    clear hf
    go_wp2_with (go_at_call 18; refine HC.out.mono ?_; rintro e w1 ⟨rfl, b1⟩; have d0 := atb q0 (w' := w1) (by (repeat (first | with_reducible exact Below.refl _ _ | with_reducible assumption | with_reducible refine bdraw ?_ | with_reducible refine bdrewN ?_ _ | with_reducible refine balloc ?_ _ | with_reducible refine bset ?_ (by simp <;> omega) | with_reducible refine bstep ?_ (by assumption) | with_reducible refine btrans ?_ (by assumption)))); have d1 := atb q1 (w' := w1) (by (repeat (first | with_reducible exact Below.refl _ _ | with_reducible assumption | with_reducible refine bdraw ?_ | with_reducible refine bdrewN ?_ _ | with_reducible refine balloc ?_ _ | with_reducible refine bset ?_ (by simp <;> omega) | with_reducible refine bstep ?_ (by assumption) | with_reducible refine btrans ?_ (by assumption)))))
    have hz1 := b1.size
    simp only [World.size_alloc] at hz1
    go_loopw [3, 12] (fun uv iv wr => ∃ (k u : Nat), k ≤ l.length ∧ iv = .int .i64 k ∧ uv = .int .i64 (u : Int) ∧ u + sizeD (l.drop k) = sizeD l ∧ Below w1.heap.size w1 wr) (fun _ iv _ => l.length - (intOf iv).toNat)
    case atStart => exact ⟨0, 0, Nat.zero_le _, by go_num, rfl, by simp, Below.refl _ _⟩
    case round =>
      obtain ⟨k, u, hk, rfl, rfl, HT, hbr⟩ := hrel
      by_cases hlt : k < l.length
      · obtain ⟨b, off, Av, cv, rfl, a0, a1, a2, hv⟩ := (hp.below (by (repeat (first | with_reducible exact Below.refl _ _ | with_reducible assumption | with_reducible refine bdraw ?_ | with_reducible refine bdrewN ?_ _ | with_reducible refine balloc ?_ _ | with_reducible refine bset ?_ (by simp <;> omega) | with_reducible refine bstep ?_ (by assumption) | with_reducible refine btrans ?_ (by assumption)))) (Nat.le_refl _)).fi hlt
        have HD := List.drop_eq_getElem_cons hlt
        rw [HD, sizeD] at HT
        clear HD
        generalize l[k] = x at *
        obtain ⟨_, _, e, hcv1, hcv2, _⟩ := hv.shape
        injection e with _ _ e
        subst e
        have hkI : (k : Int) < (l.length : Int) := by omega
        have c0 := atb a0 (w' := wr) (by (repeat (first | with_reducible exact Below.refl _ _ | with_reducible assumption | with_reducible refine bdraw ?_ | with_reducible refine bdrewN ?_ _ | with_reducible refine balloc ?_ _ | with_reducible refine bset ?_ (by simp <;> omega) | with_reducible refine bstep ?_ (by assumption) | with_reducible refine btrans ?_ (by assumption)))); have c1 := atb a1 (w' := wr) (by (repeat (first | with_reducible exact Below.refl _ _ | with_reducible assumption | with_reducible refine bdraw ?_ | with_reducible refine bdrewN ?_ _ | with_reducible refine balloc ?_ _ | with_reducible refine bset ?_ (by simp <;> omega) | with_reducible refine bstep ?_ (by assumption) | with_reducible refine btrans ?_ (by assumption)))); have c2 := atb a2 (w' := wr) (by (repeat (first | with_reducible exact Below.refl _ _ | with_reducible assumption | with_reducible refine bdraw ?_ | with_reducible refine bdrewN ?_ _ | with_reducible refine balloc ?_ _ | with_reducible refine bset ?_ (by simp <;> omega) | with_reducible refine bstep ?_ (by assumption) | with_reducible refine btrans ?_ (by assumption))))
        clear a0 a1 a2
        have hwr : IntKind.i64.wrap ((u : Int) + (x.b.length : Int)) = (u : Int) + (x.b.length : Int) := IntWalk.i64_in _ (by omega)
        have HT2 : Hid (u + x.b.length + sizeD (l.drop (k + 1)) = sizeD l) := Lib.hid (by omega)
        clear HT
        go_wp2
        go_roundw
        case rel => exact ⟨k + 1, u + x.b.length, by omega, by go_num, by go_num, HT2.out, by (repeat (first | with_reducible exact Below.refl _ _ | with_reducible assumption | with_reducible refine bdraw ?_ | with_reducible refine bdrewN ?_ _ | with_reducible refine balloc ?_ _ | with_reducible refine bset ?_ (by simp <;> omega) | with_reducible refine bstep ?_ (by assumption) | with_reducible refine btrans ?_ (by assumption)))⟩
        case measure => simp [intOf]; omega
      · have HR2 := Lib.hid (show usedD room l = (u : Int) by rw [HR.out]; rw [List.drop_eq_nil_of_le (by omega)] at HT; simp [sizeD] at HT; omega)
        have hkI : ¬ (k : Int) < (l.length : Int) := by omega
        clear HT
        go_wp2
        go_ret
        exact ⟨ret_int HR2.out.symm, by (repeat (first | with_reducible exact Below.refl _ _ | with_reducible assumption | with_reducible refine bdraw ?_ | with_reducible refine bdrewN ?_ _ | with_reducible refine balloc ?_ _ | with_reducible refine bset ?_ (by simp <;> omega) | with_reducible refine bstep ?_ (by assumption) | with_reducible refine btrans ?_ (by assumption)))⟩
end Go.Proofs.YtbahiohlhhdkcaaDoor
