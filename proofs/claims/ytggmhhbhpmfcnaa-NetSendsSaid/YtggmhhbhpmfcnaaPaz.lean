/- NetSends, walked. -/
import Derived.Test.YtggmhhbhpmfcnaaPay
namespace Go.Proofs.Ytggmhhbhpmfcnaa
open Go.RowKit

/-- bytes that read, whatever they are -/
def RdU (S : Foot) (w : World) (A : Option Addr) (n : Nat) : Prop := ∀ k, k < n → ∃ b off, A = some ⟨b, off, none⟩ ∧ ∃ y : UInt8, At S w b (off + k) (.int .u8 (y.toNat : Int))
theorem RdU.of {S : Foot} {w : World} {A : Option Addr} {n c : Nat} {l : List UInt8} (h : Sl u8E S w (.slice A n c) l) : RdU S w A n := by
  intro k hk
  have hn := h.cells.1
  subst hn
  obtain ⟨b, off, e, hat⟩ := h.byte hk
  exact ⟨b, off, e, _, hat⟩
theorem RdU.store {S : Foot} {w : World} {A : Option Addr} {n : Nat} (h : RdU S w A n) {S' : Foot} {b o : Nat} {u : Value} (h0 : At S' w b o u) (hS : ∀ b fr, S' b fr → fr = (0, 0)) (y : UInt8) :
    RdU S (w.setCell ⟨b, o, none⟩ (.int .u8 (y.toNat : Int))) A n := by
  intro k hk
  obtain ⟨b', off, e, z, c, t, fr, hb, hc, hs⟩ := h k hk
  obtain ⟨c0, t0, fr0, hb0, hc0, hs0⟩ := h0
  have := hS _ _ hs0
  subst this
  by_cases hbb : b' = b
  · subst hbb
    rw [hb] at hb0
    injection hb0 with hb0
    injection hb0 with e1 e2 e3
    subst e1 e2 e3
    have hrow := heap_setCell_same w b' o c t (.int .u8 (y.toNat : Int)) hb
    by_cases ho : o = off + k
    · subst ho
      refine ⟨b', off, e, y, _, t, _, hrow, ?_, hs⟩
      rw [Array.getElem?_setIfInBounds, if_pos rfl, if_pos (Array.getElem?_eq_some_iff.1 hc).1]
    · refine ⟨b', off, e, z, _, t, _, hrow, ?_, hs⟩
      rw [Array.getElem?_setIfInBounds, if_neg ho]
      exact hc
  · exact ⟨b', off, e, z, c, t, fr, (heap_setCell_other w ⟨b, o, none⟩ b' _ hbb).trans hb, hc, hs⟩
/-- packets that read, whatever their bytes are -/
def RdB (B : Nat) (A : Option Addr) (w : World) (n : Nat) : Prop := ∀ i, i < n → ∃ g Av nv cv, A = some ⟨g, 0, none⟩ ∧ w.cell? ⟨g, i * 4 + 3, none⟩ = some (.slice Av nv cv) ∧ nv ≤ cv ∧ cv ≤ maxLen ∧ RdU (HiN B (some g)) w Av nv
theorem RdB.of {B : Nat} {w : World} {t : TypeId} {A : Option Addr} {c : Nat} {l : List Pk} (h : Own pkE (HiN B (Value.slice A l.length c).ownBlock) w B t (.slice A l.length c) l) : RdB B A w l.length := by
  intro i hi
  obtain ⟨xs, ho, hr⟩ := h
  obtain ⟨g, cap, e, _⟩ := ho.form (by omega)
  injection e with e1 e2 e3
  subst e1 e3
  obtain ⟨cs, ⟨_, u, hu, _, hs⟩, hl, hcs⟩ := hr.at_ (List.getElem?_eq_getElem hi)
  subst hu
  have hx : xs[i * 4 + 3]? = some u := hcs 3 _ rfl
  obtain ⟨Av, cv, rfl, h1, h2, _⟩ := hs.shape
  refine ⟨g, Av, _, cv, rfl, ?_, h1, h2, RdU.of hs⟩
  rw [ho.cellAt (i * 4 + 3) (by show i * 4 + 3 < l.length * 4; omega)]
  exact hx
theorem RdB.store {B : Nat} {A : Option Addr} {w : World} {n g b o : Nat} {u : Value} (h : RdB B A w n) (hg : A = some ⟨g, 0, none⟩) (h0 : At (HiN B (some g)) w b o u) (y : UInt8) : RdB B A (w.setCell ⟨b, o, none⟩ (.int .u8 (y.toNat : Int))) n := by
  intro i hi
  obtain ⟨g', Av, nv, cv, e, hc, h1, h2, hr⟩ := h i hi
  rw [hg] at e
  injection e with e
  injection e with e
  subst e
  have hne : g ≠ b := by
    obtain ⟨_, _, _, _, _, hs⟩ := h0
    exact fun e => hs.2.2 (by rw [e])
  exact ⟨g, Av, nv, cv, hg, (cell_far hne).trans hc, h1, h2, hr.store h0 (fun _ _ h => h.2.1) y⟩


attribute [local go_sem] u8_flip
set_option maxHeartbeats 4000000 in
theorem netsends_c {S S' : Foot} {v u : Value} {l : List Pk} {f t : Int} {list : List (List UInt8)} {w : World} (hp : Sl pkE S w v l) (hq : Sl (slE u8E) S' w u list) (hl : l.length ≤ 2199023255550) (hf : Fit l) (hg : ∀ b ∈ list, b.length ≤ 140737488355328) (hn : list.length ≤ 140737488355328) :
    Calls Try.prog 3 #[v, .agg #[.int .i64 f, .int .i64 t], u] w fun e w' => e = .returned (.bool true) ∧ Below w.heap.size w w' := by
  have hp := hp.any
  have hq := hq.any
  have e0 := at_new (w := w) (cs := #[.int .i64 f, .int .i64 t]) (t := 23) (i := 0) (v := .int .i64 f) rfl; have e1 := at_new (w := w) (cs := #[.int .i64 f, .int .i64 t]) (t := 23) (i := 1) (v := .int .i64 t) rfl
  go_enter Try.func3, Try.ntmps3
  go_wp2_with fail
  refine (alive_c (w := _)).mono ?_
  rintro e w1 ⟨rfl, b1⟩
  go_wp2_with fail
  refine (rcopied_c (hp.below (by (repeat (first | with_reducible exact Below.refl _ _ | with_reducible assumption | with_reducible refine bdraw ?_ | with_reducible refine bdrewN ?_ _ | with_reducible refine balloc ?_ _ | with_reducible refine bset ?_ (by simp <;> omega) | with_reducible refine bstep ?_ (by assumption) | with_reducible refine btrans ?_ (by assumption)))) (Nat.le_refl _)) hl hf).mono ?_
  rintro e w2 ⟨v2, rfl, o2, b2⟩
  have hs2 := o2.slAny
  have x0 := atb e0 (w' := w2) (by (repeat (first | with_reducible exact Below.refl _ _ | with_reducible assumption | with_reducible refine bdraw ?_ | with_reducible refine bdrewN ?_ _ | with_reducible refine balloc ?_ _ | with_reducible refine bset ?_ (by simp <;> omega) | with_reducible refine bstep ?_ (by assumption) | with_reducible refine btrans ?_ (by assumption)))); have x1 := atb e1 (w' := w2) (by (repeat (first | with_reducible exact Below.refl _ _ | with_reducible assumption | with_reducible refine bdraw ?_ | with_reducible refine bdrewN ?_ _ | with_reducible refine balloc ?_ _ | with_reducible refine bset ?_ (by simp <;> omega) | with_reducible refine bstep ?_ (by assumption) | with_reducible refine btrans ?_ (by assumption))))
  go_wp2_with fail
  refine (send_c (f := f) (t := t) (hs2.below (by (repeat (first | with_reducible exact Below.refl _ _ | with_reducible assumption | with_reducible refine bdraw ?_ | with_reducible refine bdrewN ?_ _ | with_reducible refine balloc ?_ _ | with_reducible refine bset ?_ (by simp <;> omega) | with_reducible refine bstep ?_ (by assumption) | with_reducible refine btrans ?_ (by assumption)))) (Nat.le_refl _)) (hq.below (by (repeat (first | with_reducible exact Below.refl _ _ | with_reducible assumption | with_reducible refine bdraw ?_ | with_reducible refine bdrewN ?_ _ | with_reducible refine balloc ?_ _ | with_reducible refine bset ?_ (by simp <;> omega) | with_reducible refine bstep ?_ (by assumption) | with_reducible refine btrans ?_ (by assumption)))) (Nat.le_refl _)) hf hg hn).mono ?_
  rintro e w3 ⟨v3, rfl, o3, b3⟩
  have hs3 := o3.slAny
  clear x0 x1
  have x0 := atb e0 (w' := w3) (by (repeat (first | with_reducible exact Below.refl _ _ | with_reducible assumption | with_reducible refine bdraw ?_ | with_reducible refine bdrewN ?_ _ | with_reducible refine balloc ?_ _ | with_reducible refine bset ?_ (by simp <;> omega) | with_reducible refine bstep ?_ (by assumption) | with_reducible refine btrans ?_ (by assumption)))); have x1 := atb e1 (w' := w3) (by (repeat (first | with_reducible exact Below.refl _ _ | with_reducible assumption | with_reducible refine bdraw ?_ | with_reducible refine bdrewN ?_ _ | with_reducible refine balloc ?_ _ | with_reducible refine bset ?_ (by simp <;> omega) | with_reducible refine bstep ?_ (by assumption) | with_reducible refine btrans ?_ (by assumption))))
  go_wp2_with fail
  refine (rsend_c (f := f) (t := t) (hp.below (by (repeat (first | with_reducible exact Below.refl _ _ | with_reducible assumption | with_reducible refine bdraw ?_ | with_reducible refine bdrewN ?_ _ | with_reducible refine balloc ?_ _ | with_reducible refine bset ?_ (by simp <;> omega) | with_reducible refine bstep ?_ (by assumption) | with_reducible refine btrans ?_ (by assumption)))) (Nat.le_refl _)) (hq.below (by (repeat (first | with_reducible exact Below.refl _ _ | with_reducible assumption | with_reducible refine bdraw ?_ | with_reducible refine bdrewN ?_ _ | with_reducible refine balloc ?_ _ | with_reducible refine bset ?_ (by simp <;> omega) | with_reducible refine bstep ?_ (by assumption) | with_reducible refine btrans ?_ (by assumption)))) (Nat.le_refl _)) hf hg hn).mono ?_
  rintro e w4 ⟨v4, rfl, o4, b4⟩
  have hs4 := o4.slAny
  clear x0 x1 o2 o4
  generalize sendE l f t list = se
  generalize hpl : sends l f t list = pl at *
  clear hpl
  have H1 := Lib.hid (same_pk_c (w := w4) (hs3.below (by (repeat (first | with_reducible exact Below.refl _ _ | with_reducible assumption | with_reducible refine bdraw ?_ | with_reducible refine bdrewN ?_ _ | with_reducible refine balloc ?_ _ | with_reducible refine bset ?_ (by simp <;> omega) | with_reducible refine bstep ?_ (by assumption) | with_reducible refine btrans ?_ (by assumption)))) (Nat.le_refl _)) hs4)
  rw [beq_self_eq_true] at H1
  go_wp2_with (first
    | (go_at_call 11; go_must (refine H1.out.mono ?_; rintro e w5 ⟨rfl, b5⟩))
    | (go_at_call 12; go_must (refine (formed_c (hs2.below (by (repeat (first | with_reducible exact Below.refl _ _ | with_reducible assumption | with_reducible refine bdraw ?_ | with_reducible refine bdrewN ?_ _ | with_reducible refine balloc ?_ _ | with_reducible refine bset ?_ (by simp <;> omega) | with_reducible refine bstep ?_ (by assumption) | with_reducible refine btrans ?_ (by assumption)))) (Nat.le_refl _))).mono ?_; rintro e w6 ⟨rfl, b6⟩))
    | (go_at_call 13; go_must (refine (rformed_c (hp.below (by (repeat (first | with_reducible exact Below.refl _ _ | with_reducible assumption | with_reducible refine bdraw ?_ | with_reducible refine bdrewN ?_ _ | with_reducible refine balloc ?_ _ | with_reducible refine bset ?_ (by simp <;> omega) | with_reducible refine bstep ?_ (by assumption) | with_reducible refine btrans ?_ (by assumption)))) (Nat.le_refl _))).mono ?_; rintro e w7 ⟨rfl, b7⟩)))
  have o7 := o3.below (w' := w7) (by (repeat (first | with_reducible exact Below.refl _ _ | with_reducible assumption | with_reducible refine bdraw ?_ | with_reducible refine bdrewN ?_ _ | with_reducible refine balloc ?_ _ | with_reducible refine bset ?_ (by simp <;> omega) | with_reducible refine bstep ?_ (by assumption) | with_reducible refine btrans ?_ (by assumption)))) (Nat.le_refl _)
  have hB0 : w.heap.size ≤ w2.heap.size := by have h1 := b1.size; have h2 := b2.size; simp at h1; omega
  have hB7 : Below w2.heap.size w2 w7 := by (repeat (first | with_reducible exact Below.refl _ _ | with_reducible assumption | with_reducible refine bdraw ?_ | with_reducible refine bdrewN ?_ _ | with_reducible refine balloc ?_ _ | with_reducible refine bset ?_ (by simp <;> omega) | with_reducible refine bstep ?_ (by assumption) | with_reducible refine btrans ?_ (by assumption)))
  obtain ⟨A9, c9, rfl, hd1, hd2, _⟩ := hs3.shape
  unfold maxLen at hd2
  have HRB := RdB.of o7
  generalize pl.length = n9 at *
  clear H1 o3 o7 hs3 hs4 e0 e1
  go_loopw [13, 14] (fun i _ wr => ∃ q : Nat, q ≤ n9 ∧ i = .int .i64 q ∧ RdB w2.heap.size A9 wr n9 ∧ Below w2.heap.size w7 wr) (fun i _ _ => n9 - (intOf i).toNat)
  case atStart => exact ⟨0, Nat.zero_le _, rfl, HRB, Below.refl _ _⟩
  case round =>
    obtain ⟨q, hq, rfl, hrb, hbel⟩ := hrel
    by_cases hlt : q < n9
    · obtain ⟨g, Av, nv, cv, rfl, hc, hnv, hcv, hru⟩ := hrb q hlt
      unfold maxLen at hcv
      generalize hwz : wr = wz at *
      clear hwz
      go_wp2
      go_loopw [14] (fun k wr2 => ∃ j : Nat, j ≤ nv ∧ k = .int .i64 j ∧ wr2.cell? ⟨g, q * 4 + 3, none⟩ = some (.slice Av nv cv) ∧ RdU (HiN w2.heap.size (some g)) wr2 Av nv ∧ RdB w2.heap.size (some ⟨g, 0, none⟩) wr2 n9 ∧ Below w2.heap.size w7 wr2) (fun k _ => nv - (intOf k).toNat)
      case atStart => exact ⟨0, Nat.zero_le _, rfl, hc, hru, hrb, hbel⟩
      case round =>
        obtain ⟨j, hj, rfl, hc2, hru2, hrb2, hbel2⟩ := hrel
        by_cases hlt2 : j < nv
        · obtain ⟨b, off, rfl, y, hat⟩ := hru2 j hlt2
          have hcell := hat.cell
          have hfr := hat.frozen (fun b fr h => h.2.1)
          have hst := hrb2.store rfl hat (xr y 255)
          have hsu := hru2.store hat (fun _ _ h => h.2.1) (xr y 255)
          have hge : w2.heap.size ≤ b := by obtain ⟨_, _, _, _, _, h⟩ := hat; exact h.1
          have hne : g ≠ b := by obtain ⟨_, _, _, _, _, h⟩ := hat; exact fun e => h.2.2 (by rw [e])
          have hcc := (cell_far (p := ⟨b, off + j, none⟩) (q := ⟨g, q * 4 + 3, none⟩) (u := .int .u8 ((xr y 255).toNat : Int)) hne).trans hc2
          clear hat
          go_wp2
          go_roundw
          case rel => exact ⟨j + 1, by omega, by go_num, hcc, hsu, hst, hbel2.setCell hge _⟩
          case measure => simp [intOf]; omega
        · go_wp2
          go_roundw
          case rel => exact ⟨q + 1, by omega, by go_num, hrb2, hbel2⟩
          case measure => simp [intOf]; omega
    · have hbel' := hbel.mono hB0
      have H3 := Lib.hid (same_pk_c (w := wr) (l := l) (m := l) (v := v2) (u := v) (hs2.below (by (repeat (first | with_reducible exact Below.refl _ _ | with_reducible assumption | with_reducible refine bdraw ?_ | with_reducible refine bdrewN ?_ _ | with_reducible refine balloc ?_ _ | with_reducible refine bset ?_ (by simp <;> omega) | with_reducible refine bstep ?_ (by assumption) | with_reducible refine btrans ?_ (by assumption)))) (Nat.le_refl _)) (hp.below (by (repeat (first | with_reducible exact Below.refl _ _ | with_reducible assumption | with_reducible refine bdraw ?_ | with_reducible refine bdrewN ?_ _ | with_reducible refine balloc ?_ _ | with_reducible refine bset ?_ (by simp <;> omega) | with_reducible refine bstep ?_ (by assumption) | with_reducible refine btrans ?_ (by assumption)))) (Nat.le_refl _)))
      rw [beq_self_eq_true] at H3
      go_wp2_with (go_at_call 11; refine H3.out.mono ?_; rintro e w8 ⟨rfl, b8⟩)
      go_ret
      exact ⟨rfl, by (repeat (first | with_reducible exact Below.refl _ _ | with_reducible assumption | with_reducible refine bdraw ?_ | with_reducible refine bdrewN ?_ _ | with_reducible refine balloc ?_ _ | with_reducible refine bset ?_ (by simp <;> omega) | with_reducible refine bstep ?_ (by assumption) | with_reducible refine btrans ?_ (by assumption)))⟩
end Go.Proofs.Ytggmhhbhpmfcnaa
