/- Shelves: where an object's write stands. -/
import Derived.Test.YtkocbhcklnjomaaWrg
namespace Go.Proofs.Ytkocbhcklnjomaa
open Go.RowKit

def Up (l : List Wr) : Prop := ∀ (i j : Nat) (_ : i < j) (hj : j < l.length), l[i].o < l[j].o
def Lows (l : List Wr) (o : Int) (i : Nat) : Prop := ∀ (m : Nat) (h : m < l.length), m < i → l[m].o < o
def Highs (l : List Wr) (o : Int) (j : Nat) : Prop := ∀ (m : Nat) (h : m < l.length), j ≤ m → o ≤ l[m].o

theorem place1_c (x : Wr) (o : Int) (w : World) :
    Calls Try.prog 33 #[.agg #[.int .i64 x.c, .int .i64 x.n, .int .i64 x.o, .bool x.g], .int .i64 o] w fun e w' => e = .returned (.int .i64 (cmp2 x.o o)) ∧ Below w.heap.size w w' := by
  go_enter Try.func33, Try.ntmps33
  go_wp2_with (go_at_call 34; refine (cmp2_c _ _ _).mono ?_; rintro e w1 ⟨rfl, rfl⟩)
  go_ret
  exact ⟨rfl, by (repeat (first | with_reducible exact Below.refl _ _ | with_reducible assumption | with_reducible refine bdraw ?_ | with_reducible refine bdrewN ?_ _ | with_reducible refine balloc ?_ _ | with_reducible refine bset ?_ (by simp <;> omega) | with_reducible refine bstep ?_ (by assumption) | with_reducible refine btrans ?_ (by assumption)))⟩
theorem cmp2_lt {a b : Int} : cmp2 a b < 0 ↔ a < b := by unfold cmp2; split <;> (try split) <;> omega
theorem cmp2_eq {a b : Int} : cmp2 a b = 0 ↔ a = b := by unfold cmp2; split <;> (try split) <;> omega

/-- what the search hands back -/
def Placed (l : List Wr) (o : Int) (w : World) (e : Ending) (w' : World) : Prop :=
  ∃ (i : Nat) (f : Bool), e = .returned (.tuple #[.int .i64 i, .bool f]) ∧ Hid (i ≤ l.length ∧ Lows l o i ∧ Highs l o i ∧ (f = true ↔ ∃ h : i < l.length, l[i].o = o)) ∧ Below w.heap.size w w'
set_option maxHeartbeats 2000000 in
theorem bsearch_c {S : Foot} {v : Value} {l : List Wr} {o : Int} {w : World} (hp : Sl wrE S w v l) (hu : Up l) (hn : l.length ≤ 4398046511104) :
    Calls Try.prog 32 #[v, .int .i64 o, .func (.func 33) #[] #[]] w (Placed l o w) := by
  have hp := hp.any
  obtain ⟨A, cap, rfl, hc1, hc2, _⟩ := hp.shape
  unfold maxLen at hc2
  go_enter Try.func32, Try.ntmps32
  go_wp2
  go_loopw [9, 10, 11] (fun iv jv _ wr => ∃ i j : Nat, i ≤ j ∧ j ≤ l.length ∧ iv = .int .i64 i ∧ jv = .int .i64 j ∧ Hid (Lows l o i ∧ Highs l o j) ∧ Below w.heap.size w wr) (fun iv jv _ _ => (intOf jv - intOf iv).toNat)
  case atStart => exact ⟨0, l.length, Nat.zero_le _, Nat.le_refl _, rfl, rfl, Lib.hid ⟨fun m _ h => absurd h (by omega), fun m h h' => absurd h (by omega)⟩, Below.refl _ _⟩
  case round =>
    obtain ⟨i, j, hij, hj, rfl, rfl, HI, hbr⟩ := hrel
    by_cases hlt : i < j
    · obtain ⟨m, hm, hm1, hm2⟩ : ∃ m : Nat, ((i : Int) + (j : Int)) / 2 = (m : Int) ∧ i ≤ m ∧ m < j := ⟨(i + j) / 2, by omega, by omega, by omega⟩
      have hml : m < l.length := by omega
      obtain ⟨b, off, rfl, a0, a1, a2, a3⟩ := (hp.below (by (repeat (first | with_reducible exact Below.refl _ _ | with_reducible assumption | with_reducible refine bdraw ?_ | with_reducible refine bdrewN ?_ _ | with_reducible refine balloc ?_ _ | with_reducible refine bset ?_ (by simp <;> omega) | with_reducible refine bstep ?_ (by assumption) | with_reducible refine btrans ?_ (by assumption)))) (Nat.le_refl _)).wr hml
      have HU := Lib.hid (fun (q : Nat) (hq : q < l.length) => (⟨fun h => hu m q h hq, fun h => hu q m h hml⟩ : (m < q → l[m].o < l[q].o) ∧ (q < m → l[q].o < l[m].o)))
      have HE := Lib.hid (fun (q : Nat) (hq : q < l.length) (h : q = m) => (by subst h; rfl : l[q].o = l[m].o))
      generalize l[m] = x at *
      have HC := fun (w : World) => Lib.hid (place1_c x o w)
      have c0 := atb a0 (w' := wr) (by (repeat (first | with_reducible exact Below.refl _ _ | with_reducible assumption | with_reducible refine bdraw ?_ | with_reducible refine bdrewN ?_ _ | with_reducible refine balloc ?_ _ | with_reducible refine bset ?_ (by simp <;> omega) | with_reducible refine bstep ?_ (by assumption) | with_reducible refine btrans ?_ (by assumption)))); have c1 := atb a1 (w' := wr) (by (repeat (first | with_reducible exact Below.refl _ _ | with_reducible assumption | with_reducible refine bdraw ?_ | with_reducible refine bdrewN ?_ _ | with_reducible refine balloc ?_ _ | with_reducible refine bset ?_ (by simp <;> omega) | with_reducible refine bstep ?_ (by assumption) | with_reducible refine btrans ?_ (by assumption)))); have c2 := atb a2 (w' := wr) (by (repeat (first | with_reducible exact Below.refl _ _ | with_reducible assumption | with_reducible refine bdraw ?_ | with_reducible refine bdrewN ?_ _ | with_reducible refine balloc ?_ _ | with_reducible refine bset ?_ (by simp <;> omega) | with_reducible refine bstep ?_ (by assumption) | with_reducible refine btrans ?_ (by assumption)))); have c3 := atb a3 (w' := wr) (by (repeat (first | with_reducible exact Below.refl _ _ | with_reducible assumption | with_reducible refine bdraw ?_ | with_reducible refine bdrewN ?_ _ | with_reducible refine balloc ?_ _ | with_reducible refine bset ?_ (by simp <;> omega) | with_reducible refine bstep ?_ (by assumption) | with_reducible refine btrans ?_ (by assumption))))
      have hltI : (i : Int) < (j : Int) := by omega
      have hmI : (m : Int) < (l.length : Int) := by omega
      by_cases hc : cmp2 x.o o < 0
      · have d1 : decide (cmp2 x.o o < 0) = true := decide_eq_true hc
        have hlo := Lib.hid (cmp2_lt.1 hc)
        clear hc a0 a1 a2 a3
        go_wp2_with (go_at_call 33; refine (HC _).out.mono ?_; rintro e w1 ⟨rfl, b1⟩)
        go_roundw
        case rel => exact ⟨m + 1, j, by omega, hj, by go_num, rfl, Lib.hid ⟨fun q hq hqm => by
            rcases Nat.lt_or_ge q m with h | h
            · have := (HU.out q hq).2 h; have := hlo.out; omega
            · have := HE.out q hq (by omega); have := hlo.out; omega, HI.out.2⟩, by (repeat (first | with_reducible exact Below.refl _ _ | with_reducible assumption | with_reducible refine bdraw ?_ | with_reducible refine bdrewN ?_ _ | with_reducible refine balloc ?_ _ | with_reducible refine bset ?_ (by simp <;> omega) | with_reducible refine bstep ?_ (by assumption) | with_reducible refine btrans ?_ (by assumption)))⟩
        case measure => simp [intOf]; omega
      · have d1 : decide (cmp2 x.o o < 0) = false := decide_eq_false hc
        have hlo := Lib.hid (show o ≤ x.o by have := mt cmp2_lt.2 hc; omega)
        clear hc a0 a1 a2 a3
        go_wp2_with (go_at_call 33; refine (HC _).out.mono ?_; rintro e w1 ⟨rfl, b1⟩)
        go_roundw
        case rel => exact ⟨i, m, hm1, by omega, rfl, rfl, Lib.hid ⟨HI.out.1, fun q hq hqm => by
            rcases Nat.lt_or_ge m q with h | h
            · have := (HU.out q hq).1 h; have := hlo.out; omega
            · have := HE.out q hq (by omega); have := hlo.out; omega⟩, by (repeat (first | with_reducible exact Below.refl _ _ | with_reducible assumption | with_reducible refine bdraw ?_ | with_reducible refine bdrewN ?_ _ | with_reducible refine balloc ?_ _ | with_reducible refine bset ?_ (by simp <;> omega) | with_reducible refine bstep ?_ (by assumption) | with_reducible refine btrans ?_ (by assumption)))⟩
        case measure => simp [intOf]; omega
    · have hlt' : ¬ (i : Int) < (j : Int) := by omega
      obtain rfl : i = j := by omega
      rcases Nat.lt_or_ge i l.length with h | h
      · obtain ⟨b, off, rfl, a0, a1, a2, a3⟩ := (hp.below (by (repeat (first | with_reducible exact Below.refl _ _ | with_reducible assumption | with_reducible refine bdraw ?_ | with_reducible refine bdrewN ?_ _ | with_reducible refine balloc ?_ _ | with_reducible refine bset ?_ (by simp <;> omega) | with_reducible refine bstep ?_ (by assumption) | with_reducible refine btrans ?_ (by assumption)))) (Nat.le_refl _)).wr h
        have HE := Lib.hid (fun (h' : i < l.length) => (rfl : l[i].o = l[i].o))
        have HF := Lib.hid (fun (f : Bool) (hf : f = true ↔ l[i].o = o) => (⟨fun e => ⟨h, hf.1 e⟩, fun ⟨_, e⟩ => hf.2 e⟩ : f = true ↔ ∃ h : i < l.length, l[i].o = o))
        generalize l[i] = x at HF a0 a1 a2 a3
        have HC := fun (w : World) => Lib.hid (place1_c x o w)
        have c0 := atb a0 (w' := wr) (by (repeat (first | with_reducible exact Below.refl _ _ | with_reducible assumption | with_reducible refine bdraw ?_ | with_reducible refine bdrewN ?_ _ | with_reducible refine balloc ?_ _ | with_reducible refine bset ?_ (by simp <;> omega) | with_reducible refine bstep ?_ (by assumption) | with_reducible refine btrans ?_ (by assumption)))); have c1 := atb a1 (w' := wr) (by (repeat (first | with_reducible exact Below.refl _ _ | with_reducible assumption | with_reducible refine bdraw ?_ | with_reducible refine bdrewN ?_ _ | with_reducible refine balloc ?_ _ | with_reducible refine bset ?_ (by simp <;> omega) | with_reducible refine bstep ?_ (by assumption) | with_reducible refine btrans ?_ (by assumption)))); have c2 := atb a2 (w' := wr) (by (repeat (first | with_reducible exact Below.refl _ _ | with_reducible assumption | with_reducible refine bdraw ?_ | with_reducible refine bdrewN ?_ _ | with_reducible refine balloc ?_ _ | with_reducible refine bset ?_ (by simp <;> omega) | with_reducible refine bstep ?_ (by assumption) | with_reducible refine btrans ?_ (by assumption)))); have c3 := atb a3 (w' := wr) (by (repeat (first | with_reducible exact Below.refl _ _ | with_reducible assumption | with_reducible refine bdraw ?_ | with_reducible refine bdrewN ?_ _ | with_reducible refine balloc ?_ _ | with_reducible refine bset ?_ (by simp <;> omega) | with_reducible refine bstep ?_ (by assumption) | with_reducible refine btrans ?_ (by assumption))))
        have hiI : (i : Int) < (l.length : Int) := by omega
        clear a0 a1 a2 a3
        go_wp2_with (go_at_call 33; refine (HC _).out.mono ?_; rintro e w1 ⟨rfl, b1⟩)
        go_ret2
        exact ⟨i, _, rfl, Lib.hid ⟨hj, HI.out.1, HI.out.2, HF.out _ (by simp [cmp2_eq])⟩, by (repeat (first | with_reducible exact Below.refl _ _ | with_reducible assumption | with_reducible refine bdraw ?_ | with_reducible refine bdrewN ?_ _ | with_reducible refine balloc ?_ _ | with_reducible refine bset ?_ (by simp <;> omega) | with_reducible refine bstep ?_ (by assumption) | with_reducible refine btrans ?_ (by assumption)))⟩
      · have hiI : ¬ (i : Int) < (l.length : Int) := by omega
        go_wp2
        go_ret2
        exact ⟨i, false, rfl, Lib.hid ⟨hj, HI.out.1, HI.out.2, by simp; omega⟩, hbr⟩
theorem place_c {S : Foot} {v : Value} {l : List Wr} {o : Int} {w : World} (hp : Sl wrE S w v l) (hu : Up l) (hn : l.length ≤ 4398046511104) :
    Calls Try.prog 22 #[v, .int .i64 o] w (Placed l o w) := by
  have HC := Lib.hid (bsearch_c (o := o) hp hu hn)
  clear hp hu
  go_enter Try.func22, Try.ntmps22
  go_wp2_with (go_at_call 32; refine HC.out.mono ?_; rintro e w1 ⟨i, f, rfl, HI, b1⟩)
  go_ret2
  exact ⟨i, f, rfl, HI, b1⟩
end Go.Proofs.Ytkocbhcklnjomaa
