/- Disks: where a file stands, in both words. -/
import Derived.Test.YtbahiohlhhdkcaaDoorDkg
namespace Go.Proofs.YtbahiohlhhdkcaaDoor
open Go.RowKit

def cmp2 (a b : Int) : Int := if a < b then -1 else if b < a then 1 else 0
theorem isNaN_c (a : Int) (w : World) : Calls Tryd.prog 64 #[.int .i64 a] w fun e w' => e = .returned (.bool false) ∧ w = w' := by
  go_enter Tryd.func64, Tryd.ntmps64
  go_wp2
  go_ret
  exact ⟨ret_bool (by simp), rfl⟩
theorem cmp2_c (a b : Int) (w : World) : Calls Tryd.prog 59 #[.int .i64 a, .int .i64 b] w fun e w' => e = .returned (.int .i64 (cmp2 a b)) ∧ w = w' := by
  go_enter Tryd.func59, Tryd.ntmps59
  go_wp2_with (go_at_call 64; refine (isNaN_c _ _).mono ?_; rintro e w1 ⟨rfl, rfl⟩)
  all_goals
    go_ret
    refine ⟨ret_int ?_, rfl⟩
    unfold cmp2
    split <;> (try split) <;> omega
def Up (l : List Fi) : Prop := ∀ (i j : Nat) (_ : i < j) (hj : j < l.length), l[i].n < l[j].n
def Lows (l : List Fi) (o : Int) (i : Nat) : Prop := ∀ (m : Nat) (h : m < l.length), m < i → l[m].n < o
def Highs (l : List Fi) (o : Int) (j : Nat) : Prop := ∀ (m : Nat) (h : m < l.length), j ≤ m → o ≤ l[m].n

theorem place1_c (x : Fi) (u : Value) (hu : ∃ A n c, u = .slice A n c) (o : Int) (w : World) :
    Calls Tryd.prog 58 #[.agg #[.int .i64 x.n, u, .int .i64 x.s], .int .i64 o] w fun e w' => e = .returned (.int .i64 (cmp2 x.n o)) ∧ Below w.heap.size w w' := by
  obtain ⟨Au, nu, cu, rfl⟩ := hu
  go_enter Tryd.func58, Tryd.ntmps58
  go_wp2_with (go_at_call 59; refine (cmp2_c _ _ _).mono ?_; rintro e w1 ⟨rfl, rfl⟩)
  go_ret
  exact ⟨rfl, by (repeat (first | with_reducible exact Below.refl _ _ | with_reducible assumption | with_reducible refine bdraw ?_ | with_reducible refine bdrewN ?_ _ | with_reducible refine balloc ?_ _ | with_reducible refine bset ?_ (by simp <;> omega) | with_reducible refine bstep ?_ (by assumption) | with_reducible refine btrans ?_ (by assumption)))⟩
theorem cmp2_lt {a b : Int} : cmp2 a b < 0 ↔ a < b := by unfold cmp2; split <;> (try split) <;> omega
theorem cmp2_eq {a b : Int} : cmp2 a b = 0 ↔ a = b := by unfold cmp2; split <;> (try split) <;> omega

/-- what the search hands back -/
def Placed (l : List Fi) (o : Int) (w : World) (e : Ending) (w' : World) : Prop :=
  ∃ (i : Nat) (f : Bool), e = .returned (.tuple #[.int .i64 i, .bool f]) ∧ Hid (i ≤ l.length ∧ Lows l o i ∧ Highs l o i ∧ (f = true ↔ ∃ h : i < l.length, l[i].n = o)) ∧ Below w.heap.size w w'
set_option maxHeartbeats 2000000 in
theorem bsearch_c {S : Foot} {v : Value} {l : List Fi} {o : Int} {w : World} (hp : Sl fiE S w v l) (hu : Up l) (hn : l.length ≤ 4398046511104) :
    Calls Tryd.prog 57 #[v, .int .i64 o, .func (.func 58) #[] #[]] w (Placed l o w) := by
  have hp := hp.any
  obtain ⟨A, cap, rfl, hc1, hc2, _⟩ := hp.shape
  unfold maxLen at hc2
  go_enter Tryd.func57, Tryd.ntmps57
  go_wp2
  go_loopw [9, 10, 11] (fun iv jv _ wr => ∃ i j : Nat, i ≤ j ∧ j ≤ l.length ∧ iv = .int .i64 i ∧ jv = .int .i64 j ∧ Hid (Lows l o i ∧ Highs l o j) ∧ Below w.heap.size w wr) (fun iv jv _ _ => (intOf jv - intOf iv).toNat)
  case atStart => exact ⟨0, l.length, Nat.zero_le _, Nat.le_refl _, rfl, rfl, Lib.hid ⟨fun m _ h => absurd h (by omega), fun m h h' => absurd h (by omega)⟩, Below.refl _ _⟩
  case round =>
    obtain ⟨i, j, hij, hj, rfl, rfl, HI, hbr⟩ := hrel
    by_cases hlt : i < j
    · obtain ⟨m, hm, hm1, hm2⟩ : ∃ m : Nat, ((i : Int) + (j : Int)) / 2 = (m : Int) ∧ i ≤ m ∧ m < j := ⟨(i + j) / 2, by omega, by omega, by omega⟩
      have hml : m < l.length := by omega
      obtain ⟨b, off, Av, cv, rfl, a0, a1, a2, hv⟩ := (hp.below (by (repeat (first | with_reducible exact Below.refl _ _ | with_reducible assumption | with_reducible refine bdraw ?_ | with_reducible refine bdrewN ?_ _ | with_reducible refine balloc ?_ _ | with_reducible refine bset ?_ (by simp <;> omega) | with_reducible refine bstep ?_ (by assumption) | with_reducible refine btrans ?_ (by assumption)))) (Nat.le_refl _)).fi hml
      have HU := Lib.hid (fun (q : Nat) (hq : q < l.length) => (⟨fun h => hu m q h hq, fun h => hu q m h hml⟩ : (m < q → l[m].n < l[q].n) ∧ (q < m → l[q].n < l[m].n)))
      have HE := Lib.hid (fun (q : Nat) (hq : q < l.length) (h : q = m) => (by subst h; rfl : l[q].n = l[m].n))
      generalize l[m] = x at *
      have HC := fun (w : World) => Lib.hid (place1_c x (.slice Av x.b.length cv) ⟨_, _, _, rfl⟩ o w)
      have c0 := atb a0 (w' := wr) (by (repeat (first | with_reducible exact Below.refl _ _ | with_reducible assumption | with_reducible refine bdraw ?_ | with_reducible refine bdrewN ?_ _ | with_reducible refine balloc ?_ _ | with_reducible refine bset ?_ (by simp <;> omega) | with_reducible refine bstep ?_ (by assumption) | with_reducible refine btrans ?_ (by assumption)))); have c1 := atb a1 (w' := wr) (by (repeat (first | with_reducible exact Below.refl _ _ | with_reducible assumption | with_reducible refine bdraw ?_ | with_reducible refine bdrewN ?_ _ | with_reducible refine balloc ?_ _ | with_reducible refine bset ?_ (by simp <;> omega) | with_reducible refine bstep ?_ (by assumption) | with_reducible refine btrans ?_ (by assumption)))); have c2 := atb a2 (w' := wr) (by (repeat (first | with_reducible exact Below.refl _ _ | with_reducible assumption | with_reducible refine bdraw ?_ | with_reducible refine bdrewN ?_ _ | with_reducible refine balloc ?_ _ | with_reducible refine bset ?_ (by simp <;> omega) | with_reducible refine bstep ?_ (by assumption) | with_reducible refine btrans ?_ (by assumption))))
      have hltI : (i : Int) < (j : Int) := by omega
      have hmI : (m : Int) < (l.length : Int) := by omega
      by_cases hc : cmp2 x.n o < 0
      · have d1 : decide (cmp2 x.n o < 0) = true := decide_eq_true hc
        have hlo := Lib.hid (cmp2_lt.1 hc)
        clear hc a0 a1 a2
        go_wp2_with (go_at_call 58; refine (HC _).out.mono ?_; rintro e w1 ⟨rfl, b1⟩)
        go_roundw
        case rel => exact ⟨m + 1, j, by omega, hj, by go_num, rfl, Lib.hid ⟨fun q hq hqm => by
            rcases Nat.lt_or_ge q m with h | h
            · have := (HU.out q hq).2 h; have := hlo.out; omega
            · have := HE.out q hq (by omega); have := hlo.out; omega, HI.out.2⟩, by (repeat (first | with_reducible exact Below.refl _ _ | with_reducible assumption | with_reducible refine bdraw ?_ | with_reducible refine bdrewN ?_ _ | with_reducible refine balloc ?_ _ | with_reducible refine bset ?_ (by simp <;> omega) | with_reducible refine bstep ?_ (by assumption) | with_reducible refine btrans ?_ (by assumption)))⟩
        case measure => simp [intOf]; omega
      · have d1 : decide (cmp2 x.n o < 0) = false := decide_eq_false hc
        have hlo := Lib.hid (show o ≤ x.n by have := mt cmp2_lt.2 hc; omega)
        clear hc a0 a1 a2
        go_wp2_with (go_at_call 58; refine (HC _).out.mono ?_; rintro e w1 ⟨rfl, b1⟩)
        go_roundw
        case rel => exact ⟨i, m, hm1, by omega, rfl, rfl, Lib.hid ⟨HI.out.1, fun q hq hqm => by
            rcases Nat.lt_or_ge m q with h | h
            · have := (HU.out q hq).1 h; have := hlo.out; omega
            · have := HE.out q hq (by omega); have := hlo.out; omega⟩, by (repeat (first | with_reducible exact Below.refl _ _ | with_reducible assumption | with_reducible refine bdraw ?_ | with_reducible refine bdrewN ?_ _ | with_reducible refine balloc ?_ _ | with_reducible refine bset ?_ (by simp <;> omega) | with_reducible refine bstep ?_ (by assumption) | with_reducible refine btrans ?_ (by assumption)))⟩
        case measure => simp [intOf]; omega
    · have hlt' : ¬ (i : Int) < (j : Int) := by omega
      obtain rfl : i = j := by omega
      rcases Nat.lt_or_ge i l.length with h | h
      · obtain ⟨b, off, Av, cv, rfl, a0, a1, a2, hv⟩ := (hp.below (by (repeat (first | with_reducible exact Below.refl _ _ | with_reducible assumption | with_reducible refine bdraw ?_ | with_reducible refine bdrewN ?_ _ | with_reducible refine balloc ?_ _ | with_reducible refine bset ?_ (by simp <;> omega) | with_reducible refine bstep ?_ (by assumption) | with_reducible refine btrans ?_ (by assumption)))) (Nat.le_refl _)).fi h
        have HE := Lib.hid (fun (h' : i < l.length) => (rfl : l[i].n = l[i].n))
        have HF := Lib.hid (fun (f : Bool) (hf : f = true ↔ l[i].n = o) => (⟨fun e => ⟨h, hf.1 e⟩, fun ⟨_, e⟩ => hf.2 e⟩ : f = true ↔ ∃ h : i < l.length, l[i].n = o))
        generalize l[i] = x at HF a0 a1 a2 hv
        have HC := fun (w : World) => Lib.hid (place1_c x (.slice Av x.b.length cv) ⟨_, _, _, rfl⟩ o w)
        have c0 := atb a0 (w' := wr) (by (repeat (first | with_reducible exact Below.refl _ _ | with_reducible assumption | with_reducible refine bdraw ?_ | with_reducible refine bdrewN ?_ _ | with_reducible refine balloc ?_ _ | with_reducible refine bset ?_ (by simp <;> omega) | with_reducible refine bstep ?_ (by assumption) | with_reducible refine btrans ?_ (by assumption)))); have c1 := atb a1 (w' := wr) (by (repeat (first | with_reducible exact Below.refl _ _ | with_reducible assumption | with_reducible refine bdraw ?_ | with_reducible refine bdrewN ?_ _ | with_reducible refine balloc ?_ _ | with_reducible refine bset ?_ (by simp <;> omega) | with_reducible refine bstep ?_ (by assumption) | with_reducible refine btrans ?_ (by assumption)))); have c2 := atb a2 (w' := wr) (by (repeat (first | with_reducible exact Below.refl _ _ | with_reducible assumption | with_reducible refine bdraw ?_ | with_reducible refine bdrewN ?_ _ | with_reducible refine balloc ?_ _ | with_reducible refine bset ?_ (by simp <;> omega) | with_reducible refine bstep ?_ (by assumption) | with_reducible refine btrans ?_ (by assumption))))
        have hiI : (i : Int) < (l.length : Int) := by omega
        clear a0 a1 a2
        go_wp2_with (go_at_call 58; refine (HC _).out.mono ?_; rintro e w1 ⟨rfl, b1⟩)
        go_ret2
        exact ⟨i, _, rfl, Lib.hid ⟨hj, HI.out.1, HI.out.2, HF.out _ (by simp [cmp2_eq])⟩, by (repeat (first | with_reducible exact Below.refl _ _ | with_reducible assumption | with_reducible refine bdraw ?_ | with_reducible refine bdrewN ?_ _ | with_reducible refine balloc ?_ _ | with_reducible refine bset ?_ (by simp <;> omega) | with_reducible refine bstep ?_ (by assumption) | with_reducible refine btrans ?_ (by assumption)))⟩
      · have hiI : ¬ (i : Int) < (l.length : Int) := by omega
        go_wp2
        go_ret2
        exact ⟨i, false, rfl, Lib.hid ⟨hj, HI.out.1, HI.out.2, by simp; omega⟩, hbr⟩
theorem find_c {S : Foot} {v : Value} {room : Int} {l : List Fi} {o : Int} {w : World} (hp : Sl fiE S w v l) (hu : Up l) (hn : l.length ≤ 4398046511104) :
    Calls Tryd.prog 43 #[.agg #[.int .i64 room, v], .int .i64 o] w (Placed l o w) := by
  have hp := hp.any
  obtain ⟨A, cap, rfl, _⟩ := hp.shape
  have HC := fun (w' : World) (b : Below w.heap.size w w') => Lib.hid (bsearch_c (o := o) (w := w') (hp.below (by (repeat (first | with_reducible exact Below.refl _ _ | with_reducible assumption | with_reducible refine bdraw ?_ | with_reducible refine bdrewN ?_ _ | with_reducible refine balloc ?_ _ | with_reducible refine bset ?_ (by simp <;> omega) | with_reducible refine bstep ?_ (by assumption) | with_reducible refine btrans ?_ (by assumption)))) (Nat.le_refl _)) hu hn)
  clear hu
  go_enter Tryd.func43, Tryd.ntmps43
  go_wp2_with (go_at_call 57; refine (HC _ (by (repeat (first | with_reducible exact Below.refl _ _ | with_reducible assumption | with_reducible refine bdraw ?_ | with_reducible refine bdrewN ?_ _ | with_reducible refine balloc ?_ _ | with_reducible refine bset ?_ (by simp <;> omega) | with_reducible refine bstep ?_ (by assumption) | with_reducible refine btrans ?_ (by assumption))))).out.mono ?_; rintro e w1 ⟨i, f, rfl, HI, b1⟩)
  go_ret2
  exact ⟨i, f, rfl, HI, by (repeat (first | with_reducible exact Below.refl _ _ | with_reducible assumption | with_reducible refine bdraw ?_ | with_reducible refine bdrewN ?_ _ | with_reducible refine balloc ?_ _ | with_reducible refine bset ?_ (by simp <;> omega) | with_reducible refine bstep ?_ (by assumption) | with_reducible refine btrans ?_ (by assumption)))⟩
/-- the first place of a number; -1 -/
def placeP : List Fi → Int → Int
  | [], _ => -1
  | x :: r, o => if x.n = o then 0 else (if placeP r o < 0 then -1 else placeP r o + 1)
theorem placeP_lt : ∀ (l : List Fi) (o : Int), placeP l o < (l.length : Int) ∧ -1 ≤ placeP l o
  | [], o => by simp [placeP]
  | x :: r, o => by
    have := placeP_lt r o
    simp only [placeP, List.length_cons]
    split
    · omega
    · split <;> omega
theorem rplace_c {S : Foot} {v : Value} {room : Int} {l : List Fi} {o : Int} {w : World} (hp : Sl fiE S w v l) :
    Calls Tryd.prog 48 #[.agg #[.int .i64 room, v], .int .i64 o] w fun e w' => e = .returned (.int .i64 (placeP l o)) ∧ Below w.heap.size w w' := by
  have hp := hp.any
  obtain ⟨A, cap, rfl, hc1, hc2, _⟩ := hp.shape
  unfold maxLen at hc2
  go_enter Tryd.func48, Tryd.ntmps48
  go_wp2
  go_loop [5] (fun i => ∃ k : Nat, k ≤ l.length ∧ i = .int .i64 k ∧ Hid (placeP l o = if placeP (l.drop k) o < 0 then -1 else placeP (l.drop k) o + k)) (fun i => l.length - (intOf i).toNat)
  case atStart => exact ⟨0, Nat.zero_le _, by go_num, Lib.hid (by have := placeP_lt l o; rw [List.drop_zero]; split <;> omega)⟩
  case round =>
    obtain ⟨k, hk, rfl, HV⟩ := hrel
    by_cases hlt : k < l.length
    · obtain ⟨b, off, Av, cv, rfl, a0, a1, a2, hv⟩ := hp.fi hlt
      have hkI : (k : Int) < (l.length : Int) := by omega
      have hk0 : (0 : Int) ≤ (k : Int) := by omega
      have HD := Lib.hid (List.drop_eq_getElem_cons hlt)
      have hbl := a0.lt
      generalize l[k] = x at *
      have c0 := a0.cell
      clear a0 a1 a2
      by_cases hx : x.n = o
      · have HR : Hid (placeP l o = (k : Int)) := Lib.hid (by rw [HV.out, HD.out, placeP, if_pos hx]; simp)
        have d1 : (x.n == o) = true := by simpa using hx
        clear hx
        go_wp2
        go_ret
        exact ⟨ret_int HR.out.symm, by (repeat (first | with_reducible exact Below.refl _ _ | with_reducible assumption | with_reducible refine bdraw ?_ | with_reducible refine bdrewN ?_ _ | with_reducible refine balloc ?_ _ | with_reducible refine bset ?_ (by simp <;> omega) | with_reducible refine bstep ?_ (by assumption) | with_reducible refine btrans ?_ (by assumption)))⟩
      · have HR : Hid (placeP l o = if placeP (l.drop (k + 1)) o < 0 then -1 else placeP (l.drop (k + 1)) o + ((k + 1 : Nat) : Int)) := Lib.hid (by
          rw [HV.out, HD.out, placeP, if_neg hx]
          split <;> split <;> omega)
        have d1 : (x.n == o) = false := by simpa using hx
        clear hx
        go_wp2
        go_round
        case rel => exact ⟨k + 1, by omega, by go_num, HR⟩
        case measure => simp [intOf]; omega
    · have hkI : ¬ (k : Int) < (l.length : Int) := by omega
      have HR : Hid (placeP l o = -1) := Lib.hid (by rw [HV.out, List.drop_eq_nil_of_le (by omega)]; rfl)
      go_wp2
      go_ret
      exact ⟨ret_int HR.out.symm, by (repeat (first | with_reducible exact Below.refl _ _ | with_reducible assumption | with_reducible refine bdraw ?_ | with_reducible refine bdrewN ?_ _ | with_reducible refine balloc ?_ _ | with_reducible refine bset ?_ (by simp <;> omega) | with_reducible refine bstep ?_ (by assumption) | with_reducible refine btrans ?_ (by assumption)))⟩
end Go.Proofs.YtbahiohlhhdkcaaDoor
