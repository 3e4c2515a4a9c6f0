/- Writes: how they read; stamps compared; whether a write is right and a shelf formed; whether two lists are the same. -/
import Derived.Test.YtkocbhcklnjomaaBack
import Derived.Outline
import Derived.Handy
import Derived.BigQuiet
import Derived.Deep.QuietTactic
import Derived.Deep.RegionHeld3
namespace Go.Proofs.Ytkocbhcklnjomaa
open Go.RowKit

structure Wr where
  c : Int
  n : Int
  o : Int
  g : Bool
  deriving DecidableEq, Inhabited
def wrE : Enc Wr := flatE 4 (by omega) (fun x => [.int .i64 x.c, .int .i64 x.n, .int .i64 x.o, .bool x.g]) (by simp) (by simp [Value.oneCell'])
theorem Sl.wr {S : Foot} {w : World} {A : Option Addr} {n cap : Nat} {l : List Wr} (h : Sl wrE S w (.slice A n cap) l) {i : Nat} (hi : i < l.length) :
    ∃ b off, A = some ⟨b, off, none⟩ ∧ At S w b (off + i * 4) (.int .i64 l[i].c) ∧ At S w b (off + i * 4 + 1) (.int .i64 l[i].n) ∧ At S w b (off + i * 4 + 2) (.int .i64 l[i].o) ∧ At S w b (off + i * 4 + 3) (.bool l[i].g) := by
  obtain ⟨_, _, _, _, hc⟩ := h.cells
  obtain ⟨b, off, cs, e, hrd, _, hat⟩ := hc i _ (List.getElem?_eq_getElem hi)
  have hrd' : cs = [.int .i64 l[i].c, .int .i64 l[i].n, .int .i64 l[i].o, .bool l[i].g] := hrd
  subst hrd'
  exact ⟨b, off, e, hat 0 _ rfl, hat 1 _ rfl, hat 2 _ rfl, hat 3 _ rfl⟩

/-! ### plain words -/
def stR (c n : Int) : Bool := decide (1 ≤ c ∧ 0 ≤ n ∧ n ≤ 63)
def cmp2 (a b : Int) : Int := if a < b then -1 else if b < a then 1 else 0
def cmpS (c1 n1 c2 n2 : Int) : Int := if c1 < c2 ∨ c1 = c2 ∧ n1 < n2 then -1 else if c1 = c2 ∧ n1 = n2 then 0 else 1
def rightW (x : Wr) : Bool := decide (0 ≤ x.o ∧ x.o ≤ 255) && stR x.c x.n
/-- right ones, the objects going up from behind last -/
def formedA (last : Int) : List Wr → Bool
  | [] => true
  | x :: r => (rightW x && decide (last < x.o)) && formedA x.o r
def formedW (l : List Wr) : Bool := formedA (-1) l
def lastO (d : Int) : List Wr → Int
  | [] => d
  | x :: r => lastO x.o r

/-! ### walks -/
theorem stR_c (c n : Int) (w : World) :
    Calls Try.prog 31 #[.agg #[.int .i64 c, .int .i64 n]] w fun e w' => e = .returned (.bool (stR c n)) ∧ Below w.heap.size w w' := by
  go_enter Try.func31, Try.ntmps31
  go_wp2
  all_goals
    go_ret
    refine ⟨ret_bool ?_, by (repeat (first | with_reducible exact Below.refl _ _ | with_reducible assumption | with_reducible refine bdraw ?_ | with_reducible refine bdrewN ?_ _ | with_reducible refine balloc ?_ _ | with_reducible refine bset ?_ (by simp <;> omega) | with_reducible refine bstep ?_ (by assumption) | with_reducible refine btrans ?_ (by assumption)))⟩
    unfold stR
    rw [Bool.eq_iff_iff]
    simp
    omega
theorem rstR_c (c n : Int) (w : World) :
    Calls Try.prog 38 #[.agg #[.int .i64 c, .int .i64 n]] w fun e w' => e = .returned (.bool (stR c n)) ∧ Below w.heap.size w w' := by
  go_enter Try.func38, Try.ntmps38
  go_wp2
  all_goals
    go_ret
    refine ⟨ret_bool ?_, by (repeat (first | with_reducible exact Below.refl _ _ | with_reducible assumption | with_reducible refine bdraw ?_ | with_reducible refine bdrewN ?_ _ | with_reducible refine balloc ?_ _ | with_reducible refine bset ?_ (by simp <;> omega) | with_reducible refine bstep ?_ (by assumption) | with_reducible refine btrans ?_ (by assumption)))⟩
    unfold stR
    rw [Bool.eq_iff_iff]
    simp
    omega
theorem right_c (x : Wr) (w : World) :
    Calls Try.prog 21 #[.agg #[.int .i64 x.c, .int .i64 x.n, .int .i64 x.o, .bool x.g]] w fun e w' => e = .returned (.bool (rightW x)) ∧ Below w.heap.size w w' := by
  go_enter Try.func21, Try.ntmps21
  go_wp2_with (go_at_call 31; refine (stR_c _ _ _).mono ?_; rintro e w1 ⟨rfl, b1⟩)
  all_goals
    go_ret
    refine ⟨ret_bool ?_, by (repeat (first | with_reducible exact Below.refl _ _ | with_reducible assumption | with_reducible refine bdraw ?_ | with_reducible refine bdrewN ?_ _ | with_reducible refine balloc ?_ _ | with_reducible refine bset ?_ (by simp <;> omega) | with_reducible refine bstep ?_ (by assumption) | with_reducible refine btrans ?_ (by assumption)))⟩
    unfold rightW
    rw [Bool.eq_iff_iff]
    simp
    omega
theorem rright_c (x : Wr) (w : World) :
    Calls Try.prog 26 #[.agg #[.int .i64 x.c, .int .i64 x.n, .int .i64 x.o, .bool x.g]] w fun e w' => e = .returned (.bool (rightW x)) ∧ Below w.heap.size w w' := by
  go_enter Try.func26, Try.ntmps26
  go_wp2_with (go_at_call 38; refine (rstR_c _ _ _).mono ?_; rintro e w1 ⟨rfl, b1⟩)
  all_goals
    go_ret
    refine ⟨ret_bool ?_, by (repeat (first | with_reducible exact Below.refl _ _ | with_reducible assumption | with_reducible refine bdraw ?_ | with_reducible refine bdrewN ?_ _ | with_reducible refine balloc ?_ _ | with_reducible refine bset ?_ (by simp <;> omega) | with_reducible refine bstep ?_ (by assumption) | with_reducible refine btrans ?_ (by assumption)))⟩
    unfold rightW
    rw [Bool.eq_iff_iff]
    simp
    omega
theorem isNaN_c (a : Int) (w : World) : Calls Try.prog 41 #[.int .i64 a] w fun e w' => e = .returned (.bool false) ∧ w = w' := by
  go_enter Try.func41, Try.ntmps41
  go_wp2
  go_ret
  exact ⟨ret_bool (by simp), rfl⟩
theorem cmp2_c (a b : Int) (w : World) : Calls Try.prog 34 #[.int .i64 a, .int .i64 b] w fun e w' => e = .returned (.int .i64 (cmp2 a b)) ∧ w = w' := by
  go_enter Try.func34, Try.ntmps34
  go_wp2_with (go_at_call 41; refine (isNaN_c _ _).mono ?_; rintro e w1 ⟨rfl, rfl⟩)
  all_goals
    go_ret
    refine ⟨ret_int ?_, rfl⟩
    unfold cmp2
    split <;> (try split) <;> omega
def or2 (a b : Int) : Int := if a = 0 then b else a
theorem or2_c {a b : Int} {g : Nat} {w : World} (h0 : w.cell? ⟨g, 0, none⟩ = some (.int .i64 a)) (h1 : w.cell? ⟨g, 1, none⟩ = some (.int .i64 b)) :
    Calls Try.prog 37 #[.slice (some ⟨g, 0, none⟩) 2 2] w fun e w' => e = .returned (.int .i64 (or2 a b)) ∧ w = w' := by
  go_enter Try.func37, Try.ntmps37
  go_wp2
  go_rounds 3
  all_goals
    go_ret
    refine ⟨ret_int ?_, rfl⟩
    unfold or2
    simp_all
set_option maxHeartbeats 1000000 in
theorem cmpS_c (c1 m1 c2 m2 : Int) (w : World) :
    Calls Try.prog 24 #[.agg #[.int .i64 c1, .int .i64 m1], .agg #[.int .i64 c2, .int .i64 m2]] w fun e w' => e = .returned (.int .i64 (cmpS c1 m1 c2 m2)) ∧ Below w.heap.size w w' := by
  have hz : ((w.alloc (.cells #[.int .i64 c1, .int .i64 m1] 30)).alloc (.cells #[.int .i64 c2, .int .i64 m2] 30)).heap.size = w.heap.size + 1 + 1 := by simp
  have n0 := new_cells ((w.alloc (.cells #[.int .i64 c1, .int .i64 m1] 30)).alloc (.cells #[.int .i64 c2, .int .i64 m2] 30)) [.int .i64 (cmp2 c1 c2), .int .i64 (cmp2 m1 m2)] 3 0 _ rfl
  have n1 := new_cells ((w.alloc (.cells #[.int .i64 c1, .int .i64 m1] 30)).alloc (.cells #[.int .i64 c2, .int .i64 m2] 30)) [.int .i64 (cmp2 c1 c2), .int .i64 (cmp2 m1 m2)] 3 1 _ rfl
  rw [hz] at n0 n1
  clear hz
  go_enter Try.func24, Try.ntmps24
  go_wp2_with fail
  go_region_held3 (fun w' => w'.cell? ⟨w.heap.size, 0, none⟩ = some (.int .i64 c1) ∧ w'.cell? ⟨w.heap.size, 1, none⟩ = some (.int .i64 m1) ∧ w'.cell? ⟨w.heap.size + 1, 0, none⟩ = some (.int .i64 c2) ∧ w'.cell? ⟨w.heap.size + 1, 1, none⟩ = some (.int .i64 m2))
    (first | go_keep)
    (first
      | (go_at_call 34; go_must (refine (cmp2_c _ _ _).mono ?_; rintro e w1 ⟨rfl, rfl⟩))
      | (go_at_call 37; go_must (refine (or2_c (a := cmp2 c1 c2) (b := cmp2 m1 m2) (by exact n0) (by exact n1)).mono ?_; rintro e w1 ⟨rfl, rfl⟩))
      | fail)
  all_goals
    go_wp2
    go_ret
    refine ⟨ret_int ?_, by (repeat (first | with_reducible exact Below.refl _ _ | with_reducible assumption | with_reducible refine bdraw ?_ | with_reducible refine bdrewN ?_ _ | with_reducible refine balloc ?_ _ | with_reducible refine bset ?_ (by simp <;> omega) | with_reducible refine bstep ?_ (by assumption) | with_reducible refine btrans ?_ (by assumption)))⟩
    unfold or2 cmpS cmp2
    split <;> split <;> (try split) <;> (try split) <;> (try split) <;> simp_all <;> omega
theorem rcmpS_c (c1 n1 c2 n2 : Int) (w : World) :
    Calls Try.prog 16 #[.agg #[.int .i64 c1, .int .i64 n1], .agg #[.int .i64 c2, .int .i64 n2]] w fun e w' => e = .returned (.int .i64 (cmpS c1 n1 c2 n2)) ∧ Below w.heap.size w w' := by
  go_enter Try.func16, Try.ntmps16
  go_wp2
  all_goals
    go_ret
    refine ⟨ret_int ?_, by (repeat (first | with_reducible exact Below.refl _ _ | with_reducible assumption | with_reducible refine bdraw ?_ | with_reducible refine bdrewN ?_ _ | with_reducible refine balloc ?_ _ | with_reducible refine bset ?_ (by simp <;> omega) | with_reducible refine bstep ?_ (by assumption) | with_reducible refine btrans ?_ (by assumption)))⟩
    unfold cmpS
    split <;> (try split) <;> simp_all <;> omega
end Go.Proofs.Ytkocbhcklnjomaa
