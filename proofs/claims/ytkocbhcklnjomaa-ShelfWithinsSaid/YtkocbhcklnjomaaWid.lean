/- Spans: what has an object: the program's Has, the document's Set. -/
import Derived.Test.YtkocbhcklnjomaaWru
import Derived.Laws.Tables
import Derived.Deep.WholeRow
set_option linter.unusedSimpArgs false
namespace Go.Proofs.Ytkocbhcklnjomaa
open Go.RowKit

structure Sp where
  a : Int
  b : Int
  deriving DecidableEq, Inhabited
def spE : Enc Sp := flatE 2 (by omega) (fun x => [.int .i64 x.a, .int .i64 x.b]) (by simp) (by simp [Value.oneCell'])
theorem Sl.sp {S : Foot} {w : World} {A : Option Addr} {n cap : Nat} {l : List Sp} (h : Sl spE S w (.slice A n cap) l) {i : Nat} (hi : i < l.length) :
    ∃ b off, A = some ⟨b, off, none⟩ ∧ At S w b (off + i * 2) (.int .i64 l[i].a) ∧ At S w b (off + i * 2 + 1) (.int .i64 l[i].b) := by
  obtain ⟨_, _, _, _, hc⟩ := h.cells
  obtain ⟨b, off, cs, e, hu, _, hat⟩ := hc i _ (List.getElem?_eq_getElem hi)
  replace hu : cs = [.int .i64 l[i].a, .int .i64 l[i].b] := hu
  subst hu
  exact ⟨b, off, e, hat 0 _ rfl, hat 1 _ rfl⟩
def inSp (x : Sp) (o : Int) : Bool := decide (x.a ≤ o ∧ o ≤ x.b)
def anySp (l : List Sp) (o : Int) : Bool := l.any fun s => inSp s o
def hasSp (l : List Sp) (o : Int) : Bool := decide (0 ≤ o ∧ o ≤ 255) && anySp l o
set_option maxHeartbeats 1000000 in
theorem has1_c (x : Sp) (o : Int) {w : World} {ob : Nat} (ho : w.cell? ⟨ob, 0, none⟩ = some (.int .i64 o)) :
    Calls Try.prog 40 #[.agg #[.int .i64 x.a, .int .i64 x.b], .pointer (some ⟨ob, 0, none⟩)] w fun e w' => e = .returned (.bool (inSp x o)) ∧ Below w.heap.size w w' := by
  have hob : ob < w.heap.size := (World.block_lt_of_cell? _ _ ho)
  have ho' : (w.alloc (.cells #[.int .i64 x.a, .int .i64 x.b] 65)).cell? ⟨ob, 0, none⟩ = some (.int .i64 o) := by rw [((Below.refl w.heap.size w).alloc (Nat.le_refl _) _).cell (p := ⟨ob, 0, none⟩) hob]; exact ho
  have q := heap_alloc_new w (.cells #[.int .i64 x.a, .int .i64 x.b] 65)
  have xc0 : (w.alloc (.cells #[.int .i64 x.a, .int .i64 x.b] 65)).cell? ⟨w.heap.size, 0, none⟩ = some (.int .i64 x.a) := cell_of_row _ _ 0 _ _ _ q; have fc0 : (w.alloc (.cells #[.int .i64 x.a, .int .i64 x.b] 65)).frozen? ⟨w.heap.size, 0, none⟩ = false := frozen_of_row _ _ 0 _ _ q; have xc1 : (w.alloc (.cells #[.int .i64 x.a, .int .i64 x.b] 65)).cell? ⟨w.heap.size, 1, none⟩ = some (.int .i64 x.b) := cell_of_row _ _ 1 _ _ _ q; have fc1 : (w.alloc (.cells #[.int .i64 x.a, .int .i64 x.b] 65)).frozen? ⟨w.heap.size, 1, none⟩ = false := frozen_of_row _ _ 1 _ _ q
  by_cases h1 : x.a ≤ o
  · have d1 : decide (x.a ≤ o) = true := decide_eq_true h1
    have HR : Hid (inSp x o = decide (o ≤ x.b)) := Lib.hid (by unfold inSp; simp [h1])
    clear h1
    go_enter Try.func40, Try.ntmps40
    go_wp2
    go_ret
    exact ⟨ret_bool HR.out.symm, by (repeat (first | with_reducible exact Below.refl _ _ | with_reducible assumption | with_reducible refine bdraw ?_ | with_reducible refine bdrewN ?_ _ | with_reducible refine balloc ?_ _ | with_reducible refine bset ?_ (by simp <;> omega) | with_reducible refine bstep ?_ (by assumption) | with_reducible refine btrans ?_ (by assumption)))⟩
  · have d1 : decide (x.a ≤ o) = false := decide_eq_false h1
    have HR : Hid (inSp x o = false) := Lib.hid (by unfold inSp; simp [h1])
    clear h1
    go_enter Try.func40, Try.ntmps40
    go_wp2
    go_ret
    exact ⟨ret_bool HR.out.symm, by (repeat (first | with_reducible exact Below.refl _ _ | with_reducible assumption | with_reducible refine bdraw ?_ | with_reducible refine bdrewN ?_ _ | with_reducible refine balloc ?_ _ | with_reducible refine bset ?_ (by simp <;> omega) | with_reducible refine bstep ?_ (by assumption) | with_reducible refine btrans ?_ (by assumption)))⟩
theorem anySp_take {l : List Sp} {o : Int} {k : Nat} (hk : k < l.length) : anySp (l.take (k + 1)) o = (anySp (l.take k) o || inSp l[k] o) := by
  unfold anySp
  rw [List.take_succ_eq_append_getElem hk, List.any_append]
  simp
theorem anySp_up {l : List Sp} {o : Int} {k : Nat} (h : anySp (l.take k) o = true) : anySp l o = true := by
  unfold anySp at *
  rw [List.any_eq_true] at *
  obtain ⟨x, h1, h2⟩ := h
  exact ⟨x, List.mem_of_mem_take h1, h2⟩
set_option maxHeartbeats 2000000 in
theorem indexs_c {S : Foot} {v : Value} {l : List Sp} {o : Int} {ob : Nat} {w : World} (hp : Sl spE S w v l) (ho : w.cell? ⟨ob, 0, none⟩ = some (.int .i64 o)) :
    Calls Try.prog 43 #[v, .func (.func 40) #[] #[.pointer (some ⟨ob, 0, none⟩)]] w fun e w' => ∃ r : Int, e = .returned (.int .i64 r) ∧ Hid (decide (0 ≤ r) = anySp l o) ∧ Below w.heap.size w w' := by
  have hp := hp.any
  obtain ⟨A, cap, rfl, hc1, hc2, _⟩ := hp.shape
  unfold maxLen at hc2
  have tO := (At.of_cell ho).2
  clear ho
  go_enter Try.func43, Try.ntmps43
  go_wp2
  go_loopw [8, 5] (fun i _ wr => ∃ k : Nat, k ≤ l.length ∧ i = .int .i64 k ∧ Hid (anySp (l.take k) o = false) ∧ Below w.heap.size w wr) (fun i _ _ => l.length - (intOf i).toNat)
  case atStart => exact ⟨0, Nat.zero_le _, rfl, Lib.hid rfl, Below.refl _ _⟩
  case round =>
    obtain ⟨k, hk, rfl, HN, hbr⟩ := hrel
    by_cases hlt : k < l.length
    · have hkI : (k : Int) < (l.length : Int) := by omega
      have hk0 : (0 : Int) ≤ (k : Int) := by omega
      have HT := Lib.hid (anySp_take (o := o) hlt)
      obtain ⟨bb, off, rfl, a0, a1⟩ := (hp.below hbr (Nat.le_refl _)).sp hlt
      have d0 := a0.cell
      have d1 := a1.cell
      have hoR : wr.cell? ⟨ob, 0, none⟩ = some (.int .i64 o) := atb tO hbr
      generalize l[k] = x at *
      clear a0 a1
      have H1 := Lib.hid (has1_c x o hoR)
      cases hin : inSp x o with
      | true =>
        rw [hin] at H1 HT
        have HU := Lib.hid (anySp_up (l := l) (o := o) (k := k + 1) (by rw [HT.out]; simp))
        clear hin HT hoR
        go_wp2_with fail
        refine H1.out.mono ?_
        rintro e w2 ⟨rfl, b2⟩
        go_wp2
        go_ret
        exact ⟨(k : Int), rfl, Lib.hid (by rw [HU.out]; simp), bstep hbr b2⟩
      | false =>
        rw [hin] at H1 HT
        clear hin hoR
        go_wp2_with fail
        refine H1.out.mono ?_
        rintro e w2 ⟨rfl, b2⟩
        go_wp2
        go_roundw
        case rel => exact ⟨k + 1, by omega, by go_num, Lib.hid (by rw [HT.out, HN.out]; rfl), bstep hbr b2⟩
        case measure => simp [intOf]; omega
    · have hkI : ¬ (k : Int) < (l.length : Int) := by omega
      have HNN : Hid (anySp l o = false) := Lib.hid (by have := HN.out; rwa [show k = l.length by omega, List.take_length] at this)
      go_wp2
      go_ret
      exact ⟨-1, rfl, Lib.hid (by rw [HNN.out]; simp), hbr⟩
set_option maxHeartbeats 1000000 in
theorem contains_c {S : Foot} {v : Value} {l : List Sp} {o : Int} {ob : Nat} {w : World} (hp : Sl spE S w v l) (ho : w.cell? ⟨ob, 0, none⟩ = some (.int .i64 o)) :
    Calls Try.prog 39 #[v, .func (.func 40) #[] #[.pointer (some ⟨ob, 0, none⟩)]] w fun e w' => e = .returned (.bool (anySp l o)) ∧ Below w.heap.size w w' := by
  have HI := Lib.hid (indexs_c hp ho)
  obtain ⟨A, cap, rfl, _⟩ := hp.shape
  clear ho hp
  go_enter Try.func39, Try.ntmps39
  go_wp2_with fail
  refine HI.out.mono ?_
  rintro e w2 ⟨r, rfl, HR, b2⟩
  go_wp2
  go_ret
  exact ⟨ret_bool HR.out, b2⟩
set_option maxHeartbeats 1000000 in
theorem has_c {S : Foot} {v : Value} {l : List Sp} {o : Int} {w : World} (hp : Sl spE S w v l) :
    Calls Try.prog 29 #[v, .int .i64 o] w fun e w' => e = .returned (.bool (hasSp l o)) ∧ Below w.heap.size w w' := by
  have hp := hp.any
  obtain ⟨A, cap, rfl, _⟩ := hp.shape
  have b0 : Below w.heap.size w (w.alloc (.cells #[.int .i64 o] 3)) := (Below.refl _ _).alloc (Nat.le_refl _) _
  have q := heap_alloc_new w (.cells #[.int .i64 o] 3)
  have xc0 : (w.alloc (.cells #[.int .i64 o] 3)).cell? ⟨w.heap.size, 0, none⟩ = some (.int .i64 o) := cell_of_row _ _ 0 _ _ _ q; have fc0 : (w.alloc (.cells #[.int .i64 o] 3)).frozen? ⟨w.heap.size, 0, none⟩ = false := frozen_of_row _ _ 0 _ _ q
  have HC := Lib.hid (contains_c (hp.below b0 (Nat.le_refl _)) xc0)
  by_cases h0 : 0 ≤ o
  rotate_left
  · have d0 : decide (0 ≤ o) = false := decide_eq_false h0
    have HR : Hid (hasSp l o = false) := Lib.hid (by unfold hasSp; rw [decide_eq_false (fun h => h0 h.1)]; rfl)
    clear h0
    go_enter Try.func29, Try.ntmps29
    go_wp2
    go_ret
    exact ⟨ret_bool HR.out.symm, b0⟩
  have d0 : decide (0 ≤ o) = true := decide_eq_true h0
  by_cases h1 : o ≤ 255
  rotate_left
  · have d1 : decide (o ≤ 255) = false := decide_eq_false h1
    have HR : Hid (hasSp l o = false) := Lib.hid (by unfold hasSp; rw [decide_eq_false (fun h => h1 h.2)]; rfl)
    clear h0 h1
    go_enter Try.func29, Try.ntmps29
    go_wp2
    go_ret
    exact ⟨ret_bool HR.out.symm, b0⟩
  have d1 : decide (o ≤ 255) = true := decide_eq_true h1
  have HR : Hid (hasSp l o = anySp l o) := Lib.hid (by unfold hasSp; rw [decide_eq_true ⟨h0, h1⟩]; rfl)
  clear h0 h1
  go_enter Try.func29, Try.ntmps29
  go_wp2_with fail
  refine HC.out.mono ?_
  rintro e w2 ⟨rfl, b2⟩
  go_wp2
  go_ret
  exact ⟨ret_bool HR.out.symm, bstep b0 b2⟩
/-- block b: 256 marks, as f says -/
def ArB (w : World) (b : Nat) (f : Nat → Bool) : Prop := ∃ cs t, w.heap[b]? = some (.cells cs t (0, 0)) ∧ cs.size = 256 ∧ ∀ j, j < 256 → cs[j]? = some (.bool (f j))
theorem ArB.below {w w' : World} {b : Nat} {f : Nat → Bool} (h : ArB w b f) (hb : Below w.heap.size w w') : ArB w' b f := by
  obtain ⟨cs, t, h1, h2⟩ := h
  exact ⟨cs, t, (hb.block b (Array.getElem?_eq_some_iff.1 h1).1).trans h1, h2⟩
theorem ArB.cell {w : World} {b : Nat} {f : Nat → Bool} (h : ArB w b f) {x : Nat} (hx : x < 256) : w.cell? ⟨b, x, none⟩ = some (.bool (f x)) := by
  obtain ⟨cs, t, hb, hs, hc⟩ := h
  rw [cell_of_row w b _ cs t (0, 0) hb, hc x hx]
theorem ArB.free {w : World} {b : Nat} {f : Nat → Bool} (h : ArB w b f) (x : Nat) : w.frozen? ⟨b, x, none⟩ = false := by
  obtain ⟨cs, t, hb, _⟩ := h
  exact frozen_of_row w b _ cs t hb
theorem ArB.set {w : World} {b : Nat} {f : Nat → Bool} (h : ArB w b f) {x : Nat} (hx : x < 256) {g : Nat → Bool} (hg : ∀ j, j < 256 → g j = (f j || decide (j = x))) : ArB (w.setCell ⟨b, x, none⟩ (.bool true)) b g := by
  obtain ⟨cs, t, hb, hs, hc⟩ := h
  refine ⟨_, t, heap_setCell_same w b x cs t (.bool true) hb, by simpa using hs, fun j hj => ?_⟩
  rw [Array.getElem?_setIfInBounds, hg j hj]
  by_cases e : x = j
  · rw [if_pos e, if_pos (by omega)]
    simp [e]
  · rw [if_neg e, hc j hj]
    have : decide (j = x) = false := decide_eq_false (fun h => e h.symm)
    rw [this, Bool.or_false]
end Go.Proofs.Ytkocbhcklnjomaa
