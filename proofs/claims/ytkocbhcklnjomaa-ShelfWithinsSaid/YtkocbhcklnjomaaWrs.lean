/- Shelves: an object's write, in both words; the fixed fact; ShelfPuts and ShelfGets. -/
import Derived.Test.YtkocbhcklnjomaaWrq
namespace Go.Proofs.Ytkocbhcklnjomaa
open Go.RowKit

/-- results: a struct of its own cells, and a slot -/
theorem results_cell_tmp1 {P : Program} {fn : Func} {p x : Tmp} {ty : TypeId} (h : fn.results = #[.cell p ty, .tmp x]) (tmps : Array Value) (w : World) (g : Nat) (t : TypeId) (cs : Array Value) (fr : Nat × Nat) (d : TypeDesc)
    (hp : tmps.getD p undef = .pointer (some ⟨g, 0, none⟩)) (hg : w.heap[g]? = some (.cells cs t fr))
    (hu : P.underlying ty = some d) (hd : (match d with | .struct _ | .array _ _ => true | _ => false) = true) (hi : (P.info? ty).map (·.size) = some cs.size) :
    (results fn tmps).run P w = .ok (.tuple #[.agg cs, tmps.getD x undef]) w := by
  have hp' : tmps[p]?.getD undef = .pointer (some ⟨g, 0, none⟩) := by simpa using hp
  simp [results, h, hp', asAddr, run_loadVar_row w g t ty cs fr d hg hu hd hi]
def gotw (l : List Wr) (o : Int) : Wr := if formedW l then (val l o).getD wz else wz
def gotn (l : List Wr) (o : Int) : Int := if formedW l then (if (val l o).isSome then 0 else 8) else 1

theorem at_c {S : Foot} {v : Value} {l : List Wr} {o : Int} {w : World} (hp : Sl wrE S w v l) :
    Calls Try.prog 27 #[v, .int .i64 o] w fun e w' => e = .returned (.tuple #[.agg #[.int .i64 ((val l o).getD wz).c, .int .i64 ((val l o).getD wz).n, .int .i64 ((val l o).getD wz).o, .bool ((val l o).getD wz).g], .bool (val l o).isSome]) ∧ Below w.heap.size w w' := by
  have hp := hp.any
  obtain ⟨A, cap, rfl, hc1, hc2, _⟩ := hp.shape
  unfold maxLen at hc2
  have q0 : (w.alloc (.cells #[.int .i64 0, .int .i64 0, .int .i64 0, .bool false] 32)).heap[w.heap.size]? = some (.cells #[.int .i64 0, .int .i64 0, .int .i64 0, .bool false] 32 (0, 0)) := heap_alloc_new w _
  have hb0 : Below w.heap.size w (w.alloc (.cells #[.int .i64 0, .int .i64 0, .int .i64 0, .bool false] 32)) := by (repeat (first | with_reducible exact Below.refl _ _ | with_reducible assumption | with_reducible refine bdraw ?_ | with_reducible refine bdrewN ?_ _ | with_reducible refine balloc ?_ _ | with_reducible refine bset ?_ (by simp <;> omega) | with_reducible refine bstep ?_ (by assumption) | with_reducible refine btrans ?_ (by assumption)))
  go_enter Try.func27, Try.ntmps27
  go_wp2
  generalize hW : w.alloc (.cells #[.int .i64 0, .int .i64 0, .int .i64 0, .bool false] 32) = W at *
  clear hW
  have xa0 : W.cell? ⟨w.heap.size, 0, none⟩ = some (.int .i64 0) := cell_of_row _ _ 0 _ _ _ q0; have fa0 : W.frozen? ⟨w.heap.size, 0, none⟩ = false := frozen_of_row _ _ 0 _ _ q0; have xa1 : W.cell? ⟨w.heap.size, 1, none⟩ = some (.int .i64 0) := cell_of_row _ _ 1 _ _ _ q0; have fa1 : W.frozen? ⟨w.heap.size, 1, none⟩ = false := frozen_of_row _ _ 1 _ _ q0; have xa2 : W.cell? ⟨w.heap.size, 2, none⟩ = some (.int .i64 0) := cell_of_row _ _ 2 _ _ _ q0; have fa2 : W.frozen? ⟨w.heap.size, 2, none⟩ = false := frozen_of_row _ _ 2 _ _ q0; have xa3 : W.cell? ⟨w.heap.size, 3, none⟩ = some (.bool false) := cell_of_row _ _ 3 _ _ _ q0; have fa3 : W.frozen? ⟨w.heap.size, 3, none⟩ = false := frozen_of_row _ _ 3 _ _ q0
  go_loop [6] (fun i => ∃ k : Nat, k ≤ l.length ∧ i = .int .i64 k ∧ Hid (val (l.drop k) o = val l o)) (fun i => l.length - (intOf i).toNat)
  case atStart => exact ⟨0, Nat.zero_le _, by go_num, Lib.hid rfl⟩
  case round =>
    obtain ⟨k, hk, rfl, HV⟩ := hrel
    by_cases hlt : k < l.length
    · obtain ⟨b, off, rfl, a0, a1, a2, a3⟩ := (hp.below (by (repeat (first | with_reducible exact Below.refl _ _ | with_reducible assumption | with_reducible refine bdraw ?_ | with_reducible refine bdrewN ?_ _ | with_reducible refine balloc ?_ _ | with_reducible refine bset ?_ (by simp <;> omega) | with_reducible refine bstep ?_ (by assumption) | with_reducible refine btrans ?_ (by assumption)))) (Nat.le_refl _)).wr hlt
      have hkI : (k : Int) < (l.length : Int) := by omega
      have hk0 : (0 : Int) ≤ (k : Int) := by omega
      have HD := Lib.hid (List.drop_eq_getElem_cons hlt)
      generalize l[k] = x at *
      have c0 := atb a0 (w' := W) (by (repeat (first | with_reducible exact Below.refl _ _ | with_reducible assumption | with_reducible refine bdraw ?_ | with_reducible refine bdrewN ?_ _ | with_reducible refine balloc ?_ _ | with_reducible refine bset ?_ (by simp <;> omega) | with_reducible refine bstep ?_ (by assumption) | with_reducible refine btrans ?_ (by assumption)))); have c1 := atb a1 (w' := W) (by (repeat (first | with_reducible exact Below.refl _ _ | with_reducible assumption | with_reducible refine bdraw ?_ | with_reducible refine bdrewN ?_ _ | with_reducible refine balloc ?_ _ | with_reducible refine bset ?_ (by simp <;> omega) | with_reducible refine bstep ?_ (by assumption) | with_reducible refine btrans ?_ (by assumption)))); have c2 := atb a2 (w' := W) (by (repeat (first | with_reducible exact Below.refl _ _ | with_reducible assumption | with_reducible refine bdraw ?_ | with_reducible refine bdrewN ?_ _ | with_reducible refine balloc ?_ _ | with_reducible refine bset ?_ (by simp <;> omega) | with_reducible refine bstep ?_ (by assumption) | with_reducible refine btrans ?_ (by assumption)))); have c3 := atb a3 (w' := W) (by (repeat (first | with_reducible exact Below.refl _ _ | with_reducible assumption | with_reducible refine bdraw ?_ | with_reducible refine bdrewN ?_ _ | with_reducible refine balloc ?_ _ | with_reducible refine bset ?_ (by simp <;> omega) | with_reducible refine bstep ?_ (by assumption) | with_reducible refine btrans ?_ (by assumption))))
      clear a0 a1 a2 a3
      by_cases hx : x.o = o
      · have HR : Hid (val l o = some x) := Lib.hid (by rw [← HV.out, HD.out, val_cons, if_pos hx])
        have d1 : (x.o == o) = true := by simpa using hx
        clear hx
        go_wp2
        have q5 := set4 (a := .int .i64 x.c) (b := .int .i64 x.n) (c := .int .i64 x.o) (d := .bool x.g) q0
        refine bodyPost_ret (results_cell_tmp1 rfl _ _ w.heap.size 32 #[.int .i64 x.c, .int .i64 x.n, .int .i64 x.o, .bool x.g] (0, 0) _ rfl q5 Try.underlying32 rfl (by kernel_rfl)) rfl ?_
        exact ⟨by rw [HR.out]; rfl, by (repeat (first | with_reducible exact Below.refl _ _ | with_reducible assumption | with_reducible refine bdraw ?_ | with_reducible refine bdrewN ?_ _ | with_reducible refine balloc ?_ _ | with_reducible refine bset ?_ (by simp <;> omega) | with_reducible refine bstep ?_ (by assumption) | with_reducible refine btrans ?_ (by assumption)))⟩
      · have HR : Hid (val (l.drop (k + 1)) o = val l o) := Lib.hid (by rw [← HV.out, HD.out, val_cons, if_neg hx])
        have d1 : (x.o == o) = false := by simpa using hx
        clear hx
        go_wp2
        go_round
        case rel => exact ⟨k + 1, by omega, by go_num, HR⟩
        case measure => simp [intOf]; omega
    · have hkI : ¬ (k : Int) < (l.length : Int) := by omega
      have HR : Hid (val l o = none) := Lib.hid (by rw [← HV.out, List.drop_eq_nil_of_le (by omega)]; rfl)
      go_wp2
      have q5 := set4 (a := .int .i64 0) (b := .int .i64 0) (c := .int .i64 0) (d := .bool false) q0
      refine bodyPost_ret (results_cell_tmp1 rfl _ _ w.heap.size 32 #[.int .i64 0, .int .i64 0, .int .i64 0, .bool false] (0, 0) _ rfl q5 Try.underlying32 rfl (by kernel_rfl)) rfl ?_
      exact ⟨by rw [HR.out]; rfl, by (repeat (first | with_reducible exact Below.refl _ _ | with_reducible assumption | with_reducible refine bdraw ?_ | with_reducible refine bdrewN ?_ _ | with_reducible refine balloc ?_ _ | with_reducible refine bset ?_ (by simp <;> omega) | with_reducible refine bstep ?_ (by assumption) | with_reducible refine btrans ?_ (by assumption)))⟩

theorem val_hit {l : List Wr} {o : Int} {i : Nat} (hi : i < l.length) (hl : Lows l o i) (he : l[i].o = o) : val l o = some l[i] := by
  induction l generalizing i with
  | nil => simp at hi
  | cons y l ih =>
    rw [val_cons]
    cases i with
    | zero => simp at he; rw [if_pos he]; rfl
    | succ i =>
      have h1 := hl 0 (by simp) (by omega)
      simp at h1 hi he
      rw [if_neg (by omega), ih hi (fun m h hm => hl (m + 1) (by simpa using h) (by omega)) he]
      simp
theorem val_miss {l : List Wr} {o : Int} {i : Nat} (hu : Up l) (hl : Lows l o i) (hh : Highs l o i) (hn : ¬ ∃ h : i < l.length, l[i].o = o) : val l o = none := by
  unfold val
  rw [List.find?_eq_none]
  intro y hy
  obtain ⟨m, hm, rfl⟩ := List.getElem_of_mem hy
  have hne : l[m].o ≠ o := by
    rcases Nat.lt_trichotomy m i with h | h | h
    · have := hl m hm h; omega
    · subst h; exact fun e => hn ⟨hm, e⟩
    · have h1 := hu i m h hm
      have h2 := hh i (by omega) (Nat.le_refl _)
      omega
  simpa using hne

set_option maxHeartbeats 1000000 in
theorem get_c {S : Foot} {v : Value} {l : List Wr} {o : Int} {w : World} (hp : Sl wrE S w v l) :
    Calls Try.prog 12 #[v, .int .i64 o] w fun e w' => e = .returned (.tuple #[.agg #[.int .i64 (gotw l o).c, .int .i64 (gotw l o).n, .int .i64 (gotw l o).o, .bool (gotw l o).g], .int .i64 (gotn l o)]) ∧ Below w.heap.size w w' := by
  have hp := hp.any
  obtain ⟨A, cap, rfl, hc1, hc2, _⟩ := hp.shape
  unfold maxLen at hc2
  have q0 : (w.alloc (.cells #[.int .i64 0, .int .i64 0, .int .i64 0, .bool false] 32)).heap[w.heap.size]? = some (.cells #[.int .i64 0, .int .i64 0, .int .i64 0, .bool false] 32 (0, 0)) := heap_alloc_new w _
  have hb0 : Below w.heap.size w (w.alloc (.cells #[.int .i64 0, .int .i64 0, .int .i64 0, .bool false] 32)) := by (repeat (first | with_reducible exact Below.refl _ _ | with_reducible assumption | with_reducible refine bdraw ?_ | with_reducible refine bdrewN ?_ _ | with_reducible refine balloc ?_ _ | with_reducible refine bset ?_ (by simp <;> omega) | with_reducible refine bstep ?_ (by assumption) | with_reducible refine btrans ?_ (by assumption)))
  have HC := fun (w' : World) (b : Below w.heap.size w w') => Lib.hid (formed_c (w := w') (hp.below (by (repeat (first | with_reducible exact Below.refl _ _ | with_reducible assumption | with_reducible refine bdraw ?_ | with_reducible refine bdrewN ?_ _ | with_reducible refine balloc ?_ _ | with_reducible refine bset ?_ (by simp <;> omega) | with_reducible refine bstep ?_ (by assumption) | with_reducible refine btrans ?_ (by assumption)))) (Nat.le_refl _)))
  go_enter Try.func12, Try.ntmps12
  cases hf : formedW l with
  | false =>
    rw [hf] at HC
    have HF := Lib.hid hf
    clear hf
    go_wp2_with (go_at_call 14; refine (HC _ (by (repeat (first | with_reducible exact Below.refl _ _ | with_reducible assumption | with_reducible refine bdraw ?_ | with_reducible refine bdrewN ?_ _ | with_reducible refine balloc ?_ _ | with_reducible refine bset ?_ (by simp <;> omega) | with_reducible refine bstep ?_ (by assumption) | with_reducible refine btrans ?_ (by assumption))))).out.mono ?_; rintro e w1 ⟨rfl, b1⟩; have q1 := blkb q0 (w' := w1) (by (repeat (first | with_reducible exact Below.refl _ _ | with_reducible assumption | with_reducible refine bdraw ?_ | with_reducible refine bdrewN ?_ _ | with_reducible refine balloc ?_ _ | with_reducible refine bset ?_ (by simp <;> omega) | with_reducible refine bstep ?_ (by assumption) | with_reducible refine btrans ?_ (by assumption)))); have xa0 : w1.cell? ⟨w.heap.size, 0, none⟩ = some (.int .i64 0) := cell_of_row _ _ 0 _ _ _ q1; have fa0 : w1.frozen? ⟨w.heap.size, 0, none⟩ = false := frozen_of_row _ _ 0 _ _ q1; have xa1 : w1.cell? ⟨w.heap.size, 1, none⟩ = some (.int .i64 0) := cell_of_row _ _ 1 _ _ _ q1; have fa1 : w1.frozen? ⟨w.heap.size, 1, none⟩ = false := frozen_of_row _ _ 1 _ _ q1; have xa2 : w1.cell? ⟨w.heap.size, 2, none⟩ = some (.int .i64 0) := cell_of_row _ _ 2 _ _ _ q1; have fa2 : w1.frozen? ⟨w.heap.size, 2, none⟩ = false := frozen_of_row _ _ 2 _ _ q1; have xa3 : w1.cell? ⟨w.heap.size, 3, none⟩ = some (.bool false) := cell_of_row _ _ 3 _ _ _ q1; have fa3 : w1.frozen? ⟨w.heap.size, 3, none⟩ = false := frozen_of_row _ _ 3 _ _ q1)
    have q5 := set4 (a := .int .i64 0) (b := .int .i64 0) (c := .int .i64 0) (d := .bool false) q1
    refine bodyPost_ret (results_cell_tmp1 rfl _ _ w.heap.size 32 #[.int .i64 0, .int .i64 0, .int .i64 0, .bool false] (0, 0) _ rfl q5 Try.underlying32 rfl (by kernel_rfl)) rfl ?_
    exact ⟨by unfold gotw gotn; rw [HF.out]; rfl, by (repeat (first | with_reducible exact Below.refl _ _ | with_reducible assumption | with_reducible refine bdraw ?_ | with_reducible refine bdrewN ?_ _ | with_reducible refine balloc ?_ _ | with_reducible refine bset ?_ (by simp <;> omega) | with_reducible refine bstep ?_ (by assumption) | with_reducible refine btrans ?_ (by assumption)))⟩
  | true =>
    rw [hf] at HC
    have HF := Lib.hid hf
    have HU := Lib.hid (formedA_up hf)
    have hlen := formedA_len hf (by omega)
    clear hf
    have HC2 := fun (w' : World) (b : Below w.heap.size w w') => Lib.hid (place_c (w := w') (o := o) (hp.below (by (repeat (first | with_reducible exact Below.refl _ _ | with_reducible assumption | with_reducible refine bdraw ?_ | with_reducible refine bdrewN ?_ _ | with_reducible refine balloc ?_ _ | with_reducible refine bset ?_ (by simp <;> omega) | with_reducible refine bstep ?_ (by assumption) | with_reducible refine btrans ?_ (by assumption)))) (Nat.le_refl _)) HU.out (by omega))
    go_wp2_with fail
    refine (HC _ (by (repeat (first | with_reducible exact Below.refl _ _ | with_reducible assumption | with_reducible refine bdraw ?_ | with_reducible refine bdrewN ?_ _ | with_reducible refine balloc ?_ _ | with_reducible refine bset ?_ (by simp <;> omega) | with_reducible refine bstep ?_ (by assumption) | with_reducible refine btrans ?_ (by assumption))))).out.mono ?_
    rintro e w1 ⟨rfl, b1⟩
    go_wp2_with fail
    refine (HC2 _ (by (repeat (first | with_reducible exact Below.refl _ _ | with_reducible assumption | with_reducible refine bdraw ?_ | with_reducible refine bdrewN ?_ _ | with_reducible refine balloc ?_ _ | with_reducible refine bset ?_ (by simp <;> omega) | with_reducible refine bstep ?_ (by assumption) | with_reducible refine btrans ?_ (by assumption))))).out.mono ?_
    rintro e w2 ⟨i, f, rfl, HI, b2⟩
    have q1 := blkb q0 (w' := w2) (by (repeat (first | with_reducible exact Below.refl _ _ | with_reducible assumption | with_reducible refine bdraw ?_ | with_reducible refine bdrewN ?_ _ | with_reducible refine balloc ?_ _ | with_reducible refine bset ?_ (by simp <;> omega) | with_reducible refine bstep ?_ (by assumption) | with_reducible refine btrans ?_ (by assumption))))
    have xa0 : w2.cell? ⟨w.heap.size, 0, none⟩ = some (.int .i64 0) := cell_of_row _ _ 0 _ _ _ q1; have fa0 : w2.frozen? ⟨w.heap.size, 0, none⟩ = false := frozen_of_row _ _ 0 _ _ q1; have xa1 : w2.cell? ⟨w.heap.size, 1, none⟩ = some (.int .i64 0) := cell_of_row _ _ 1 _ _ _ q1; have fa1 : w2.frozen? ⟨w.heap.size, 1, none⟩ = false := frozen_of_row _ _ 1 _ _ q1; have xa2 : w2.cell? ⟨w.heap.size, 2, none⟩ = some (.int .i64 0) := cell_of_row _ _ 2 _ _ _ q1; have fa2 : w2.frozen? ⟨w.heap.size, 2, none⟩ = false := frozen_of_row _ _ 2 _ _ q1; have xa3 : w2.cell? ⟨w.heap.size, 3, none⟩ = some (.bool false) := cell_of_row _ _ 3 _ _ _ q1; have fa3 : w2.frozen? ⟨w.heap.size, 3, none⟩ = false := frozen_of_row _ _ 3 _ _ q1
    cases f with
    | false =>
      have hv : Hid (val l o = none) := Lib.hid (val_miss HU.out HI.out.2.1 HI.out.2.2.1 (fun h => by have := HI.out.2.2.2.2 h; cases this))
      go_wp2
      refine bodyPost_ret (results_cell_tmp1 rfl _ _ w.heap.size 32 #[.int .i64 0, .int .i64 0, .int .i64 0, .bool false] (0, 0) _ rfl (set4 q1) Try.underlying32 rfl (by kernel_rfl)) rfl ?_
      exact ⟨by unfold gotw gotn; rw [HF.out, hv.out]; rfl, by (repeat (first | with_reducible exact Below.refl _ _ | with_reducible assumption | with_reducible refine bdraw ?_ | with_reducible refine bdrewN ?_ _ | with_reducible refine balloc ?_ _ | with_reducible refine bset ?_ (by simp <;> omega) | with_reducible refine bstep ?_ (by assumption) | with_reducible refine btrans ?_ (by assumption)))⟩
    | true =>
      obtain ⟨hil, hio⟩ : ∃ h : i < l.length, l[i].o = o := HI.out.2.2.2.1 rfl
      have hv : Hid (val l o = some l[i]) := Lib.hid (val_hit hil HI.out.2.1 hio)
      obtain ⟨b, off, rfl, a0, a1, a2, a3⟩ := (hp.below (by (repeat (first | with_reducible exact Below.refl _ _ | with_reducible assumption | with_reducible refine bdraw ?_ | with_reducible refine bdrewN ?_ _ | with_reducible refine balloc ?_ _ | with_reducible refine bset ?_ (by simp <;> omega) | with_reducible refine bstep ?_ (by assumption) | with_reducible refine btrans ?_ (by assumption)))) (Nat.le_refl _)).wr hil
      clear hio
      have hiI : (i : Int) < (l.length : Int) := by omega
      generalize l[i] = x at hv a0 a1 a2 a3
      have c0 := atb a0 (w' := w2) (by (repeat (first | with_reducible exact Below.refl _ _ | with_reducible assumption | with_reducible refine bdraw ?_ | with_reducible refine bdrewN ?_ _ | with_reducible refine balloc ?_ _ | with_reducible refine bset ?_ (by simp <;> omega) | with_reducible refine bstep ?_ (by assumption) | with_reducible refine btrans ?_ (by assumption)))); have c1 := atb a1 (w' := w2) (by (repeat (first | with_reducible exact Below.refl _ _ | with_reducible assumption | with_reducible refine bdraw ?_ | with_reducible refine bdrewN ?_ _ | with_reducible refine balloc ?_ _ | with_reducible refine bset ?_ (by simp <;> omega) | with_reducible refine bstep ?_ (by assumption) | with_reducible refine btrans ?_ (by assumption)))); have c2 := atb a2 (w' := w2) (by (repeat (first | with_reducible exact Below.refl _ _ | with_reducible assumption | with_reducible refine bdraw ?_ | with_reducible refine bdrewN ?_ _ | with_reducible refine balloc ?_ _ | with_reducible refine bset ?_ (by simp <;> omega) | with_reducible refine bstep ?_ (by assumption) | with_reducible refine btrans ?_ (by assumption)))); have c3 := atb a3 (w' := w2) (by (repeat (first | with_reducible exact Below.refl _ _ | with_reducible assumption | with_reducible refine bdraw ?_ | with_reducible refine bdrewN ?_ _ | with_reducible refine balloc ?_ _ | with_reducible refine bset ?_ (by simp <;> omega) | with_reducible refine bstep ?_ (by assumption) | with_reducible refine btrans ?_ (by assumption))))
      clear a0 a1 a2 a3
      go_wp2
      refine bodyPost_ret (results_cell_tmp1 rfl _ _ w.heap.size 32 #[.int .i64 x.c, .int .i64 x.n, .int .i64 x.o, .bool x.g] (0, 0) _ rfl (set4 q1) Try.underlying32 rfl (by kernel_rfl)) rfl ?_
      exact ⟨by unfold gotw gotn; rw [HF.out, hv.out]; rfl, by (repeat (first | with_reducible exact Below.refl _ _ | with_reducible assumption | with_reducible refine bdraw ?_ | with_reducible refine bdrewN ?_ _ | with_reducible refine balloc ?_ _ | with_reducible refine bset ?_ (by simp <;> omega) | with_reducible refine bstep ?_ (by assumption) | with_reducible refine btrans ?_ (by assumption)))⟩

set_option maxHeartbeats 1000000 in
theorem rget_c {S : Foot} {v : Value} {l : List Wr} {o : Int} {w : World} (hp : Sl wrE S w v l) :
    Calls Try.prog 13 #[v, .int .i64 o] w fun e w' => e = .returned (.tuple #[.agg #[.int .i64 (gotw l o).c, .int .i64 (gotw l o).n, .int .i64 (gotw l o).o, .bool (gotw l o).g], .int .i64 (gotn l o)]) ∧ Below w.heap.size w w' := by
  have hp := hp.any
  have q0 : (w.alloc (.cells #[.int .i64 0, .int .i64 0, .int .i64 0, .bool false] 32)).heap[w.heap.size]? = some (.cells #[.int .i64 0, .int .i64 0, .int .i64 0, .bool false] 32 (0, 0)) := heap_alloc_new w _
  have hb0 : Below w.heap.size w (w.alloc (.cells #[.int .i64 0, .int .i64 0, .int .i64 0, .bool false] 32)) := by (repeat (first | with_reducible exact Below.refl _ _ | with_reducible assumption | with_reducible refine bdraw ?_ | with_reducible refine bdrewN ?_ _ | with_reducible refine balloc ?_ _ | with_reducible refine bset ?_ (by simp <;> omega) | with_reducible refine bstep ?_ (by assumption) | with_reducible refine btrans ?_ (by assumption)))
  have HC := fun (w' : World) (b : Below w.heap.size w w') => Lib.hid (rformed_c (w := w') (hp.below (by (repeat (first | with_reducible exact Below.refl _ _ | with_reducible assumption | with_reducible refine bdraw ?_ | with_reducible refine bdrewN ?_ _ | with_reducible refine balloc ?_ _ | with_reducible refine bset ?_ (by simp <;> omega) | with_reducible refine bstep ?_ (by assumption) | with_reducible refine btrans ?_ (by assumption)))) (Nat.le_refl _)))
  have HC2 := fun (w' : World) (b : Below w.heap.size w w') => Lib.hid (at_c (w := w') (o := o) (hp.below (by (repeat (first | with_reducible exact Below.refl _ _ | with_reducible assumption | with_reducible refine bdraw ?_ | with_reducible refine bdrewN ?_ _ | with_reducible refine balloc ?_ _ | with_reducible refine bset ?_ (by simp <;> omega) | with_reducible refine bstep ?_ (by assumption) | with_reducible refine btrans ?_ (by assumption)))) (Nat.le_refl _)))
  go_enter Try.func13, Try.ntmps13
  cases hf : formedW l with
  | false =>
    rw [hf] at HC
    have HF := Lib.hid hf
    clear hf
    go_wp2_with (go_at_call 15; refine (HC _ (by (repeat (first | with_reducible exact Below.refl _ _ | with_reducible assumption | with_reducible refine bdraw ?_ | with_reducible refine bdrewN ?_ _ | with_reducible refine balloc ?_ _ | with_reducible refine bset ?_ (by simp <;> omega) | with_reducible refine bstep ?_ (by assumption) | with_reducible refine btrans ?_ (by assumption))))).out.mono ?_; rintro e w1 ⟨rfl, b1⟩; have q1 := blkb q0 (w' := w1) (by (repeat (first | with_reducible exact Below.refl _ _ | with_reducible assumption | with_reducible refine bdraw ?_ | with_reducible refine bdrewN ?_ _ | with_reducible refine balloc ?_ _ | with_reducible refine bset ?_ (by simp <;> omega) | with_reducible refine bstep ?_ (by assumption) | with_reducible refine btrans ?_ (by assumption)))); have xa0 : w1.cell? ⟨w.heap.size, 0, none⟩ = some (.int .i64 0) := cell_of_row _ _ 0 _ _ _ q1; have fa0 : w1.frozen? ⟨w.heap.size, 0, none⟩ = false := frozen_of_row _ _ 0 _ _ q1; have xa1 : w1.cell? ⟨w.heap.size, 1, none⟩ = some (.int .i64 0) := cell_of_row _ _ 1 _ _ _ q1; have fa1 : w1.frozen? ⟨w.heap.size, 1, none⟩ = false := frozen_of_row _ _ 1 _ _ q1; have xa2 : w1.cell? ⟨w.heap.size, 2, none⟩ = some (.int .i64 0) := cell_of_row _ _ 2 _ _ _ q1; have fa2 : w1.frozen? ⟨w.heap.size, 2, none⟩ = false := frozen_of_row _ _ 2 _ _ q1; have xa3 : w1.cell? ⟨w.heap.size, 3, none⟩ = some (.bool false) := cell_of_row _ _ 3 _ _ _ q1; have fa3 : w1.frozen? ⟨w.heap.size, 3, none⟩ = false := frozen_of_row _ _ 3 _ _ q1)
    have q5 := set4 (a := .int .i64 0) (b := .int .i64 0) (c := .int .i64 0) (d := .bool false) q1
    refine bodyPost_ret (results_cell_tmp1 rfl _ _ w.heap.size 32 #[.int .i64 0, .int .i64 0, .int .i64 0, .bool false] (0, 0) _ rfl q5 Try.underlying32 rfl (by kernel_rfl)) rfl ?_
    exact ⟨by unfold gotw gotn; rw [HF.out]; rfl, by (repeat (first | with_reducible exact Below.refl _ _ | with_reducible assumption | with_reducible refine bdraw ?_ | with_reducible refine bdrewN ?_ _ | with_reducible refine balloc ?_ _ | with_reducible refine bset ?_ (by simp <;> omega) | with_reducible refine bstep ?_ (by assumption) | with_reducible refine btrans ?_ (by assumption)))⟩
  | true =>
    rw [hf] at HC
    have HF := Lib.hid hf
    have HG : Hid (gotw l o = (val l o).getD wz ∧ gotn l o = if (val l o).isSome then 0 else 8) := Lib.hid (by unfold gotw gotn; rw [hf]; exact ⟨rfl, rfl⟩)
    clear hf
    cases hv : val l o with
    | none =>
      have HV := Lib.hid hv
      rw [hv] at HC2
      clear hv
      have HC3 : ∀ (w' : World) (b : Below w.heap.size w w'), Hid (Calls Try.prog 27 #[v, .int .i64 o] w' fun e w'' => e = .returned (.tuple #[.agg #[.int .i64 0, .int .i64 0, .int .i64 0, .bool false], .bool false]) ∧ Below w'.heap.size w' w'') := HC2
      clear HC2
      go_wp2_with (first
        | (go_at_call 15; refine (HC _ (by (repeat (first | with_reducible exact Below.refl _ _ | with_reducible assumption | with_reducible refine bdraw ?_ | with_reducible refine bdrewN ?_ _ | with_reducible refine balloc ?_ _ | with_reducible refine bset ?_ (by simp <;> omega) | with_reducible refine bstep ?_ (by assumption) | with_reducible refine btrans ?_ (by assumption))))).out.mono ?_; rintro e w1 ⟨rfl, b1⟩)
        | (go_at_call 27; refine (HC3 _ (by (repeat (first | with_reducible exact Below.refl _ _ | with_reducible assumption | with_reducible refine bdraw ?_ | with_reducible refine bdrewN ?_ _ | with_reducible refine balloc ?_ _ | with_reducible refine bset ?_ (by simp <;> omega) | with_reducible refine bstep ?_ (by assumption) | with_reducible refine btrans ?_ (by assumption))))).out.mono ?_; rintro e w2 ⟨rfl, b2⟩; have q1 := blkb q0 (w' := w2) (by (repeat (first | with_reducible exact Below.refl _ _ | with_reducible assumption | with_reducible refine bdraw ?_ | with_reducible refine bdrewN ?_ _ | with_reducible refine balloc ?_ _ | with_reducible refine bset ?_ (by simp <;> omega) | with_reducible refine bstep ?_ (by assumption) | with_reducible refine btrans ?_ (by assumption)))); have hz2 : w.heap.size < w2.heap.size := (Array.getElem?_eq_some_iff.1 q1).1; have xa0 : w2.cell? ⟨w.heap.size, 0, none⟩ = some (.int .i64 0) := cell_of_row _ _ 0 _ _ _ q1; have fa0 : w2.frozen? ⟨w.heap.size, 0, none⟩ = false := frozen_of_row _ _ 0 _ _ q1; have xa1 : w2.cell? ⟨w.heap.size, 1, none⟩ = some (.int .i64 0) := cell_of_row _ _ 1 _ _ _ q1; have fa1 : w2.frozen? ⟨w.heap.size, 1, none⟩ = false := frozen_of_row _ _ 1 _ _ q1; have xa2 : w2.cell? ⟨w.heap.size, 2, none⟩ = some (.int .i64 0) := cell_of_row _ _ 2 _ _ _ q1; have fa2 : w2.frozen? ⟨w.heap.size, 2, none⟩ = false := frozen_of_row _ _ 2 _ _ q1; have xa3 : w2.cell? ⟨w.heap.size, 3, none⟩ = some (.bool false) := cell_of_row _ _ 3 _ _ _ q1; have fa3 : w2.frozen? ⟨w.heap.size, 3, none⟩ = false := frozen_of_row _ _ 3 _ _ q1))
      refine bodyPost_ret (results_cell_tmp1 rfl _ _ w.heap.size 32 #[.int .i64 0, .int .i64 0, .int .i64 0, .bool false] (0, 0) _ rfl (blkb (set4 q1) ((Below.refl _ _).alloc (Nat.le_refl _) _)) Try.underlying32 rfl (by kernel_rfl)) rfl ?_
      exact ⟨by rw [HG.out.1, HG.out.2, HV.out]; rfl, by (repeat (first | with_reducible exact Below.refl _ _ | with_reducible assumption | with_reducible refine bdraw ?_ | with_reducible refine bdrewN ?_ _ | with_reducible refine balloc ?_ _ | with_reducible refine bset ?_ (by simp <;> omega) | with_reducible refine bstep ?_ (by assumption) | with_reducible refine btrans ?_ (by assumption)))⟩
    | some x =>
      have HV := Lib.hid hv
      rw [hv] at HC2
      clear hv
      have HC3 : ∀ (w' : World) (b : Below w.heap.size w w'), Hid (Calls Try.prog 27 #[v, .int .i64 o] w' fun e w'' => e = .returned (.tuple #[.agg #[.int .i64 x.c, .int .i64 x.n, .int .i64 x.o, .bool x.g], .bool true]) ∧ Below w'.heap.size w' w'') := HC2
      clear HC2
      go_wp2_with (first
        | (go_at_call 15; refine (HC _ (by (repeat (first | with_reducible exact Below.refl _ _ | with_reducible assumption | with_reducible refine bdraw ?_ | with_reducible refine bdrewN ?_ _ | with_reducible refine balloc ?_ _ | with_reducible refine bset ?_ (by simp <;> omega) | with_reducible refine bstep ?_ (by assumption) | with_reducible refine btrans ?_ (by assumption))))).out.mono ?_; rintro e w1 ⟨rfl, b1⟩)
        | (go_at_call 27; refine (HC3 _ (by (repeat (first | with_reducible exact Below.refl _ _ | with_reducible assumption | with_reducible refine bdraw ?_ | with_reducible refine bdrewN ?_ _ | with_reducible refine balloc ?_ _ | with_reducible refine bset ?_ (by simp <;> omega) | with_reducible refine bstep ?_ (by assumption) | with_reducible refine btrans ?_ (by assumption))))).out.mono ?_; rintro e w2 ⟨rfl, b2⟩; have q1 := blkb q0 (w' := w2) (by (repeat (first | with_reducible exact Below.refl _ _ | with_reducible assumption | with_reducible refine bdraw ?_ | with_reducible refine bdrewN ?_ _ | with_reducible refine balloc ?_ _ | with_reducible refine bset ?_ (by simp <;> omega) | with_reducible refine bstep ?_ (by assumption) | with_reducible refine btrans ?_ (by assumption)))); have hz2 : w.heap.size < w2.heap.size := (Array.getElem?_eq_some_iff.1 q1).1; have xa0 : w2.cell? ⟨w.heap.size, 0, none⟩ = some (.int .i64 0) := cell_of_row _ _ 0 _ _ _ q1; have fa0 : w2.frozen? ⟨w.heap.size, 0, none⟩ = false := frozen_of_row _ _ 0 _ _ q1; have xa1 : w2.cell? ⟨w.heap.size, 1, none⟩ = some (.int .i64 0) := cell_of_row _ _ 1 _ _ _ q1; have fa1 : w2.frozen? ⟨w.heap.size, 1, none⟩ = false := frozen_of_row _ _ 1 _ _ q1; have xa2 : w2.cell? ⟨w.heap.size, 2, none⟩ = some (.int .i64 0) := cell_of_row _ _ 2 _ _ _ q1; have fa2 : w2.frozen? ⟨w.heap.size, 2, none⟩ = false := frozen_of_row _ _ 2 _ _ q1; have xa3 : w2.cell? ⟨w.heap.size, 3, none⟩ = some (.bool false) := cell_of_row _ _ 3 _ _ _ q1; have fa3 : w2.frozen? ⟨w.heap.size, 3, none⟩ = false := frozen_of_row _ _ 3 _ _ q1))
      refine bodyPost_ret (results_cell_tmp1 rfl _ _ w.heap.size 32 #[.int .i64 x.c, .int .i64 x.n, .int .i64 x.o, .bool x.g] (0, 0) _ rfl (blkb (set4 q1) ((Below.refl _ _).alloc (Nat.le_refl _) _)) Try.underlying32 rfl (by kernel_rfl)) rfl ?_
      exact ⟨by rw [HG.out.1, HG.out.2, HV.out]; rfl, by (repeat (first | with_reducible exact Below.refl _ _ | with_reducible assumption | with_reducible refine bdraw ?_ | with_reducible refine bdrewN ?_ _ | with_reducible refine balloc ?_ _ | with_reducible refine bset ?_ (by simp <;> omega) | with_reducible refine bstep ?_ (by assumption) | with_reducible refine btrans ?_ (by assumption)))⟩
end Go.Proofs.Ytkocbhcklnjomaa