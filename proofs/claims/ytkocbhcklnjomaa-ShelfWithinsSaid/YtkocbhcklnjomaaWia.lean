/- The shelf's iterator: what All's closure yields, for every loop body. -/
import Derived.Test.YtkocbhcklnjomaaWrg
import Derived.RangeFuncNested
import Derived.RangeFuncBound
import Derived.RangeFuncCalls
import Derived.RangeFuncLeaves
import Derived.RangeFuncBox
import Derived.Shelf.Abstract
import Derived.Shelf.RegionOpen
import Derived.OwnWalkIn
import Derived.TacticsInMore
import Derived.LoopNIn
import Derived.LoopIn
set_option linter.unusedSimpArgs false
namespace Go.Proofs.Ytkocbhcklnjomaa
open Go.RowKit Go.Shelf
attribute [local go_sem] Oper.semAt_some

def agw (x : Wr) : Value := .agg #[.int .i64 x.c, .int .i64 x.n, .int .i64 x.o, .bool x.g]
theorem grown_below {w w' : World} (h : Below w.heap.size w w') : w.grownBy w' none := ⟨h.os, h.tape, h.output, h.size, fun k hk _ => h.block k hk⟩
/-- shelf.All(l): the slice value is boxed; the function value captures the box. -/
theorem all_c (A : Option Addr) (n c : Nat) (w : World) :
    Calls Try.prog 17 #[.slice A n c] w fun e w' => e = .returned (.func (.func 28) #[] #[.pointer (some ⟨w.heap.size, 0, none⟩)]) ∧ w' = w.alloc (.cells #[.slice A n c] 22) := by
  go_enter Try.func17, Try.ntmps17
  go_wp2
  go_ret
  exact ⟨rfl, rfl⟩
def YP (l : List Wr) (J Jx : List Wr → World → Prop) (e : Ending) (W' : World) : Prop :=
  (∃ v, e = .returned v) ∧ ((∃ ys, ys = (if formedW l then l else []) ∧ J ys W') ∨ (∃ pre, (formedW l = true ∧ pre <+: l) ∧ Jx pre W'))
theorem YP.no {l : List Wr} {J Jx : List Wr → World → Prop} {v : Value} {W' : World} (h : formedW l = false) (hj : J [] W') : YP l J Jx (.returned v) W' := ⟨⟨_, rfl⟩, .inl ⟨_, by rw [h]; rfl, hj⟩⟩
theorem YP.all {l : List Wr} {J Jx : List Wr → World → Prop} {v : Value} {W' : World} (h : formedW l = true) (hj : J l W') : YP l J Jx (.returned v) W' := ⟨⟨_, rfl⟩, .inl ⟨_, by rw [h]; rfl, hj⟩⟩
theorem YP.part {l pre : List Wr} {J Jx : List Wr → World → Prop} {v : Value} {W' : World} (h : formedW l = true) (hp : pre <+: l) (hj : Jx pre W') : YP l J Jx (.returned v) W' := ⟨⟨_, rfl⟩, .inr ⟨_, ⟨h, hp⟩, hj⟩⟩
set_option maxRecDepth 100000 in
set_option maxHeartbeats 4000000 in
/-- All's closure, at the fence that asks nothing -/
theorem all1_in (n : Nat) (hn : 1 ≤ n) (lr Bs n₀ : Nat) (A : Option Addr) (cap : Nat) (l : List Wr) (J Jx : List Wr → World → Prop) (W : World) (hJ : AbidesFrom W.heap.size J) (_hJx : AbidesFrom W.heap.size Jx)
    (hY : ∀ pre x W1, J pre W1 → pre.length < l.length → YieldAt Fence.wide (n - 1) Try.prog lr #[.int .i64 x.o, agw x] W1 fun e W' =>
      (e = .returned (.bool true) ∧ J (pre ++ [x]) W' ∧ Below n₀ W1 W') ∨ (e = .returned (.bool false) ∧ Jx (pre ++ [x]) W'))
    (hB : Bs < W.heap.size) (hn0 : n₀ ≤ W.heap.size) (hBs : W.cell? ⟨Bs, 0, none⟩ = some (.slice A l.length cap)) (hl : Sl wrE (Lo n₀) W (.slice A l.length cap) l) (h0 : J [] W) :
    CallsIn Fence.wide n Try.prog 28 #[.func (.yield lr) #[] #[], .pointer (some ⟨Bs, 0, none⟩)] W (YP l J Jx) := by
  obtain ⟨_, _, _, hc1, hc2, _⟩ := hl.shape
  unfold maxLen at hc2
  refine callsIn_of_wp Try.func28 rfl trivial ?_ rfl
  simp only [Try.ntmps28, List.size_toArray, List.length_cons, List.length_nil, Nat.reduceAdd, Nat.reduceSub, Array.replicate_succ, Array.replicate_zero, List.push_toArray, List.append_toArray, List.nil_append, List.cons_append]
  have HF := Lib.hid (callsIn_wide (n := n - 1).2 (formed_c hl.any))
  cases hE : formedW l
  · rw [hE] at HF
    have HE := Lib.hid hE
    clear hE
    gi_wp2_with (refine ⟨trivial, ?_⟩; gi_at_call 14; refine HF.out.mono ?_; rintro e W1 ⟨rfl, b1⟩)
    refine bodyPost_ret (results_none rfl _ _ _) rfl ?_
    exact YP.no HE.out (hJ [] _ _ none h0 (grown_below b1) (fun r e => by cases e))
  · rw [hE] at HF
    have HE := Lib.hid hE
    clear hE
    gi_wp2_with (refine ⟨trivial, ?_⟩; gi_at_call 14; refine HF.out.mono ?_; rintro e W1 ⟨rfl, b1⟩; have hBs1 := (b1.cell (p := ⟨Bs, 0, none⟩) (by simp; omega)).trans hBs)
    have hJ1 := hJ [] _ _ none h0 (grown_below b1) (fun r e => by cases e)
    have b1n := b1.mono hn0
    gi_loopw [10, 4] (fun i _ wr => ∃ k : Nat, k ≤ l.length ∧ i = .int .i64 k ∧ J (l.take k) wr ∧ Below n₀ W wr) (fun i _ _ => l.length - (intOf i).toNat)
    case atStart => exact ⟨0, Nat.zero_le _, rfl, hJ1, b1n⟩
    case round =>
      obtain ⟨k, hk, rfl, hJs, hbr⟩ := hrel
      by_cases hlt : k < l.length
      · have hkI : (k : Int) < (l.length : Int) := by omega
        have hk0 : (0 : Int) ≤ (k : Int) := by omega
        have HTK := Lib.hid (List.take_succ_eq_append_getElem hlt)
        have HPX : Hid (l.take (k + 1) <+: l) := Lib.hid (List.take_prefix _ _)
        obtain ⟨bb, off, rfl, a0, a1, a2, a3⟩ := (hl.lob hbr).wr hlt
        have hJa := hJ (l.take k) wr _ none hJs (World.grownBy_alloc wr (.cells #[.int .i64 l[k].c, .int .i64 l[k].n, .int .i64 l[k].o, .bool l[k].g] 32) none) (fun r e => by cases e)
        obtain ⟨fn, tmps, assign, body, hy, hR⟩ := hY (l.take k) l[k] _ hJa (by rw [List.length_take]; omega)
        dsimp only [agw] at hy
        have d0 := a0.cell
        have d1 := a1.cell
        have d2 := a2.cell
        have d3 := a3.cell
        have hzr : n₀ ≤ wr.heap.size := by have := hbr.size; omega
        rw [← HTK.out] at hR
        clear a0 a1 a2 a3 hY hJa HTK
        generalize l[k] = x at *
        have hb5 : Below n₀ W (wr.alloc (.cells #[.int .i64 x.c, .int .i64 x.n, .int .i64 x.o, .bool x.g] 32)) := hbr.alloc hzr _
        gi_wp2
        refine hR.mono ?_
        rintro e W3 (⟨rfl, hJ3, hk3⟩ | ⟨rfl, hJx3⟩)
        · gi_wp2
          go_roundw
          case rel => exact ⟨k + 1, by omega, by simp, hJ3, hb5.trans hk3⟩
          case measure => simp [intOf]; omega
        · gi_wp2
          refine bodyPost_ret (results_none rfl _ _ _) rfl ?_
          exact YP.part HE.out HPX.out hJx3
      · have hkI : ¬ (k : Int) < (l.length : Int) := by omega
        have e : l.take k = l := by rw [show k = l.length by omega, List.take_length]
        rw [e] at hJs
        gi_wp2
        go_end0
        exact YP.all HE.out hJs
theorem all_stops (n : Nat) (hn : 1 ≤ n) (Bs n₀ : Nat) (A : Option Addr) (cap : Nat) (l : List Wr) (w : World) (hB : Bs < w.heap.size) (hn0 : n₀ ≤ w.heap.size) (hBs : w.cell? ⟨Bs, 0, none⟩ = some (.slice A l.length cap)) (hl : Sl wrE (Lo n₀) w (.slice A l.length cap) l) :
    SeqStopsK Fence.wide n Try.prog 28 #[.pointer (some ⟨Bs, 0, none⟩)] (fun x : Wr => #[Value.int .i64 x.o, agw x]) (Below n₀) (fun ys => ys = (if formedW l then l else [])) (fun pre => formedW l = true ∧ pre <+: l) l.length w := fun lr J Jx W hW hJ hJx hY h0 =>
  all1_in n hn lr Bs n₀ A cap l J Jx W hJ hJx hY (Nat.lt_of_lt_of_le hB hW.size) (Nat.le_trans hn0 hW.size) ((hW.cell (p := ⟨Bs, 0, none⟩) hB).trans hBs) (hl.below hW (Nat.le_refl _)) h0
/-- where the list is not formed nothing is yielded -/
theorem all_stops_no (n : Nat) (hn : 1 ≤ n) (Bs : Nat) (A : Option Addr) (cap : Nat) (l : List Wr) (hE : formedW l = false) (w : World) (hB : Bs < w.heap.size) (hBs : w.cell? ⟨Bs, 0, none⟩ = some (.slice A l.length cap)) (hl : Sl wrE (Lo w.heap.size) w (.slice A l.length cap) l) (n₀ : Nat) :
    SeqStopsK Fence.wide n Try.prog 28 #[.pointer (some ⟨Bs, 0, none⟩)] (fun x : Wr => #[Value.int .i64 x.o, agw x]) (Below n₀) (fun ys => ys = []) (fun _ => False) 0 w := fun lr J Jx W hW hJ _ _ h0 => by
  have hB' : Bs < W.heap.size := Nat.lt_of_lt_of_le hB hW.size
  have hBs' := (hW.cell (p := ⟨Bs, 0, none⟩) hB).trans hBs
  have HF := Lib.hid (callsIn_wide (n := n - 1).2 (formed_c (hl.below hW (Nat.le_refl _)).any))
  rw [hE] at HF
  clear hE
  refine callsIn_of_wp Try.func28 rfl trivial ?_ rfl
  simp only [Try.ntmps28, List.size_toArray, List.length_cons, List.length_nil, Nat.reduceAdd, Nat.reduceSub, Array.replicate_succ, Array.replicate_zero, List.push_toArray, List.append_toArray, List.nil_append, List.cons_append]
  gi_wp2_with (refine ⟨trivial, ?_⟩; gi_at_call 14; refine HF.out.mono ?_; rintro e W1 ⟨rfl, b1⟩)
  refine bodyPost_ret (results_none rfl _ _ _) rfl ?_
  exact ⟨⟨_, rfl⟩, .inl ⟨_, rfl, hJ [] _ _ none h0 (grown_below b1) (fun r e => by cases e)⟩⟩
end Go.Proofs.Ytkocbhcklnjomaa
