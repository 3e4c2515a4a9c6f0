/- The shelf's laws, walked: ShelfWalks. -/
import Derived.Test.YtkocbhcklnjomaaWru
import Derived.Test.YtkocbhcklnjomaaWic
set_option linter.unusedSimpArgs false
namespace Go.Proofs.Ytkocbhcklnjomaa
open Go.RowKit Go.Shelf
attribute [local go_sem] Oper.semAt_some

set_option maxRecDepth 100000 in
set_option maxHeartbeats 8000000 in
theorem shelfwalks_c {S : Foot} {v : Value} {l : List Wr} {most : Int} {w : World} (hp : Sl wrE S w v l) :
    Calls Try.prog 6 #[v, .int .i64 most] w fun e w' => e = .returned (.bool true) ∧ Below w.heap.size w w' := by
  have hp := hp.any
  obtain ⟨A, cap, rfl, hc1, hc2, _⟩ := hp.shape
  unfold maxLen at hc2
  have hpl := hp.lo
  obtain ⟨W0, hW0⟩ : ∃ W0, ((w.alloc (.cells #[.slice A l.length cap] 22)).alloc (.cells #[.int .i64 most] 3)).alloc (.cells #[.bool false] 4) = W0 := ⟨_, rfl⟩
  have hz0 : W0.heap.size = w.heap.size + 3 := by rw [← hW0]; simp
  have bL := ((Boxed.new w 22 (.slice A l.length cap)).alloc (.cells #[.int .i64 most] 3)).alloc (.cells #[.bool false] 4)
  have bM := (Boxed.new (w.alloc (.cells #[.slice A l.length cap] 22)) 3 (.int .i64 most)).alloc (.cells #[.bool false] 4)
  have bR := Boxed.new ((w.alloc (.cells #[.slice A l.length cap] 22)).alloc (.cells #[.int .i64 most] 3)) 4 (.bool false)
  simp only [World.size_alloc] at bM bR
  rw [hW0] at bL bM bR
  have b0 : Below w.heap.size w W0 := by rw [← hW0]; (repeat (first | with_reducible exact Below.refl _ _ | with_reducible assumption | with_reducible refine bdraw ?_ | with_reducible refine bdrewN ?_ _ | with_reducible refine balloc ?_ _ | with_reducible refine bset ?_ (by simp <;> omega) | with_reducible refine bstep ?_ (by assumption) | with_reducible refine btrans ?_ (by assumption)))
  refine (callsIn_wide (n := 8)).1 (callsIn_of_wp_marks Try.func6 rfl trivial (wpIn_wide.2 ?_) rfl)
  simp only [Try.ntmps6, List.size_toArray, List.length_cons, List.length_nil, Nat.reduceAdd, Nat.reduceSub, Array.replicate_succ, Array.replicate_zero, List.push_toArray, List.append_toArray, List.nil_append, List.cons_append]
  go_wp2_with fail
  clear hW0
  refine alive_c.mono ?_
  rintro e w1 ⟨rfl, b1⟩
  have b01 := bstep b0 b1
  have hz1 := b1.size
  have bL1 : Boxed w1 w.heap.size 22 (.slice A l.length cap) := blkb bL b1
  have bM1 : Boxed w1 (w.heap.size + 1) 3 (.int .i64 most) := blkb bM b1
  have bR1 : Boxed w1 (w.heap.size + 1 + 1) 4 (.bool false) := blkb bR b1
  have bL2 := bL1.alloc (.cells #[.int .i64 0] 3)
  have cL2 := bL2.cell
  go_wp2_with fail
  refine (all_c A l.length cap _).mono ?_
  rintro e w2 ⟨rfl, rfl⟩
  have bK := (Boxed.new w1 3 (.int .i64 0)).alloc (.cells #[.slice A l.length cap] 22)
  have bI := Boxed.new (w1.alloc (.cells #[.int .i64 0] 3)) 22 (.slice A l.length cap)
  rw [World.size_alloc] at bI
  have bL3 := bL2.alloc (.cells #[.slice A l.length cap] 22)
  have bM3 := (bM1.alloc (.cells #[.int .i64 0] 3)).alloc (.cells #[.slice A l.length cap] 22)
  have bR3 := (bR1.alloc (.cells #[.int .i64 0] 3)).alloc (.cells #[.slice A l.length cap] 22)
  have b03 : Below w.heap.size w ((w1.alloc (.cells #[.int .i64 0] 3)).alloc (.cells #[.slice A l.length cap] 22)) := by (repeat (first | with_reducible exact Below.refl _ _ | with_reducible assumption | with_reducible refine bdraw ?_ | with_reducible refine bdrewN ?_ _ | with_reducible refine balloc ?_ _ | with_reducible refine bset ?_ (by simp <;> omega) | with_reducible refine bstep ?_ (by assumption) | with_reducible refine btrans ?_ (by assumption)))
  obtain ⟨W2, hW2⟩ : ∃ W2, (w1.alloc (.cells #[.int .i64 0] 3)).alloc (.cells #[.slice A l.length cap] 22) = W2 := ⟨_, rfl⟩
  have hz2 : W2.heap.size = w1.heap.size + 2 := by rw [← hW2]; simp
  rw [hW2] at bK bI bL3 bM3 bR3 b03 ⊢
  have hp2 := hpl.lob b03
  clear hW2 bL2 cL2
  go_wp2
  refine (wpIn_wide (n := 8)).1 ?_
  cases hE : formedW l
  · have hne : l.length ≠ 0 := fun h => by
      have : l = [] := List.eq_nil_of_length_eq_zero h
      subst this
      cases hE
    refine wpIn_rangeFunc_ownH rfl (by decide) (gf := 28) (lb := #[.pointer (some ⟨w1.heap.size + 1, 0, none⟩)]) rfl trivial (enters_of Try.func28 (by kernel_rfl) rfl)
      (all_stops_no 7 (by decide) (w1.heap.size + 1) A cap l hE W2 (by omega) bI.cell (hp2.mono (fun b fr h _ => by have : b < w.heap.size := h; show b < _; omega)) w.heap.size) belowK_t (belowK_b (by omega)) (Below.refl _ _) (fun _ => rfl)
      (fun pre W => ((Boxed W w.heap.size 22 (.slice A l.length cap) ∧ Boxed W (w.heap.size + 1) 3 (.int .i64 most)) ∧ (Boxed W (w.heap.size + 1 + 1) 4 (.bool false) ∧ Boxed W w1.heap.size 3 (.int .i64 ((pre.length : Nat) : Int)))) ∧ Below w.heap.size w W)
      (fun c pre W => (c = .ret ∧ (Boxed W (w.heap.size + 1 + 1) 4 (.bool true) ∨ (Boxed W (w.heap.size + 1 + 1) 4 (.bool false) ∧ ¬ pre <+: l))) ∧ Below w.heap.size w W)
      (OwnFrom.and (OwnFrom.and (OwnFrom.and (Go.Own.from (boxed_own _ _ _) _) (Go.Own.from (boxed_own _ _ _) _)) (OwnFrom.and (Go.Own.from (boxed_own _ _ _) _) (Go.Own.from (boxed_own _ _ (fun pre : List Wr => Value.int .i64 ((pre.length : Nat) : Int))) _))) (ownFrom_below (Nat.le_refl _) (by omega)))
      (fun c => OwnFrom.and (fun s X Y row hs hg hr => ⟨hs.1, hs.2.imp (fun h => boxed_own _ _ (fun (_ : Unit) => Value.bool true) () X Y row h hg (fun r e => (hr r e).2)) (fun h => ⟨boxed_own _ _ (fun (_ : Unit) => Value.bool false) () X Y row h.1 hg (fun r e => (hr r e).2), h.2⟩)⟩) (ownFrom_below (Nat.le_refl _) (by omega)))
      ⟨⟨⟨bL3, bM3⟩, ⟨bR3, bK⟩⟩, b03⟩
      (fun x a' W => ∃ Bx, w1.heap.size < Bx ∧ W.heap[Bx]? = some (.cells #[.int .i64 x.c, .int .i64 x.n, .int .i64 x.o, .bool x.g] 32 (0, 0)) ∧ a' = { tmps := #[.slice A l.length cap, .int .i64 most, .pointer (some ⟨w.heap.size, 0, none⟩), .pointer (some ⟨w.heap.size + 1, 0, none⟩), .pointer (some ⟨w.heap.size + 1 + 1, 0, none⟩), .pointer (some ⟨w1.heap.size, 0, none⟩), .int .i64 x.o, .pointer (some ⟨Bx, 0, none⟩), .bool true, .bool false, .slice A l.length cap, .func (.func 28) #[] #[.pointer (some ⟨w1.heap.size + 1, 0, none⟩)], .int .i64 x.o, agw x, undef, undef, undef, undef, undef, undef, undef, undef, undef, undef, undef, undef, undef, undef, undef, undef, undef, undef, undef, undef, undef, undef, undef, undef, undef, undef, undef, undef, undef, undef, undef, undef, undef, undef, undef, undef, undef], defers := [] })
      (fun x a' _ X Y row hs hg hr => by obtain ⟨Bx, h1, h2, h3⟩ := hs; exact ⟨Bx, h1, (hg.block Bx (Array.getElem?_eq_some_iff.1 h2).1 (fun e => by obtain ⟨_, o, ho, hc⟩ := hr Bx e.symm; rw [h2] at ho; cases ho; cases hc)).trans h2, h3⟩)
      ?assign ?body ?done ?stop
    case assign =>
      rintro lr pre x W K ⟨⟨⟨cL, cM⟩, ⟨cR, cK⟩⟩, cB⟩ hK
      dsimp only [agw]
      gi_wp2
      exact hK _ _ ((KeepsOthers.alloc _ _).from _) ((Below.refl _ W).alloc cB.size _) ⟨⟨⟨cL.alloc _, cM.alloc _⟩, ⟨cR.alloc _, cK.alloc _⟩⟩, cB.alloc cB.size _⟩ ⟨W.heap.size, cK.lt, heap_alloc_new W _, rfl⟩
    case body => exact fun _ _ _ _ _ _ _ _ _ h => absurd h (Nat.not_lt_zero _)
    case done =>
      rintro D ys W hD rfl ⟨⟨⟨cL, cM⟩, ⟨cR, cK⟩⟩, cB⟩ hK
      have ccL := cL.cell
      have ccR := cR.cell
      have cfR := cR.frozen
      have ccK : W.cell? ⟨w1.heap.size, 0, none⟩ = some (.int .i64 0) := cK.cell
      have d0 : ((0 : Int) == (l.length : Int)) = false := by rw [beq_eq_false_iff_ne]; omega
      have HRF := Lib.hid (rformed_c (hpl.lob cB))
      rw [hE] at HRF
      clear hE hne
      go_wp2_with fail
      refine HRF.out.mono ?_
      rintro e W5 ⟨rfl, b5⟩
      have cR5 : Boxed W5 (w.heap.size + 1 + 1) 4 (.bool false) := blkb cR b5
      have ccR5 := cR5.cell
      have cfR5 := cR5.frozen
      have hK5 : W5.heap[D]? = some (.deferred (some [])) := blkb hK b5
      have cB5 := bstep cB b5
      go_wp2
      have hKW := (KeepsOthers.setCell W5 ⟨w.heap.size + 1 + 1, 0, none⟩ (.bool true)).same D _ hK5 rfl
      refine ⟨by simp, .inl ⟨_, _, rfl, run_takeDeferred hKW, ?_⟩⟩
      have hc5 := cell_kept (World.cell?_setCell_same' W5 ⟨w.heap.size + 1 + 1, 0, none⟩ (.bool true) (by rw [ccR5]; rfl)) (grownBy_putObj' _ D (.deferred none)) (fun r e => by cases e; exact ⟨_, hKW, rfl⟩)
      refine ⟨.bool true, ?_, rfl, (cB5.setCell (p := ⟨w.heap.size + 1 + 1, 0, none⟩) (by show w.heap.size ≤ w.heap.size + 1 + 1; omega) _).trans (belowK_b (w := w) (Nat.le_refl _) _ D _ _ (by omega) hKW rfl rfl)⟩
      simp [results, Try.f6, go_sem, hc5]
    case stop =>
      rintro D c pre W _ h _ _
      exact h.elim
  · refine wpIn_rangeFunc_ownH rfl (by decide) (gf := 28) (lb := #[.pointer (some ⟨w1.heap.size + 1, 0, none⟩)]) rfl trivial (enters_of Try.func28 (by kernel_rfl) rfl)
      (all_stops 7 (by decide) (w1.heap.size + 1) w.heap.size A cap l W2 (by omega) (by omega) bI.cell hp2) belowK_t (belowK_b (by omega)) (Below.refl _ _) (fun _ => rfl)
      (fun pre W => ((Boxed W w.heap.size 22 (.slice A l.length cap) ∧ Boxed W (w.heap.size + 1) 3 (.int .i64 most)) ∧ (Boxed W (w.heap.size + 1 + 1) 4 (.bool false) ∧ Boxed W w1.heap.size 3 (.int .i64 ((pre.length : Nat) : Int)))) ∧ Below w.heap.size w W)
      (fun c pre W => (c = .ret ∧ (Boxed W (w.heap.size + 1 + 1) 4 (.bool true) ∨ (Boxed W (w.heap.size + 1 + 1) 4 (.bool false) ∧ ¬ pre <+: l))) ∧ Below w.heap.size w W)
      (OwnFrom.and (OwnFrom.and (OwnFrom.and (Go.Own.from (boxed_own _ _ _) _) (Go.Own.from (boxed_own _ _ _) _)) (OwnFrom.and (Go.Own.from (boxed_own _ _ _) _) (Go.Own.from (boxed_own _ _ (fun pre : List Wr => Value.int .i64 ((pre.length : Nat) : Int))) _))) (ownFrom_below (Nat.le_refl _) (by omega)))
      (fun c => OwnFrom.and (fun s X Y row hs hg hr => ⟨hs.1, hs.2.imp (fun h => boxed_own _ _ (fun (_ : Unit) => Value.bool true) () X Y row h hg (fun r e => (hr r e).2)) (fun h => ⟨boxed_own _ _ (fun (_ : Unit) => Value.bool false) () X Y row h.1 hg (fun r e => (hr r e).2), h.2⟩)⟩) (ownFrom_below (Nat.le_refl _) (by omega)))
      ⟨⟨⟨bL3, bM3⟩, ⟨bR3, bK⟩⟩, b03⟩
      (fun x a' W => ∃ Bx, w1.heap.size < Bx ∧ W.heap[Bx]? = some (.cells #[.int .i64 x.c, .int .i64 x.n, .int .i64 x.o, .bool x.g] 32 (0, 0)) ∧ a' = { tmps := #[.slice A l.length cap, .int .i64 most, .pointer (some ⟨w.heap.size, 0, none⟩), .pointer (some ⟨w.heap.size + 1, 0, none⟩), .pointer (some ⟨w.heap.size + 1 + 1, 0, none⟩), .pointer (some ⟨w1.heap.size, 0, none⟩), .int .i64 x.o, .pointer (some ⟨Bx, 0, none⟩), .bool true, .bool false, .slice A l.length cap, .func (.func 28) #[] #[.pointer (some ⟨w1.heap.size + 1, 0, none⟩)], .int .i64 x.o, agw x, undef, undef, undef, undef, undef, undef, undef, undef, undef, undef, undef, undef, undef, undef, undef, undef, undef, undef, undef, undef, undef, undef, undef, undef, undef, undef, undef, undef, undef, undef, undef, undef, undef, undef, undef, undef, undef], defers := [] })
      (fun x a' _ X Y row hs hg hr => by obtain ⟨Bx, h1, h2, h3⟩ := hs; exact ⟨Bx, h1, (hg.block Bx (Array.getElem?_eq_some_iff.1 h2).1 (fun e => by obtain ⟨_, o, ho, hc⟩ := hr Bx e.symm; rw [h2] at ho; cases ho; cases hc)).trans h2, h3⟩)
      ?assign2 ?body2 ?done2 ?stop2
    case assign2 =>
      rintro lr pre x W K ⟨⟨⟨cL, cM⟩, ⟨cR, cK⟩⟩, cB⟩ hK
      dsimp only [agw]
      gi_wp2
      exact hK _ _ ((KeepsOthers.alloc _ _).from _) ((Below.refl _ W).alloc cB.size _) ⟨⟨⟨cL.alloc _, cM.alloc _⟩, ⟨cR.alloc _, cK.alloc _⟩⟩, cB.alloc cB.size _⟩ ⟨W.heap.size, cK.lt, heap_alloc_new W _, rfl⟩
    case body2 =>
      rintro lr pre x a' W hlr ⟨r, hr⟩ ⟨⟨⟨cL, cM⟩, ⟨cR, cK⟩⟩, cB⟩ ⟨Bx, hBx, cX, rfl⟩ hlt
      obtain ⟨bb, off, rfl, a0, a1, a2, a3⟩ := (hpl.lob cB).wr hlt
      have HRF := fun (W' : World) (b9 : Below W.heap.size W W') => Lib.hid (rformed_c ((hpl.lob cB).below b9 (Nat.le_refl _)))
      rw [hE] at HRF
      have hkI : ((pre.length : Nat) : Int) < (l.length : Int) := by omega
      have hk0 : (0 : Int) ≤ ((pre.length : Nat) : Int) := by omega
      have d9 : decide ((l.length : Int) ≤ ((pre.length : Nat) : Int)) = false := decide_eq_false (by omega)
      have d8 : decide (l.length ≤ pre.length) = false := decide_eq_false (by omega)
      have hwr : IntKind.i64.wrap (((pre.length : Nat) : Int) + 1) = ((pre.length : Nat) : Int) + 1 := IntWalk.i64_in _ (by omega)
      have HPY : Hid (pre ++ [x] <+: l → x = l[pre.length]) := Lib.hid (fun h => by
        obtain ⟨m, hm⟩ := h
        have : l[pre.length]? = some x := by rw [← hm]; simp
        rw [List.getElem?_eq_getElem hlt] at this
        exact (Option.some.inj this).symm)
      have hrn := fun (w' : World) => run_neq_wr x l[pre.length] w'
      generalize l[pre.length] = y at *
      have hsz := cK.lt
      clear hE bL3 bM3 bR3 b03 bK bI hp2
      have ccL := cL.cell
      gi_wp2_with fail
      have tL := (At.of_cell cL.cell).2
      have tK := (At.of_cell cK.cell).2
      have t0 := (At.of_cell (cell_of_row _ Bx 0 _ _ _ cX)).2
      have t1 := (At.of_cell (cell_of_row _ Bx 1 _ _ _ cX)).2
      have t2 := (At.of_cell (cell_of_row _ Bx 2 _ _ _ cX)).2
      have t3 := (At.of_cell (cell_of_row _ Bx 3 _ _ _ cX)).2
      have eL := fun y' : Ext W => atb tL y'.h
      have eK := fun y' : Ext W => atb tK y'.h
      have f0 := fun y' : Ext W => atb t0 y'.h
      have f1 := fun y' : Ext W => atb t1 y'.h
      have f2 := fun y' : Ext W => atb t2 y'.h
      have f3 := fun y' : Ext W => atb t3 y'.h
      have g0 := fun y' : Ext W => atb a0 y'.h
      have g1 := fun y' : Ext W => atb a1 y'.h
      have g2 := fun y' : Ext W => atb a2 y'.h
      have g3 := fun y' : Ext W => atb a3 y'.h
      have HRG := fun y' : Ext W => HRF y'.w y'.h
      clear tL tK t0 t1 t2 t3 a0 a1 a2 a3 ccL
      by_cases hxy : x = y
      · have dxy : (x != y) = false := by rw [hxy]; simp
        with_reducible refine wpIn_region_ext (by kernel_rfl) (by kernel_rfl) (by kernel_rfl) ?_
        (repeat (go_big_quiet_step ((go_at_call 15; exact ext_call (HRG _).out))))
        with_reducible refine wpQuiet_nil ?_
        intro wq hw'
        have bq := ext_out hw'
        clear hw'
        have kf : KeepsOthers W wq := KeepsOthers.of_grownBy (grown_below bq) (fun j o e => by cases e)
        have cLq : Boxed wq w.heap.size 22 (.slice (some ⟨bb, off, none⟩) l.length cap) := blkb cL bq
        have cMq : Boxed wq (w.heap.size + 1) 3 (.int .i64 most) := blkb cM bq
        have cRq : Boxed wq (w.heap.size + 1 + 1) 4 (.bool false) := blkb cR bq
        have cKq : Boxed wq w1.heap.size 3 (.int .i64 ((pre.length : Nat) : Int)) := blkb cK bq
        have cBq : Below w.heap.size w wq := bstep cB bq
        have bqn : Below w.heap.size W wq := bq.mono cB.size
        clear eL eK f0 f1 f2 f3 g0 g1 g2 g3 HRG HRF hrn cX
        have hlenx : (((pre ++ [x]).length : Nat) : Int) = ((pre.length : Nat) : Int) + 1 := by simp
        have cK9 : Boxed (wq.setCell ⟨w1.heap.size, 0, none⟩ (.int .i64 (((pre.length : Nat) : Int) + 1))) w1.heap.size 3 (.int .i64 (((pre ++ [x]).length : Nat) : Int)) := by rw [hlenx]; exact cKq.set _
        have cL9 : Boxed (wq.setCell ⟨w1.heap.size, 0, none⟩ (.int .i64 (((pre.length : Nat) : Int) + 1))) w.heap.size 22 (.slice (some ⟨bb, off, none⟩) l.length cap) := cLq.other (by omega) _
        have cM9 : Boxed (wq.setCell ⟨w1.heap.size, 0, none⟩ (.int .i64 (((pre.length : Nat) : Int) + 1))) (w.heap.size + 1) 3 (.int .i64 most) := cMq.other (by omega) _
        have cR9 : Boxed (wq.setCell ⟨w1.heap.size, 0, none⟩ (.int .i64 (((pre.length : Nat) : Int) + 1))) (w.heap.size + 1 + 1) 4 (.bool false) := cRq.other (by omega) _
        have kK := cKq.cell
        have fK := cKq.frozen
        have kM := cM9.cell
        have kR := cR9.cell
        have fR := cR9.frozen
        have hk1 : w.heap.size ≤ w1.heap.size := by omega
        have HKK := Lib.hid (And.intro hlenx cK9)
        clear hlenx cK9
        by_cases hm : ((pre.length : Nat) : Int) + 1 = most
        · have dm : (((pre.length : Nat) : Int) + 1 == most) = true := by rw [hm]; simp
          have HM := Lib.hid hm
          clear hm
          gi_wp2
          exact ⟨((kf.trans (KeepsOthers.setCell _ _ _)).trans (KeepsOthers.setCell _ _ _)).from _, ⟨rfl, .inl (cR9.set _)⟩, (cBq.setCell (p := ⟨w1.heap.size, 0, none⟩) hk1 _).setCell (p := ⟨w.heap.size + 1 + 1, 0, none⟩) (by show w.heap.size ≤ w.heap.size + 1 + 1; omega) _⟩
        · have dm : (((pre.length : Nat) : Int) + 1 == most) = false := by rw [beq_eq_false_iff_ne]; exact hm
          clear hm
          gi_wp2
          exact ⟨(kf.trans (KeepsOthers.setCell _ _ _)).from _, bqn.setCell (p := ⟨w1.heap.size, 0, none⟩) hk1 _, ⟨⟨cL9, cM9⟩, ⟨cR9, HKK.out.2⟩⟩, cBq.setCell (p := ⟨w1.heap.size, 0, none⟩) hk1 _⟩
      · have dxy : (x != y) = true := by rw [bne_iff_ne]; exact hxy
        with_reducible refine wpIn_region_ext (by kernel_rfl) (by kernel_rfl) (by kernel_rfl) ?_
        (repeat (go_big_quiet_step ((go_at_call 15; exact ext_call (HRG _).out))))
        with_reducible refine wpQuiet_nil ?_
        intro wq hw'
        have bq := ext_out hw'
        clear hw'
        have kf : KeepsOthers W wq := KeepsOthers.of_grownBy (grown_below bq) (fun j o e => by cases e)
        have cLq : Boxed wq w.heap.size 22 (.slice (some ⟨bb, off, none⟩) l.length cap) := blkb cL bq
        have cMq : Boxed wq (w.heap.size + 1) 3 (.int .i64 most) := blkb cM bq
        have cRq : Boxed wq (w.heap.size + 1 + 1) 4 (.bool false) := blkb cR bq
        have cKq : Boxed wq w1.heap.size 3 (.int .i64 ((pre.length : Nat) : Int)) := blkb cK bq
        have cBq : Below w.heap.size w wq := bstep cB bq
        have bqn : Below w.heap.size W wq := bq.mono cB.size
        clear eL eK f0 f1 f2 f3 g0 g1 g2 g3 HRG HRF hrn cX
        have kR := cRq.cell
        have fR := cRq.frozen
        gi_wp2
        exact ⟨(kf.trans (KeepsOthers.setCell _ _ _)).from _, ⟨rfl, .inr ⟨cRq.set _, fun h => hxy (HPY.out h)⟩⟩, cBq.setCell (p := ⟨w.heap.size + 1 + 1, 0, none⟩) (by show w.heap.size ≤ w.heap.size + 1 + 1; omega) _⟩
    case done2 =>
      rintro D ys W hD rfl ⟨⟨⟨cL, cM⟩, ⟨cR, cK⟩⟩, cB⟩ hK
      have ccL := cL.cell
      have ccR := cR.cell
      have cfR := cR.frozen
      have ccK : W.cell? ⟨w1.heap.size, 0, none⟩ = some (.int .i64 (l.length : Int)) := by have := cK.cell; rw [hE] at this; exact this
      clear hE
      go_wp2
      have hKW := (KeepsOthers.setCell W ⟨w.heap.size + 1 + 1, 0, none⟩ (.bool true)).same D _ hK rfl
      refine ⟨by simp, .inl ⟨_, _, rfl, run_takeDeferred hKW, ?_⟩⟩
      have hc5 := cell_kept (World.cell?_setCell_same' W ⟨w.heap.size + 1 + 1, 0, none⟩ (.bool true) (by rw [ccR]; rfl)) (grownBy_putObj' _ D (.deferred none)) (fun r e => by cases e; exact ⟨_, hKW, rfl⟩)
      refine ⟨.bool true, ?_, rfl, (cB.setCell (p := ⟨w.heap.size + 1 + 1, 0, none⟩) (by show w.heap.size ≤ w.heap.size + 1 + 1; omega) _).trans (belowK_b (w := w) (Nat.le_refl _) _ D _ _ (by omega) hKW rfl rfl)⟩
      simp [results, Try.f6, go_sem, hc5]
    case stop2 =>
      rintro D c pre W hD hSp ⟨⟨rfl, hres⟩, cB⟩ hK
      have cR : Boxed W (w.heap.size + 1 + 1) 4 (.bool true) := by
        rcases hres with h | h
        · exact h
        · exact absurd hSp.2 h.2
      have ccR := cR.cell
      gi_wp2
      refine ⟨by simp, .inl ⟨_, _, rfl, run_takeDeferred hK, ?_⟩⟩
      have hc5 := cell_kept ccR (grownBy_putObj' _ D (.deferred none)) (fun r e => by cases e; exact ⟨_, hK, rfl⟩)
      refine ⟨.bool true, ?_, rfl, cB.trans (belowK_b (w := w) (Nat.le_refl _) _ D _ _ (by omega) hK rfl rfl)⟩
      simp [results, Try.f6, go_sem, hc5]
end Go.Proofs.Ytkocbhcklnjomaa
