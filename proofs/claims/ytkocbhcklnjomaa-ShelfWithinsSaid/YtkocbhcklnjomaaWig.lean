/- The shelf: Within. -/
import Derived.Test.YtkocbhcklnjomaaWie
import Derived.Test.YtkocbhcklnjomaaWic
import Derived.Maps.AppendAt
set_option linter.unusedSimpArgs false
namespace Go.Proofs.Ytkocbhcklnjomaa
open Go.RowKit Go.Shelf
attribute [local go_sem] Oper.semAt_some

def flt (s : List Sp) (l : List Wr) : List Wr := l.filter fun x => hasSp s x.o
theorem flt_hit {s : List Sp} (pre : List Wr) {x : Wr} (h : hasSp s x.o = true) : flt s (pre ++ [x]) = flt s pre ++ [x] := by unfold flt; simp [List.filter_append, h]
theorem flt_miss {s : List Sp} (pre : List Wr) {x : Wr} (h : hasSp s x.o = false) : flt s (pre ++ [x]) = flt s pre := by unfold flt; simp [List.filter_append, h]
theorem flt_len (s : List Sp) (pre : List Wr) : (flt s pre).length ≤ pre.length := List.length_filter_le _ _
/-- the answer of Within -/
def wiL (s : List Sp) (l : List Wr) : List Wr := if formedW l then flt s l else []
def wiE (l : List Wr) : Int := if formedW l then 0 else 1
def Wi (s : List Sp) (l : List Wr) (w : World) (e : Ending) (w' : World) : Prop := ∃ v', e = .returned (.tuple #[v', .int .i64 (wiE l)]) ∧ Sl wrE Any w' v' (wiL s l) ∧ Below w.heap.size w w'
theorem reps_wr {S : Foot} {w : World} : ∀ l : List Wr, Reps wrE S w (l.flatMap wcs) l
  | [] => Reps.nil
  | x :: r => by
    have h1 : Reps wrE S w (wcs x) [x] := Reps.single (show wrE.rd S w (wcs x) x from rfl)
    exact h1.append (reps_wr r)
theorem own_wr {w : World} {B : Nat} {t : TypeId} {v : Value} {l : List Wr} (h : w.ownsRow B t 4 v l.length (l.flatMap wcs)) : Own wrE Any w B t v l := ⟨_, h, reps_wr l⟩
theorem wcs_flat (l : List Wr) : (l.flatMap wcs).length = l.length * 4 := by
  induction l with
  | nil => rfl
  | cons x r ih => simp [List.flatMap_cons, ih, wcs]; omega

theorem ownsRow_below {W W' : World} {B : Nat} {t : TypeId} {v : Value} {n sz : Nat} {xs : List Value} (h : W.ownsRow B t sz v n xs) (b : Below W.heap.size W W') : W'.ownsRow B t sz v n xs := by
  refine h.kept (grown_below b) ?_
  rcases h.2 with ⟨rfl, _⟩ | ⟨g, cap, cur, rfl, _⟩
  · exact .inl rfl
  · exact .inr (fun e => by simp [Value.ownBlock] at e)
set_option maxRecDepth 100000 in
set_option maxHeartbeats 8000000 in
theorem within_c {S S' : Foot} {v u : Value} {l : List Wr} {s : List Sp} {w : World} (hp : Sl wrE S w v l) (hq : Sl spE S' w u s) :
    Calls Try.prog 18 #[v, u] w (Wi s l w) := by
  have hp := hp.any
  have hq := hq.any
  obtain ⟨A, cap, rfl, hc1, hc2, _⟩ := hp.shape
  obtain ⟨As, cs, rfl, hc3, hc4, _⟩ := hq.shape
  unfold maxLen at hc2 hc4
  obtain ⟨i0, hin, hz0, hz1, hz2⟩ := info_parts wr_info
  have hpl := hp.lo
  have hql := hq.lo
  have bS := Boxed.new w 42 (.slice As s.length cs)
  have b0 : Below w.heap.size w (w.alloc (.cells #[.slice As s.length cs] 42)) := (Below.refl _ _).alloc (Nat.le_refl _) _
  have HF := Lib.hid (formed_c (hp.below b0 (Nat.le_refl _)))
  refine (callsIn_wide (n := 8)).1 (callsIn_of_wp_marks Try.func18 rfl trivial (wpIn_wide.2 ?_) rfl)
  simp only [Try.ntmps18, List.size_toArray, List.length_cons, List.length_nil, Nat.reduceAdd, Nat.reduceSub, Array.replicate_succ, Array.replicate_zero, List.push_toArray, List.append_toArray, List.nil_append, List.cons_append]
  cases hE : formedW l
  · have HR : Hid (wiE l = 1 ∧ wiL s l = []) := Lib.hid (by unfold wiE wiL; rw [hE]; exact ⟨rfl, rfl⟩)
    rw [hE] at HF
    clear hE
    go_wp2_with fail
    refine HF.out.mono ?_
    rintro e w1 ⟨rfl, b1⟩
    go_wp2
    refine ⟨_, results_tmp2 rfl _ _ _, ?_⟩
    exact ⟨_, by rw [HR.out.1]; rfl, by rw [HR.out.2]; exact Sl.nil, bstep b0 b1⟩
  have HR : Hid (wiE l = 0 ∧ wiL s l = flt s l) := Lib.hid (by unfold wiE wiL; rw [hE]; exact ⟨rfl, rfl⟩)
  have HE := Lib.hid hE
  have hll : l.length ≤ 256 := by have := formedA_len (d := -1) hE (by omega); omega
  rw [hE] at HF
  clear hE
  go_wp2_with fail
  refine HF.out.mono ?_
  rintro e w1 ⟨rfl, b1⟩
  have b01 := bstep b0 b1
  have bS1 : Boxed w1 w.heap.size 42 (.slice As s.length cs) := blkb bS b1
  have hz1' : w.heap.size + 1 ≤ w1.heap.size := by have := b1.size; simpa using this
  go_wp2_with fail
  refine (all_c A l.length cap _).mono ?_
  rintro e w2 ⟨rfl, rfl⟩
  have bO := (Boxed.new w1 22 (.slice none 0 0)).alloc (.cells #[.slice A l.length cap] 22)
  have bI := Boxed.new (w1.alloc (.cells #[.slice none 0 0] 22)) 22 (.slice A l.length cap)
  rw [World.size_alloc] at bI
  have bS3 := (bS1.alloc (.cells #[.slice none 0 0] 22)).alloc (.cells #[.slice A l.length cap] 22)
  have b03 : Below w.heap.size w ((w1.alloc (.cells #[.slice none 0 0] 22)).alloc (.cells #[.slice A l.length cap] 22)) := by (repeat (first | with_reducible exact Below.refl _ _ | with_reducible assumption | with_reducible refine bdraw ?_ | with_reducible refine bdrewN ?_ _ | with_reducible refine balloc ?_ _ | with_reducible refine bset ?_ (by simp <;> omega) | with_reducible refine bstep ?_ (by assumption) | with_reducible refine btrans ?_ (by assumption)))
  obtain ⟨W2, hW2⟩ : ∃ W2, (w1.alloc (.cells #[.slice none 0 0] 22)).alloc (.cells #[.slice A l.length cap] 22) = W2 := ⟨_, rfl⟩
  have hz2' : W2.heap.size = w1.heap.size + 2 := by rw [← hW2]; simp
  rw [hW2] at bO bI bS3 b03 ⊢
  have hp2 := hpl.lob b03
  clear hW2
  go_wp2
  refine (wpIn_wide (n := 8)).1 ?_
  refine wpIn_rangeFunc_ownH rfl (by decide) (gf := 28) (lb := #[.pointer (some ⟨w1.heap.size + 1, 0, none⟩)]) rfl trivial (enters_of Try.func28 (by kernel_rfl) rfl)
    (all_stops 7 (by decide) (w1.heap.size + 1) w.heap.size A cap l W2 (by omega) (by omega) bI.cell hp2) belowK_t (belowK_b (by omega)) (Below.refl _ _) (fun _ => rfl)
    (fun pre W => (Boxed W w.heap.size 42 (.slice As s.length cs) ∧ (∃ v, Boxed W w1.heap.size 22 v ∧ W.ownsRow w1.heap.size 32 4 v (flt s pre).length ((flt s pre).flatMap wcs) ∧ True)) ∧ Below w.heap.size w W)
    (fun _ _ _ => False)
    (OwnFrom.and (OwnFrom.and (Go.Own.from (boxed_own _ _ _) _) (Go.Own.from (holdsRow_own w1.heap.size w1.heap.size 22 32 4 (fun pre => (flt s pre).length) (fun pre => (flt s pre).flatMap wcs) (fun _ _ => True)) _)) (ownFrom_below (Nat.le_refl _) (by omega)))
    (fun _ _ _ _ _ hs _ _ => hs)
    ⟨⟨bS3, ⟨.slice none 0 0, bO, World.ownsRow_nil _ _ _ _, trivial⟩⟩, b03⟩
    (fun x a' W => ∃ Bx, w1.heap.size < Bx ∧ W.heap[Bx]? = some (.cells #[.int .i64 x.c, .int .i64 x.n, .int .i64 x.o, .bool x.g] 32 (0, 0)) ∧ a' = { tmps := #[.slice A l.length cap, .slice As s.length cs, undef, .pointer (some ⟨w.heap.size, 0, none⟩), .slice none 0 0, .int .i64 0, .pointer (some ⟨w1.heap.size, 0, none⟩), .int .i64 x.o, .pointer (some ⟨Bx, 0, none⟩), .slice A l.length cap, .bool true, .bool false, .slice A l.length cap, .func (.func 28) #[] #[.pointer (some ⟨w1.heap.size + 1, 0, none⟩)], .int .i64 x.o, agw x, undef, undef, undef, undef, undef, undef, undef, undef], defers := [] })
    (fun x a' _ X Y row hs hg hr => by obtain ⟨Bx, h1, h2, h3⟩ := hs; exact ⟨Bx, h1, (hg.block Bx (Array.getElem?_eq_some_iff.1 h2).1 (fun e => by obtain ⟨_, o, ho, hc⟩ := hr Bx e.symm; rw [h2] at ho; cases ho; cases hc)).trans h2, h3⟩)
    ?assign ?body ?done ?stop
  case assign =>
    rintro lr pre x W K ⟨⟨cS, ⟨v, cO, cR, _⟩⟩, cB⟩ hK
    dsimp only [agw]
    gi_wp2
    exact hK _ _ ((KeepsOthers.alloc _ _).from _) ((Below.refl _ W).alloc cB.size _) ⟨⟨cS.alloc _, ⟨v, cO.alloc _, cR.alloc _, trivial⟩⟩, cB.alloc cB.size _⟩ ⟨W.heap.size, cO.lt, heap_alloc_new W _, rfl⟩
  case body =>
    rintro lr pre x a' W hlr ⟨r, hr⟩ ⟨⟨cS, ⟨v, cO, cR, _⟩⟩, cB⟩ ⟨Bx, hBx, cX, rfl⟩ hlt
    have HH := fun (W' : World) (b9 : Below W.heap.size W W') => Lib.hid (has_c (o := x.o) ((hql.lob cB).below b9 (Nat.le_refl _)))
    have ccS := cS.cell
    have hfl := flt_len s pre
    cases hh : hasSp s x.o with
    | false =>
      have HM := Lib.hid (flt_miss pre hh)
      rw [hh] at HH
      clear hh
      gi_wp2_with (refine ⟨trivial, ?_⟩; gi_at_call 29; refine (CallsIn.inRound lr (callsIn_wide.2 (HH _ (Below.refl _ _)).out)).mono ?_; rintro e W5 ⟨rfl, b5⟩)
      refine ⟨(KeepsOthers.of_grownBy (grown_below b5) (fun j o e => by cases e)).from _, b5.mono cB.size, ⟨⟨blkb cS b5, ⟨v, blkb cO b5, ?_, trivial⟩⟩, bstep cB b5⟩⟩
      rw [HM.out]
      exact ownsRow_below cR b5
    | true =>
      have HM := Lib.hid (flt_hit pre hh)
      rw [hh] at HH
      clear hh
      have hszW := cB.size
      have hOlt := cO.lt
      gi_wp2_with (first
        | (refine ⟨trivial, ?_⟩; gi_at_call 29; refine (CallsIn.inRound lr (callsIn_wide.2 (HH _ (Below.refl _ _)).out)).mono ?_; rintro e W5 ⟨rfl, b5⟩; have hz5 := b5.size; have cO5 : Boxed W5 w1.heap.size 22 v := blkb cO b5; have cR5 := ownsRow_below cR b5; have ccO5 := cO5.cell; have qX := blkb cX b5; have xx0 : W5.cell? ⟨Bx, 0, none⟩ = some (.int .i64 x.c) := cell_of_row _ _ 0 _ _ _ qX; have fx0 : W5.frozen? ⟨Bx, 0, none⟩ = false := frozen_of_row _ _ 0 _ _ qX; have xx1 : W5.cell? ⟨Bx, 1, none⟩ = some (.int .i64 x.n) := cell_of_row _ _ 1 _ _ _ qX; have fx1 : W5.frozen? ⟨Bx, 1, none⟩ = false := frozen_of_row _ _ 1 _ _ qX; have xx2 : W5.cell? ⟨Bx, 2, none⟩ = some (.int .i64 x.o) := cell_of_row _ _ 2 _ _ _ qX; have fx2 : W5.frozen? ⟨Bx, 2, none⟩ = false := frozen_of_row _ _ 2 _ _ qX; have xx3 : W5.cell? ⟨Bx, 3, none⟩ = some (.bool x.g) := cell_of_row _ _ 3 _ _ _ qX; have fx3 : W5.frozen? ⟨Bx, 3, none⟩ = false := frozen_of_row _ _ 3 _ _ qX; have hcs : ∀ (j : Nat) (u : Value), (wcs x)[j]? = some u → (W5.alloc (.cells #[.int .i64 x.c, .int .i64 x.n, .int .i64 x.o, .bool x.g] 32)).cell? ((⟨W5.heap.size, 0, none⟩ : Addr).add j) = some u := (fun j u hj => by rw [add_lit', Nat.zero_add]; exact new_cells W5 (wcs x) 32 j u hj))
        | (gi_at_builtin; refine wpListIn_append_own _ rfl (.tmp 19) (.tmp 21) 22 rfl w1.heap.size 32 i0 _ 4 32 Try.underlying22 hin hz0 hz1 hz2 rfl (by decide) v _ _ rfl (cR5.alloc _) ⟨W5.heap.size, 0, none⟩ 1 1 (wcs x) rfl rfl hcs (by simp [wcs, Value.oneCell']) (by unfold maxLen; omega) (by omega) (by simp; omega) ?_; intro v' w6 hown' hgrow _; obtain ⟨g', cap', rfl⟩ := ownsRow_succ hown'; obtain ⟨hv1, hv2, hr2, hk2, hb2⟩ := cO5.appended (by decide) cR5 (by omega) (Nat.le_refl _) hown' hgrow; have hc1 := hv1.cell; have hf1 := hv1.frozen))
      have kf : KeepsOthers W W5 := KeepsOthers.of_grownBy (grown_below b5) (fun j o e => by cases e)
      refine ⟨(kf.trans hk2).from _, (b5.mono cB.size).trans (hb2.mono (by omega)), ⟨⟨?_, ⟨_, hv2, ?_, trivial⟩⟩, (bstep cB b5).trans (hb2.mono (by omega))⟩⟩
      · exact (hb2.block w.heap.size (by omega)).trans (blkb cS b5)
      · rw [HM.out]
        simpa [List.flatMap_append] using hr2
  case done =>
    rintro D ys W hD hys ⟨⟨cS, ⟨v, cO, cR, _⟩⟩, cB⟩ hK
    rw [HE.out, if_pos rfl] at hys
    subst hys
    have ccO := cO.cell
    have hO := own_wr cR
    go_wp2
    refine ⟨by simp, .inl ⟨_, _, rfl, run_takeDeferred hK, ?_⟩⟩
    refine ⟨_, results_tmp2 rfl _ _ _, v, by rw [HR.out.1]; rfl, ?_, cB.trans (belowK_b (w := w) (Nat.le_refl _) W D _ _ (by omega) hK rfl rfl)⟩
    rw [HR.out.2]
    exact (own_wr (ownsRow_putObj cR _ hK rfl)).slAny
  case stop =>
    rintro D c pre W _ _ h _
    exact h.elim
set_option maxRecDepth 100000 in
set_option maxHeartbeats 8000000 in
theorem rwithin_c {S S' : Foot} {v u : Value} {l : List Wr} {s : List Sp} {w : World} (hp : Sl wrE S w v l) (hq : Sl spE S' w u s) :
    Calls Try.prog 19 #[v, u] w (Wi s l w) := by
  have hp := hp.any
  have hq := hq.any
  obtain ⟨A, cap, rfl, hc1, hc2, _⟩ := hp.shape
  obtain ⟨As, cs, rfl, hc3, hc4, _⟩ := hq.shape
  unfold maxLen at hc2 hc4
  obtain ⟨i0, hin, hz0, hz1, hz2⟩ := info_parts wr_info
  obtain ⟨cs1, hzb, hzs1, hzc1⟩ := zero256b
  have HF := Lib.hid (rformed_c hp)
  cases hE : formedW l
  · have HR : Hid (wiE l = 1 ∧ wiL s l = []) := Lib.hid (by unfold wiE wiL; rw [hE]; exact ⟨rfl, rfl⟩)
    rw [hE] at HF
    clear hE hzb hzc1
    go_enter Try.func19, Try.ntmps19
    go_wp2_with fail
    refine HF.out.mono ?_
    rintro e w1 ⟨rfl, b1⟩
    go_wp2
    go_ret2
    exact ⟨_, by rw [HR.out.1]; rfl, by rw [HR.out.2]; exact Sl.nil, b1⟩
  have HR : Hid (wiE l = 0 ∧ wiL s l = flt s l) := Lib.hid (by unfold wiE wiL; rw [hE]; exact ⟨rfl, rfl⟩)
  have HLO := Lib.hid (fun y hy => (formedA_low (d := -1) (l := l) hE y hy).2)
  have hll : l.length ≤ 256 := by have := formedA_len (d := -1) hE (by omega); omega
  rw [hE] at HF
  clear hE
  go_enter Try.func19, Try.ntmps19
  go_wp2_with fail
  refine HF.out.mono ?_
  rintro e w1 ⟨rfl, b1⟩
  go_wp2_with fail
  refine (rset_c (hq.below b1 (Nat.le_refl _))).mono ?_
  rintro e w2 ⟨ar, rfl, HMk, b2⟩
  have hi9 : (Try.prog.info? 50).map (·.size) = some ar.size := by rw [HMk.out.1]; exact arr_info
  have hold : cs1.size = ar.size := by rw [hzs1, HMk.out.1]
  have h1c := HMk.out.one
  have hq0 := heap_alloc_new w2 (.cells cs1 50)
  have b12 := bstep b1 b2
  go_wp2_with (refine wpList_store_row rfl 50 (.tmp 6) (.tmp 13) rfl w2.heap.size ar rfl rfl 50 cs1 hq0 hi9 hold h1c ?_; rw [World.setRow_alloc_new])
  have hzA : (w2.alloc (.cells ar 50)).heap.size = w2.heap.size + 1 := by simp
  have qA := heap_alloc_new w2 (.cells ar 50)
  have bA : Below w.heap.size w (w2.alloc (.cells ar 50)) := by (repeat (first | with_reducible exact Below.refl _ _ | with_reducible assumption | with_reducible refine bdraw ?_ | with_reducible refine bdrewN ?_ _ | with_reducible refine balloc ?_ _ | with_reducible refine bset ?_ (by simp <;> omega) | with_reducible refine bstep ?_ (by assumption) | with_reducible refine btrans ?_ (by assumption)))
  clear hq0 hold h1c hi9
  go_loopw [7, 8] (fun ov iv wr => ∃ k : Nat, k ≤ l.length ∧ iv = .int .i64 k ∧ Own wrE (HiN (w2.heap.size + 1) ov.ownBlock) wr (w2.heap.size + 1) 32 ov (flt s (l.take k)) ∧ Hid (wr.heap[w2.heap.size]? = some (.cells ar 50 (0, 0))) ∧ Below w.heap.size w wr ∧ w2.heap.size + 1 ≤ wr.heap.size) (fun _ iv _ => l.length - (intOf iv).toNat)
  case atStart => exact ⟨0, Nat.zero_le _, by go_num, Own.nil, Lib.hid qA, bA, by omega⟩
  case round =>
    obtain ⟨k, hk, rfl, hown, HQ, hbr, hzr⟩ := hrel
    by_cases hlt : k < l.length
    · have hkI : (k : Int) < (l.length : Int) := by omega
      have hk0 : (0 : Int) ≤ (k : Int) := by omega
      have hrw := HLO.out _ (List.getElem_mem hlt)
      have HTK := Lib.hid (List.take_succ_eq_append_getElem hlt)
      obtain ⟨bb, off, rfl, a0, a1, a2, a3⟩ := (hp.below hbr (Nat.le_refl _)).wr hlt
      generalize l[k] = x at *
      have hxo : 0 ≤ x.o ∧ x.o ≤ 255 := by
        unfold rightW at hrw
        simp only [Bool.and_eq_true, decide_eq_true_eq] at hrw
        exact hrw.1
      obtain ⟨o, ho⟩ : ∃ o : Nat, x.o = (o : Int) := ⟨x.o.toNat, by omega⟩
      have ho256 : o < 256 := by omega
      have hhs : hasSp s x.o = anySp s (o : Int) := by unfold hasSp; rw [decide_eq_true hxo, ho]; rfl
      have d0 := a0.cell
      have d1 := a1.cell
      have d2 := a2.cell
      have d3 := a3.cell
      have cM : wr.cell? ⟨w2.heap.size, o, none⟩ = some (.bool (anySp s (o : Int))) := by rw [cell_of_row wr w2.heap.size o _ _ _ HQ.out]; exact HMk.out.2 o ho256
      have hO0 : (0 : Int) ≤ (o : Int) := by omega
      have hO1 : (o : Int) < 256 := by omega
      have hfl : (flt s (l.take k)).length ≤ k := by have := flt_len s (l.take k); rw [List.length_take] at this; omega
      have HX := Lib.hid ho
      rw [ho] at d2
      cases hh : anySp s (o : Int) with
      | false =>
        have HM := Lib.hid (flt_miss (s := s) (l.take k) (x := x) (by rw [hhs, hh]))
        rw [hh] at cM
        clear a0 a1 a2 a3 hrw hhs hh hxo ho
        go_wp2
        go_roundw
        case rel => exact ⟨k + 1, by omega, by go_num, by rw [HTK.out, HM.out]; exact hown, HQ, hbr, hzr⟩
        case measure => simp [intOf]; omega
      | true =>
        have HM := Lib.hid (flt_hit (s := s) (l.take k) (x := x) (by rw [hhs, hh]))
        rw [hh] at cM
        clear a0 a1 a2 a3 hrw hhs hh hxo ho
        have hnc := new_cells wr [.int .i64 x.c, .int .i64 x.n, .int .i64 (o : Int), .bool x.g] 32
        have HRD : Hid ([Value.int .i64 x.c, .int .i64 x.n, .int .i64 (o : Int), .bool x.g] = wcs x) := Lib.hid (by unfold wcs; rw [HX.out])
        have hlt9 := hown.lt
        have qAq := HQ.out
        go_wp2_with (at_builtin; refine wpList_append_one _ rfl (.tmp 27) (.tmp 32) 22 rfl (E := wrE) (base := w2.heap.size + 1) Try.underlying22 hin hz0 hz1 hz2 rfl (hown.alloc _) (a := x) HRD.out hnc rfl rfl (by unfold maxLen; omega) (by omega) (by simp; omega) ?_; intro v3 w3 o3 b3 hv3 g3)
        have q9 := blkg (blkb qAq (w' := wr.alloc (.cells #[.int .i64 x.c, .int .i64 x.n, .int .i64 (o : Int), .bool x.g] 32)) ((Below.refl _ _).alloc (Nat.le_refl _) _)) g3 (fun g hg => by have := hlt9 g hg; omega)
        have hz3 := b3.size
        simp only [World.size_alloc] at hz3
        have b9 : Below w.heap.size w w3 := (hbr.alloc hbr.size _).trans (b3.mono (by have := b12.size; omega))
        go_roundw
        case rel => exact ⟨k + 1, by omega, by go_num, by rw [HTK.out, HM.out]; exact o3, Lib.hid q9, b9, by omega⟩
        case measure => simp [intOf]; omega
    · have hkI : ¬ (k : Int) < (l.length : Int) := by omega
      rw [show l.take k = l by rw [show k = l.length by omega, List.take_length]] at hown
      go_wp2
      go_ret2
      exact ⟨_, by rw [HR.out.1]; rfl, by rw [HR.out.2]; exact hown.slAny, hbr⟩
end Go.Proofs.Ytkocbhcklnjomaa
