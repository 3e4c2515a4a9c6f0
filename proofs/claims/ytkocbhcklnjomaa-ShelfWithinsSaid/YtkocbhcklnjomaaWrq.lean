/- Shelves: the document's Put. -/
import Derived.Test.YtkocbhcklnjomaaWro
import Derived.Test.YtkocbhcklnjomaaWrp
namespace Go.Proofs.Ytkocbhcklnjomaa
open Go.RowKit

def wz : Wr := ⟨0, 0, 0, false⟩
/-- block bh: 256 marks; block ba: 256 writes: what f says of each object -/
def Tab (w : World) (bh ba : Nat) (f : Int → Option Wr) : Prop :=
  (∃ cs t, w.heap[bh]? = some (.cells cs t (0, 0)) ∧ cs.size = 256 ∧ ∀ j : Nat, j < 256 → cs[j]? = some (.bool (f j).isSome)) ∧
  (∃ cs t, w.heap[ba]? = some (.cells cs t (0, 0)) ∧ cs.size = 1024 ∧ ∀ j : Nat, j < 256 → ∀ c, c < 4 → cs[j * 4 + c]? = (wcs ((f j).getD wz))[c]?)
theorem Tab.keep {w w' : World} {bh ba : Nat} {f : Int → Option Wr} (h : Tab w bh ba f) (h1 : w'.heap[bh]? = w.heap[bh]?) (h2 : w'.heap[ba]? = w.heap[ba]?) : Tab w' bh ba f := by
  obtain ⟨⟨cs, t, a, b⟩, ⟨ds, u, c, d⟩⟩ := h
  exact ⟨⟨cs, t, h1.trans a, b⟩, ⟨ds, u, h2.trans c, d⟩⟩
theorem Tab.lt {w : World} {bh ba : Nat} {f : Int → Option Wr} (h : Tab w bh ba f) : bh < w.heap.size ∧ ba < w.heap.size := by
  obtain ⟨⟨cs, t, a, b⟩, ⟨ds, u, c, d⟩⟩ := h
  exact ⟨(Array.getElem?_eq_some_iff.1 a).1, (Array.getElem?_eq_some_iff.1 c).1⟩
theorem Tab.below {w w' : World} {bh ba : Nat} {f : Int → Option Wr} (h : Tab w bh ba f) (hb : Below w.heap.size w w') : Tab w' bh ba f :=
  h.keep (hb.block _ h.lt.1) (hb.block _ h.lt.2)
theorem Tab.has {w : World} {bh ba : Nat} {f : Int → Option Wr} (h : Tab w bh ba f) {x : Int} (h0 : 0 ≤ x) (h1 : x ≤ 255) : At Any w bh x.toNat (.bool (f x).isSome) := by
  obtain ⟨⟨cs, t, a, b, c⟩, _⟩ := h
  have := c x.toNat (by omega)
  rw [Int.toNat_of_nonneg h0] at this
  exact ⟨cs, t, (0, 0), a, this, trivial⟩
theorem Tab.free {w : World} {bh ba : Nat} {f : Int → Option Wr} (h : Tab w bh ba f) (o : Nat) : w.frozen? ⟨bh, o, none⟩ = false ∧ w.frozen? ⟨ba, o, none⟩ = false := by
  obtain ⟨⟨cs, t, a, b⟩, ⟨ds, u, c, d⟩⟩ := h
  exact ⟨frozen_of_row w bh o cs t a, frozen_of_row w ba o ds u c⟩
theorem Tab.wr {w : World} {bh ba : Nat} {f : Int → Option Wr} (h : Tab w bh ba f) {x : Int} (h0 : 0 ≤ x) (h1 : x ≤ 255) :
    At Any w ba (x.toNat * 4) (.int .i64 ((f x).getD wz).c) ∧ At Any w ba (x.toNat * 4 + 1) (.int .i64 ((f x).getD wz).n) ∧ At Any w ba (x.toNat * 4 + 2) (.int .i64 ((f x).getD wz).o) ∧ At Any w ba (x.toNat * 4 + 3) (.bool ((f x).getD wz).g) := by
  obtain ⟨_, ⟨ds, u, c, d, e⟩⟩ := h
  have h' := e x.toNat (by omega)
  rw [Int.toNat_of_nonneg h0] at h'
  exact ⟨⟨ds, u, (0, 0), c, h' 0 (by omega), trivial⟩, ⟨ds, u, (0, 0), c, h' 1 (by omega), trivial⟩, ⟨ds, u, (0, 0), c, h' 2 (by omega), trivial⟩, ⟨ds, u, (0, 0), c, h' 3 (by omega), trivial⟩⟩
/-- object x.o is set, in the walk's order -/
theorem Tab.set {w w1 : World} {bh ba : Nat} {f : Int → Option Wr} (h : Tab w bh ba f) (hne : bh ≠ ba) {x : Wr} (h0 : 0 ≤ x.o) (h1 : x.o ≤ 255)
    (hw1 : w1.heap[bh]? = (w.setCell ⟨bh, x.o.toNat, none⟩ (.bool true)).heap[bh]?) (hw2 : w1.heap[ba]? = w.heap[ba]?) :
    Tab (w1.setCells ba (x.o.toNat * 4) (wcs x)) bh ba (seta f x) := by
  obtain ⟨⟨cs, t, a, b, hc⟩, ⟨ds, u, c, d, e⟩⟩ := h
  have q0 := heap_setCell_same w bh x.o.toNat cs t (.bool true) a
  have q1 := heap_setCell_same w1 ba (x.o.toNat * 4) ds u (.int .i64 x.c) (hw2.trans c)
  have q2 := heap_setCell_same _ ba (x.o.toNat * 4 + 1) _ u (.int .i64 x.n) q1
  have q3 := heap_setCell_same _ ba (x.o.toNat * 4 + 1 + 1) _ u (.int .i64 x.o) q2
  have q4 := heap_setCell_same _ ba (x.o.toNat * 4 + 1 + 1 + 1) _ u (.bool x.g) q3
  refine ⟨⟨cs.setIfInBounds x.o.toNat (.bool true), t, ?_, by simpa using b, fun j hj => ?_⟩, ⟨_, u, q4, by simpa using d, fun j hj m hm => ?_⟩⟩
  · show ((((w1.setCell _ _).setCell _ _).setCell _ _).setCell _ _).heap[bh]? = _
    rw [heap_setCell_other _ _ _ _ (by simpa using hne), heap_setCell_other _ _ _ _ (by simpa using hne), heap_setCell_other _ _ _ _ (by simpa using hne), heap_setCell_other _ _ _ _ (by simpa using hne), hw1]
    exact q0
  · rw [Array.getElem?_setIfInBounds]
    unfold seta
    by_cases hx : x.o.toNat = j
    · rw [if_pos hx, if_pos (by omega), if_pos (by omega)]; rfl
    · rw [if_neg hx, hc j hj, if_neg (by omega)]
  · simp only [Array.getElem?_setIfInBounds, Array.size_setIfInBounds]
    unfold seta
    by_cases hx : x.o.toNat = j
    · subst hx
      rw [if_pos (show x.o = ((x.o.toNat : Nat) : Int) by omega)]
      rcases (by omega : m = 0 ∨ m = 1 ∨ m = 2 ∨ m = 3) with rfl | rfl | rfl | rfl
      · rw [if_neg (by omega), if_neg (by omega), if_neg (by omega), if_pos (by omega), if_pos (by omega)]; rfl
      · rw [if_neg (by omega), if_neg (by omega), if_pos (by omega), if_pos (by omega)]; rfl
      · rw [if_neg (by omega), if_pos (by omega), if_pos (by omega)]; rfl
      · rw [if_pos (by omega), if_pos (by omega)]; rfl
    · rw [if_neg (by omega), if_neg (by omega), if_neg (by omega), if_neg (by omega), if_neg (by omega), e j hj m hm]

theorem zero256b : ∃ cs : Array Value, (∀ w, (zeroValue 50).run Try.prog w = .ok (.agg cs) w) ∧ cs.size = 256 ∧ ∀ j, j < 256 → cs[j]? = some (.bool false) :=
  ⟨Array.replicate 256 (.bool false), fun w => by kernel_rfl, by simp, fun j hj => by simp [hj]⟩
theorem zero256w : ∃ cs : Array Value, (∀ w, (zeroValue 51).run Try.prog w = .ok (.agg cs) w) ∧ cs.size = 1024 ∧ ∀ j, j < 256 → ∀ c, c < 4 → cs[j * 4 + c]? = (wcs wz)[c]? :=
  ⟨((List.range 1024).map fun i => ((wcs wz)[i % 4]?).getD undef).toArray, fun w => by kernel_rfl, by simp, fun j hj c hc => by
    have h1 : j * 4 + c < 1024 := by omega
    have h2 : (j * 4 + c) % 4 = c := by omega
    simp [h1, h2]
    rw [List.getElem?_eq_getElem (show c < (wcs wz).length by simpa [wcs] using hc)]; rfl⟩

theorem collect_snoc (f : Int → Option Wr) (n : Nat) : collect f (n + 1) = collect f n ++ (match f (n : Int) with | none => [] | some y => [y]) := by
  unfold collect
  rw [List.range_succ, List.filterMap_append]
  cases h : f (n : Int) <;> simp [h]
theorem collect_len (f : Int → Option Wr) (n : Nat) : (collect f n).length ≤ n := by
  unfold collect
  exact Nat.le_trans (List.length_filterMap_le _ _) (by simp)
def rputs (l m : List Wr) : List Wr := if putOk l m then collect (m.foldl upd (l.foldl seta (fun _ => none))) 256 else []
theorem rputs_puts (l m : List Wr) : rputs l m = puts l m := by
  unfold rputs puts
  split
  · rename_i h
    unfold putOk at h
    rw [Bool.and_eq_true] at h
    exact rputs_eq h.1 h.2
  · rfl
set_option maxHeartbeats 4000000 in
theorem rput_c {S S' : Foot} {v u : Value} {l m : List Wr} {w : World} (hp : Sl wrE S w v l) (hq : Sl wrE S' w u m) :
    Calls Try.prog 10 #[v, u] w (Putted l m w) := by
  have hp := hp.any
  have hq := hq.any
  obtain ⟨A, cap, rfl, hc1, hc2, _⟩ := hp.shape
  obtain ⟨A2, cap2, rfl, hc3, hc4, _⟩ := hq.shape
  unfold maxLen at hc2 hc4
  obtain ⟨i0, hin, hz0, hz1, hz2⟩ := info_parts wr_info
  have HC := Lib.hid (rformed_c hp)
  obtain ⟨cs1, hzb, hzs1, hzc1⟩ := zero256b
  obtain ⟨cs2, hzw, hzs2, hzc2⟩ := zero256w
  have HT0 := Lib.hid (fun (w1 : World) => (show Tab ((w1.alloc (.cells cs1 50)).alloc (.cells cs2 51)) w1.heap.size (w1.heap.size + 1) (fun _ => none) from
    ⟨⟨cs1, _, heap_alloc2_old _ _ _, hzs1, fun j hj => by rw [hzc1 j hj]; rfl⟩, ⟨cs2, _, by have := heap_alloc_new (w1.alloc (.cells cs1 50)) (.cells cs2 51); simpa using this, hzs2, fun j hj c hc => hzc2 j hj c hc⟩⟩))
  clear hzs1 hzs2 hzc1 hzc2
  go_enter Try.func10, Try.ntmps10
  go_wp2_with (first
    | (go_at_call 15; refine HC.out.mono ?_; rintro e w1 ⟨rfl, b1⟩))
  · have hf : formedW l = false := by simp_all
    have e : putOk l m = false := by unfold putOk; rw [hf]; rfl
    go_ret2
    exact ⟨_, 1, rfl, Lib.hid (by rw [e]; rfl), by unfold puts; rw [e]; exact Sl.nil, by (repeat (first | with_reducible exact Below.refl _ _ | with_reducible assumption | with_reducible refine bdraw ?_ | with_reducible refine bdrewN ?_ _ | with_reducible refine balloc ?_ _ | with_reducible refine bset ?_ (by simp <;> omega) | with_reducible refine bstep ?_ (by assumption) | with_reducible refine btrans ?_ (by assumption)))⟩
  · have HF : Hid (formedW l = true) := Lib.hid (by simp_all)
    have HRl := Lib.hid (fun y hy => (formedA_low (d := -1) (l := l) HF.out y hy).2)
    go_loopw [8] (fun iv wr => ∃ k : Nat, k ≤ l.length ∧ iv = .int .i64 k ∧ Tab wr w1.heap.size (w1.heap.size + 1) ((l.take k).foldl seta (fun _ => none)) ∧ Below w.heap.size w wr) (fun iv _ => l.length - (intOf iv).toNat)
    case atStart => exact ⟨0, Nat.zero_le _, by go_num, HT0.out w1, by (repeat (first | with_reducible exact Below.refl _ _ | with_reducible assumption | with_reducible refine bdraw ?_ | with_reducible refine bdrewN ?_ _ | with_reducible refine balloc ?_ _ | with_reducible refine bset ?_ (by simp <;> omega) | with_reducible refine bstep ?_ (by assumption) | with_reducible refine btrans ?_ (by assumption)))⟩
    case round =>
      obtain ⟨k, hk, rfl, ht, hbr⟩ := hrel
      by_cases hlt : k < l.length
      · obtain ⟨b, off, rfl, a0, a1, a2, a3⟩ := (hp.below (by (repeat (first | with_reducible exact Below.refl _ _ | with_reducible assumption | with_reducible refine bdraw ?_ | with_reducible refine bdrewN ?_ _ | with_reducible refine balloc ?_ _ | with_reducible refine bset ?_ (by simp <;> omega) | with_reducible refine bstep ?_ (by assumption) | with_reducible refine btrans ?_ (by assumption)))) (Nat.le_refl _)).wr hlt
        have hbw : b < w.heap.size := (hp.wr hlt).choose_spec.choose_spec.1 |> fun e => by
          obtain ⟨b', off', e', y0, _⟩ := hp.wr hlt
          injection e' with e'
          injection e' with e1 e2
          subst e1 e2
          exact y0.lt
        have hkI : (k : Int) < (l.length : Int) := by omega
        have hk0 : (0 : Int) ≤ (k : Int) := by omega
        have hx : 0 ≤ l[k].o ∧ l[k].o ≤ 255 := by have := HRl.out _ (List.getElem_mem hlt); simp [rightW] at this; omega
        have HX : Hid (l.take (k + 1) = l.take k ++ [l[k]]) := Lib.hid (by rw [List.take_add_one]; simp [hlt])
        generalize l[k] = x at HX hx a0 a1 a2 a3
        obtain ⟨hx0, hx1⟩ := hx
        have c0 := atb a0 (w' := wr) (by (repeat (first | with_reducible exact Below.refl _ _ | with_reducible assumption | with_reducible refine bdraw ?_ | with_reducible refine bdrewN ?_ _ | with_reducible refine balloc ?_ _ | with_reducible refine bset ?_ (by simp <;> omega) | with_reducible refine bstep ?_ (by assumption) | with_reducible refine btrans ?_ (by assumption)))); have c1 := atb a1 (w' := wr) (by (repeat (first | with_reducible exact Below.refl _ _ | with_reducible assumption | with_reducible refine bdraw ?_ | with_reducible refine bdrewN ?_ _ | with_reducible refine balloc ?_ _ | with_reducible refine bset ?_ (by simp <;> omega) | with_reducible refine bstep ?_ (by assumption) | with_reducible refine btrans ?_ (by assumption)))); have c2 := atb a2 (w' := wr) (by (repeat (first | with_reducible exact Below.refl _ _ | with_reducible assumption | with_reducible refine bdraw ?_ | with_reducible refine bdrewN ?_ _ | with_reducible refine balloc ?_ _ | with_reducible refine bset ?_ (by simp <;> omega) | with_reducible refine bstep ?_ (by assumption) | with_reducible refine btrans ?_ (by assumption)))); have c3 := atb a3 (w' := wr) (by (repeat (first | with_reducible exact Below.refl _ _ | with_reducible assumption | with_reducible refine bdraw ?_ | with_reducible refine bdrewN ?_ _ | with_reducible refine balloc ?_ _ | with_reducible refine bset ?_ (by simp <;> omega) | with_reducible refine bstep ?_ (by assumption) | with_reducible refine btrans ?_ (by assumption))))
        have hb1 := b1.size
        have z0 : (wr.setCell ⟨w1.heap.size, x.o.toNat, none⟩ (.bool true)).cell? ⟨b, off + k * 4, none⟩ = _ := (cell_far (by simp; omega)).trans c0
        have z1 : (wr.setCell ⟨w1.heap.size, x.o.toNat, none⟩ (.bool true)).cell? ⟨b, off + k * 4 + 1, none⟩ = _ := (cell_far (by simp; omega)).trans c1
        have z2 : (wr.setCell ⟨w1.heap.size, x.o.toNat, none⟩ (.bool true)).cell? ⟨b, off + k * 4 + 2, none⟩ = _ := (cell_far (by simp; omega)).trans c2
        have z3 : (wr.setCell ⟨w1.heap.size, x.o.toNat, none⟩ (.bool true)).cell? ⟨b, off + k * 4 + 3, none⟩ = _ := (cell_far (by simp; omega)).trans c3
        have hh := (ht.has hx0 hx1).cell
        have hfr := (ht.free x.o.toNat).1
        have hba : ∀ o, (wr.setCell ⟨w1.heap.size, x.o.toNat, none⟩ (.bool true)).frozen? ⟨w1.heap.size + 1, o, none⟩ = false := fun o => by rw [World.frozen?_setCell]; exact (ht.free o).2
        have hs1 : ∀ w2 : World, w2.heap = (wr.setCell ⟨w1.heap.size, x.o.toNat, none⟩ (.bool true)).heap → Tab (w2.setCells (w1.heap.size + 1) (x.o.toNat * 4) (wcs x)) w1.heap.size (w1.heap.size + 1) (seta ((l.take k).foldl seta (fun _ => none)) x) := fun w2 h2 =>
          ht.set (by omega) hx0 hx1 (by rw [h2]) (by rw [h2]; exact heap_setCell_other _ _ _ _ (by simp))
        have hcl := ht.wr hx0 hx1
        have hwc : ∀ o, (wr.setCell ⟨w1.heap.size, x.o.toNat, none⟩ (.bool true)).cell? ⟨w1.heap.size + 1, o, none⟩ = wr.cell? ⟨w1.heap.size + 1, o, none⟩ := fun o => cell_far (by simp)
        have y0 := (hwc _).trans hcl.1.cell
        have y1 := (hwc _).trans hcl.2.1.cell
        have y2 := (hwc _).trans hcl.2.2.1.cell
        have y3 := (hwc _).trans hcl.2.2.2.cell
        have hbq : Below w.heap.size w (wr.setCell ⟨w1.heap.size, x.o.toNat, none⟩ (.bool true)) := by (repeat (first | with_reducible exact Below.refl _ _ | with_reducible assumption | with_reducible refine bdraw ?_ | with_reducible refine bdrewN ?_ _ | with_reducible refine balloc ?_ _ | with_reducible refine bset ?_ (by simp <;> omega) | with_reducible refine bstep ?_ (by assumption) | with_reducible refine btrans ?_ (by assumption)))
        go_wp2
        clear hh hfr a0 a1 a2 a3 c0 c1 c2 c3 hcl hwc
        generalize hW : wr.setCell ⟨w1.heap.size, x.o.toNat, none⟩ (.bool true) = W1 at *
        clear hW
        go_region
        go_wp2
        go_roundw
        case rel => exact ⟨k + 1, by omega, by go_num, by rw [HX.out, List.foldl_append]; exact (hs1 W1 rfl).keep rfl rfl, by (repeat (first | with_reducible exact Below.refl _ _ | with_reducible assumption | with_reducible refine bdraw ?_ | with_reducible refine bdrewN ?_ _ | with_reducible refine balloc ?_ _ | with_reducible refine bset ?_ (by simp <;> omega) | with_reducible refine bstep ?_ (by assumption) | with_reducible refine btrans ?_ (by assumption)))⟩
        case measure => simp [intOf]; omega
      · have hkI : ¬ (k : Int) < (l.length : Int) := by omega
        have HF1 : Hid ((l.take k).foldl seta (fun _ => none) = l.foldl seta (fun _ => none)) := Lib.hid (by rw [show k = l.length by omega, List.take_length])
        have ht1 : Tab wr w1.heap.size (w1.heap.size + 1) (l.foldl seta (fun _ => none)) := HF1.out ▸ ht
        generalize hf1 : l.foldl seta (fun _ => none) = f1 at *
        have HF1q := Lib.hid hf1
        clear ht HF1 hf1
        go_wp2
        go_loopw [9] (fun iv wq => ∃ k : Nat, k ≤ m.length ∧ iv = .int .i64 k ∧ Tab wq w1.heap.size (w1.heap.size + 1) ((m.take k).foldl upd f1) ∧ Below w.heap.size w wq ∧ Hid ((m.take k).all rightW = true)) (fun iv _ => m.length - (intOf iv).toNat)
        case atStart => exact ⟨0, Nat.zero_le _, by go_num, ht1, hbr, Lib.hid rfl⟩
        case round =>
          obtain ⟨j, hj, rfl, ht, hbq, HA⟩ := hrel
          by_cases hlt2 : j < m.length
          · obtain ⟨b, off, rfl, a0, a1, a2, a3⟩ := (hq.below (by (repeat (first | with_reducible exact Below.refl _ _ | with_reducible assumption | with_reducible refine bdraw ?_ | with_reducible refine bdrewN ?_ _ | with_reducible refine balloc ?_ _ | with_reducible refine bset ?_ (by simp <;> omega) | with_reducible refine bstep ?_ (by assumption) | with_reducible refine btrans ?_ (by assumption)))) (Nat.le_refl _)).wr hlt2
            have hbw : b < w.heap.size := by
              obtain ⟨b', off', e', y0, _⟩ := hq.wr hlt2
              injection e' with e'
              injection e' with e1 e2
              subst e1 e2
              exact y0.lt
            have hjI : (j : Int) < (m.length : Int) := by omega
            have hj0 : (0 : Int) ≤ (j : Int) := by omega
            have HX : Hid (m.take (j + 1) = m.take j ++ [m[j]]) := Lib.hid (by rw [List.take_add_one]; simp [hlt2])
            have HP : Hid (rightW m[j] = false → putOk l m = false) := Lib.hid (fun h => by
              unfold putOk
              rw [Bool.and_eq_false_iff]; right
              rw [← Bool.not_eq_true, List.all_eq_true]
              intro hall
              have := hall _ (List.getElem_mem hlt2)
              rw [h] at this; cases this)
            generalize m[j] = x at HX HP a0 a1 a2 a3
            have HCr := fun (w : World) => Lib.hid (rright_c x w)
            generalize hf2 : (m.take j).foldl upd f1 = f2 at *
            have HF2 := Lib.hid hf2
            clear hf2
            have c0 := atb a0 (w' := wr) (by (repeat (first | with_reducible exact Below.refl _ _ | with_reducible assumption | with_reducible refine bdraw ?_ | with_reducible refine bdrewN ?_ _ | with_reducible refine balloc ?_ _ | with_reducible refine bset ?_ (by simp <;> omega) | with_reducible refine bstep ?_ (by assumption) | with_reducible refine btrans ?_ (by assumption)))); have c1 := atb a1 (w' := wr) (by (repeat (first | with_reducible exact Below.refl _ _ | with_reducible assumption | with_reducible refine bdraw ?_ | with_reducible refine bdrewN ?_ _ | with_reducible refine balloc ?_ _ | with_reducible refine bset ?_ (by simp <;> omega) | with_reducible refine bstep ?_ (by assumption) | with_reducible refine btrans ?_ (by assumption)))); have c2 := atb a2 (w' := wr) (by (repeat (first | with_reducible exact Below.refl _ _ | with_reducible assumption | with_reducible refine bdraw ?_ | with_reducible refine bdrewN ?_ _ | with_reducible refine balloc ?_ _ | with_reducible refine bset ?_ (by simp <;> omega) | with_reducible refine bstep ?_ (by assumption) | with_reducible refine btrans ?_ (by assumption)))); have c3 := atb a3 (w' := wr) (by (repeat (first | with_reducible exact Below.refl _ _ | with_reducible assumption | with_reducible refine bdraw ?_ | with_reducible refine bdrewN ?_ _ | with_reducible refine balloc ?_ _ | with_reducible refine bset ?_ (by simp <;> omega) | with_reducible refine bstep ?_ (by assumption) | with_reducible refine btrans ?_ (by assumption))))
            go_wp2_with (go_at_call 26; refine (HCr _).out.mono ?_; rintro e w2 ⟨rfl, b2⟩; have z0 := atb a0 (w' := w2) (by (repeat (first | with_reducible exact Below.refl _ _ | with_reducible assumption | with_reducible refine bdraw ?_ | with_reducible refine bdrewN ?_ _ | with_reducible refine balloc ?_ _ | with_reducible refine bset ?_ (by simp <;> omega) | with_reducible refine bstep ?_ (by assumption) | with_reducible refine btrans ?_ (by assumption)))); have z1 := atb a1 (w' := w2) (by (repeat (first | with_reducible exact Below.refl _ _ | with_reducible assumption | with_reducible refine bdraw ?_ | with_reducible refine bdrewN ?_ _ | with_reducible refine balloc ?_ _ | with_reducible refine bset ?_ (by simp <;> omega) | with_reducible refine bstep ?_ (by assumption) | with_reducible refine btrans ?_ (by assumption)))); have z2 := atb a2 (w' := w2) (by (repeat (first | with_reducible exact Below.refl _ _ | with_reducible assumption | with_reducible refine bdraw ?_ | with_reducible refine bdrewN ?_ _ | with_reducible refine balloc ?_ _ | with_reducible refine bset ?_ (by simp <;> omega) | with_reducible refine bstep ?_ (by assumption) | with_reducible refine btrans ?_ (by assumption)))); have z3 := atb a3 (w' := w2) (by (repeat (first | with_reducible exact Below.refl _ _ | with_reducible assumption | with_reducible refine bdraw ?_ | with_reducible refine bdrewN ?_ _ | with_reducible refine balloc ?_ _ | with_reducible refine bset ?_ (by simp <;> omega) | with_reducible refine bstep ?_ (by assumption) | with_reducible refine btrans ?_ (by assumption)))))
            · have hxf : rightW x = false := by simp_all
              have e := HP.out hxf
              go_ret2
              exact ⟨_, 1, rfl, Lib.hid (by rw [e]; rfl), by unfold puts; rw [e]; exact Sl.nil, by (repeat (first | with_reducible exact Below.refl _ _ | with_reducible assumption | with_reducible refine bdraw ?_ | with_reducible refine bdrewN ?_ _ | with_reducible refine balloc ?_ _ | with_reducible refine bset ?_ (by simp <;> omega) | with_reducible refine bstep ?_ (by assumption) | with_reducible refine btrans ?_ (by assumption)))⟩
            · have hxr : rightW x = true := by simp_all
              have ht2 := ht.below (w' := w2) (by (repeat (first | with_reducible exact Below.refl _ _ | with_reducible assumption | with_reducible refine bdraw ?_ | with_reducible refine bdrewN ?_ _ | with_reducible refine balloc ?_ _ | with_reducible refine bset ?_ (by simp <;> omega) | with_reducible refine bstep ?_ (by assumption) | with_reducible refine btrans ?_ (by assumption))))
              have hx : 0 ≤ x.o ∧ x.o ≤ 255 := by simp [rightW] at hxr; omega
              obtain ⟨hx0, hx1⟩ := hx
              have hx2 : x.o < 256 := by omega
              have hB2 : Below w.heap.size w w2 := by (repeat (first | with_reducible exact Below.refl _ _ | with_reducible assumption | with_reducible refine bdraw ?_ | with_reducible refine bdrewN ?_ _ | with_reducible refine balloc ?_ _ | with_reducible refine bset ?_ (by simp <;> omega) | with_reducible refine bstep ?_ (by assumption) | with_reducible refine btrans ?_ (by assumption)))
              have hT := ht2.has hx0 hx1
              have hh := hT.cell
              have hW := ht2.wr hx0 hx1
              obtain ⟨p0, p1, p2, p3⟩ := hW
              cases hf : f2 x.o with
              | none =>
                rw [hf] at hh
                have hh' : w2.cell? ⟨w1.heap.size, x.o.toNat, none⟩ = some (.bool false) := hh
                clear hh
                go_quiet (fail)
                have hs0 : seta f2 x = upd f2 x := by
                  funext o
                  unfold seta upd
                  by_cases h : x.o = o
                  · rw [if_pos h, if_pos h, hf]
                  · rw [if_neg h, if_neg h]
                have HS := Lib.hid hs0
                clear hs0 hh' p0 p1 p2 p3 hT
                obtain ⟨W, hW⟩ : ∃ W, W = w2.drewN nq := ⟨_, rfl⟩
                have tW : Tab W w1.heap.size (w1.heap.size + 1) f2 := hW ▸ ht2.keep rfl rfl
                have BW : Below w.heap.size w W := by rw [hW]; exact bdrewN hB2 nq
                have v0 : W.cell? ⟨b, off + j * 4, none⟩ = some (.int .i64 x.c) := by rw [hW]; exact z0
                have v1 : W.cell? ⟨b, off + j * 4 + 1, none⟩ = some (.int .i64 x.n) := by rw [hW]; exact z1
                have v2 : W.cell? ⟨b, off + j * 4 + 2, none⟩ = some (.int .i64 x.o) := by rw [hW]; exact z2
                have v3 : W.cell? ⟨b, off + j * 4 + 3, none⟩ = some (.bool x.g) := by rw [hW]; exact z3
                rw [← hW]
                clear hW ht2 ht z0 z1 z2 z3 c0 c1 c2 c3 hB2 b2

                have hb1 := b1.size
                have k1 := (tW.free x.o.toNat).1
                have k2 := fun o => (tW.free o).2
                have k3 := (tW.has hx0 hx1).cell
                obtain ⟨p0, p1, p2, p3⟩ := tW.wr hx0 hx1
                have y0 : (W.setCell ⟨w1.heap.size, x.o.toNat, none⟩ (.bool true)).cell? ⟨b, off + j * 4, none⟩ = _ := (cell_far (by simp; omega)).trans v0
                have y1 : (W.setCell ⟨w1.heap.size, x.o.toNat, none⟩ (.bool true)).cell? ⟨b, off + j * 4 + 1, none⟩ = _ := (cell_far (by simp; omega)).trans v1
                have y2 : (W.setCell ⟨w1.heap.size, x.o.toNat, none⟩ (.bool true)).cell? ⟨b, off + j * 4 + 2, none⟩ = _ := (cell_far (by simp; omega)).trans v2
                have y3 : (W.setCell ⟨w1.heap.size, x.o.toNat, none⟩ (.bool true)).cell? ⟨b, off + j * 4 + 3, none⟩ = _ := (cell_far (by simp; omega)).trans v3
                have p0' : (W.setCell ⟨w1.heap.size, x.o.toNat, none⟩ (.bool true)).cell? ⟨w1.heap.size + 1, x.o.toNat * 4, none⟩ = _ := (cell_far (by simp)).trans p0.cell
                have p1' : (W.setCell ⟨w1.heap.size, x.o.toNat, none⟩ (.bool true)).cell? ⟨w1.heap.size + 1, x.o.toNat * 4 + 1, none⟩ = _ := (cell_far (by simp)).trans p1.cell
                have p2' : (W.setCell ⟨w1.heap.size, x.o.toNat, none⟩ (.bool true)).cell? ⟨w1.heap.size + 1, x.o.toNat * 4 + 2, none⟩ = _ := (cell_far (by simp)).trans p2.cell
                have p3' : (W.setCell ⟨w1.heap.size, x.o.toNat, none⟩ (.bool true)).cell? ⟨w1.heap.size + 1, x.o.toNat * 4 + 3, none⟩ = _ := (cell_far (by simp)).trans p3.cell
                have hs1 := fun (hs : seta f2 x = upd f2 x) => (hs ▸ tW.set (w1 := W.setCell ⟨w1.heap.size, x.o.toNat, none⟩ (.bool true)) (by omega) hx0 hx1 rfl (heap_setCell_other _ _ _ _ (by simp)) : Tab _ _ _ (upd f2 x))
                clear p0 p1 p2 p3

                go_wp2
                go_roundw

                case rel => exact ⟨j + 1, by omega, by go_num, by rw [HX.out, List.foldl_append, HF2.out]; exact hs1 HS.out, by (repeat (first | with_reducible exact Below.refl _ _ | with_reducible assumption | with_reducible refine bdraw ?_ | with_reducible refine bdrewN ?_ _ | with_reducible refine balloc ?_ _ | with_reducible refine bset ?_ (by simp <;> omega) | with_reducible refine bstep ?_ (by assumption) | with_reducible refine btrans ?_ (by assumption))), Lib.hid (by rw [HX.out, List.all_append, HA.out]; simp [hxr])⟩
                case measure => simp [intOf]; omega
              | some y =>
                rw [hf] at hh p0 p1
                have hh' : w2.cell? ⟨w1.heap.size, x.o.toNat, none⟩ = some (.bool true) := hh
                have p0' : w2.cell? ⟨w1.heap.size + 1, x.o.toNat * 4, none⟩ = some (.int .i64 y.c) := p0.cell
                have p1' : w2.cell? ⟨w1.heap.size + 1, x.o.toNat * 4 + 1, none⟩ = some (.int .i64 y.n) := p1.cell
                have q0 : At Any w2 (w1.heap.size + 1) (x.o.toNat * 4) (.int .i64 y.c) := p0
                have q1 : At Any w2 (w1.heap.size + 1) (x.o.toNat * 4 + 1) (.int .i64 y.n) := p1
                clear hh p0 p1
                have q5 : At Any w2 w1.heap.size x.o.toNat (.bool true) := by rw [hf] at hT; exact hT
                have g0 := (At.of_cell z0).2
                have g1 := (At.of_cell z1).2
                go_region_held3 (fun w' => w'.cell? ⟨w1.heap.size, x.o.toNat, none⟩ = some (.bool true) ∧ w'.cell? ⟨w1.heap.size + 1, x.o.toNat * 4, none⟩ = some (.int .i64 y.c) ∧ w'.cell? ⟨w1.heap.size + 1, x.o.toNat * 4 + 1, none⟩ = some (.int .i64 y.n) ∧ w'.cell? ⟨b, off + j * 4, none⟩ = some (.int .i64 x.c) ∧ w'.cell? ⟨b, off + j * 4 + 1, none⟩ = some (.int .i64 x.n))
                  (first | go_keep | (refine ⟨?_, ?_, ?_, ?_, ?_⟩ <;> (first | exact atb q5 (by (repeat (first | with_reducible exact Below.refl _ _ | with_reducible assumption | with_reducible refine bdraw ?_ | with_reducible refine bdrewN ?_ _ | with_reducible refine balloc ?_ _ | with_reducible refine bset ?_ (by simp <;> omega) | with_reducible refine bstep ?_ (by assumption) | with_reducible refine btrans ?_ (by assumption)))) | exact atb q0 (by (repeat (first | with_reducible exact Below.refl _ _ | with_reducible assumption | with_reducible refine bdraw ?_ | with_reducible refine bdrewN ?_ _ | with_reducible refine balloc ?_ _ | with_reducible refine bset ?_ (by simp <;> omega) | with_reducible refine bstep ?_ (by assumption) | with_reducible refine btrans ?_ (by assumption)))) | exact atb q1 (by (repeat (first | with_reducible exact Below.refl _ _ | with_reducible assumption | with_reducible refine bdraw ?_ | with_reducible refine bdrewN ?_ _ | with_reducible refine balloc ?_ _ | with_reducible refine bset ?_ (by simp <;> omega) | with_reducible refine bstep ?_ (by assumption) | with_reducible refine btrans ?_ (by assumption)))) | exact atb g0 (by (repeat (first | with_reducible exact Below.refl _ _ | with_reducible assumption | with_reducible refine bdraw ?_ | with_reducible refine bdrewN ?_ _ | with_reducible refine balloc ?_ _ | with_reducible refine bset ?_ (by simp <;> omega) | with_reducible refine bstep ?_ (by assumption) | with_reducible refine btrans ?_ (by assumption)))) | exact atb g1 (by (repeat (first | with_reducible exact Below.refl _ _ | with_reducible assumption | with_reducible refine bdraw ?_ | with_reducible refine bdrewN ?_ _ | with_reducible refine balloc ?_ _ | with_reducible refine bset ?_ (by simp <;> omega) | with_reducible refine bstep ?_ (by assumption) | with_reducible refine btrans ?_ (by assumption)))))))
                  (first
                    | (go_at_call 16; go_must (refine (rcmpS_c _ _ _ _ _).mono ?_; rintro e w3 ⟨rfl, b3⟩))
                    | fail)
                have tW : Tab w3 w1.heap.size (w1.heap.size + 1) f2 := ht2.below (by (repeat (first | with_reducible exact Below.refl _ _ | with_reducible assumption | with_reducible refine bdraw ?_ | with_reducible refine bdrewN ?_ _ | with_reducible refine balloc ?_ _ | with_reducible refine bset ?_ (by simp <;> omega) | with_reducible refine bstep ?_ (by assumption) | with_reducible refine btrans ?_ (by assumption))))
                have v0 := atb (At.of_cell z0).2 (w' := w3) (by (repeat (first | with_reducible exact Below.refl _ _ | with_reducible assumption | with_reducible refine bdraw ?_ | with_reducible refine bdrewN ?_ _ | with_reducible refine balloc ?_ _ | with_reducible refine bset ?_ (by simp <;> omega) | with_reducible refine bstep ?_ (by assumption) | with_reducible refine btrans ?_ (by assumption))))
                have v1 := atb (At.of_cell z1).2 (w' := w3) (by (repeat (first | with_reducible exact Below.refl _ _ | with_reducible assumption | with_reducible refine bdraw ?_ | with_reducible refine bdrewN ?_ _ | with_reducible refine balloc ?_ _ | with_reducible refine bset ?_ (by simp <;> omega) | with_reducible refine bstep ?_ (by assumption) | with_reducible refine btrans ?_ (by assumption))))
                have v2 := atb (At.of_cell z2).2 (w' := w3) (by (repeat (first | with_reducible exact Below.refl _ _ | with_reducible assumption | with_reducible refine bdraw ?_ | with_reducible refine bdrewN ?_ _ | with_reducible refine balloc ?_ _ | with_reducible refine bset ?_ (by simp <;> omega) | with_reducible refine bstep ?_ (by assumption) | with_reducible refine btrans ?_ (by assumption))))
                have v3 := atb (At.of_cell z3).2 (w' := w3) (by (repeat (first | with_reducible exact Below.refl _ _ | with_reducible assumption | with_reducible refine bdraw ?_ | with_reducible refine bdrewN ?_ _ | with_reducible refine balloc ?_ _ | with_reducible refine bset ?_ (by simp <;> omega) | with_reducible refine bstep ?_ (by assumption) | with_reducible refine btrans ?_ (by assumption))))
                have BW : Below w.heap.size w w3 := by (repeat (first | with_reducible exact Below.refl _ _ | with_reducible assumption | with_reducible refine bdraw ?_ | with_reducible refine bdrewN ?_ _ | with_reducible refine balloc ?_ _ | with_reducible refine bset ?_ (by simp <;> omega) | with_reducible refine bstep ?_ (by assumption) | with_reducible refine btrans ?_ (by assumption)))
                clear p0' p1' q0 q1 q5 g0 g1 hh' z0 z1 z2 z3 c0 c1 c2 c3 hB2 b2 b3 ht ht2 hT p2 p3
                have HY := Lib.hid hf
                clear hf
                obtain ⟨W, hW⟩ : ∃ W, W = w3 := ⟨_, rfl⟩
                subst hW
                have hb1 := b1.size
                have k1 := (tW.free x.o.toNat).1
                have k2 := fun o => (tW.free o).2
                have k3 := (tW.has hx0 hx1).cell
                obtain ⟨p0, p1, p2, p3⟩ := tW.wr hx0 hx1
                have y0 : (W.setCell ⟨w1.heap.size, x.o.toNat, none⟩ (.bool true)).cell? ⟨b, off + j * 4, none⟩ = _ := (cell_far (by simp; omega)).trans v0
                have y1 : (W.setCell ⟨w1.heap.size, x.o.toNat, none⟩ (.bool true)).cell? ⟨b, off + j * 4 + 1, none⟩ = _ := (cell_far (by simp; omega)).trans v1
                have y2 : (W.setCell ⟨w1.heap.size, x.o.toNat, none⟩ (.bool true)).cell? ⟨b, off + j * 4 + 2, none⟩ = _ := (cell_far (by simp; omega)).trans v2
                have y3 : (W.setCell ⟨w1.heap.size, x.o.toNat, none⟩ (.bool true)).cell? ⟨b, off + j * 4 + 3, none⟩ = _ := (cell_far (by simp; omega)).trans v3
                have p0' : (W.setCell ⟨w1.heap.size, x.o.toNat, none⟩ (.bool true)).cell? ⟨w1.heap.size + 1, x.o.toNat * 4, none⟩ = _ := (cell_far (by simp)).trans p0.cell
                have p1' : (W.setCell ⟨w1.heap.size, x.o.toNat, none⟩ (.bool true)).cell? ⟨w1.heap.size + 1, x.o.toNat * 4 + 1, none⟩ = _ := (cell_far (by simp)).trans p1.cell
                have p2' : (W.setCell ⟨w1.heap.size, x.o.toNat, none⟩ (.bool true)).cell? ⟨w1.heap.size + 1, x.o.toNat * 4 + 2, none⟩ = _ := (cell_far (by simp)).trans p2.cell
                have p3' : (W.setCell ⟨w1.heap.size, x.o.toNat, none⟩ (.bool true)).cell? ⟨w1.heap.size + 1, x.o.toNat * 4 + 3, none⟩ = _ := (cell_far (by simp)).trans p3.cell
                have hs1 := fun (hs : seta f2 x = upd f2 x) => (hs ▸ tW.set (w1 := W.setCell ⟨w1.heap.size, x.o.toNat, none⟩ (.bool true)) (by omega) hx0 hx1 rfl (heap_setCell_other _ _ _ _ (by simp)) : Tab _ _ _ (upd f2 x))
                clear p0 p1 p2 p3

                go_wp2
                · go_roundw
                  case rel =>
                    have hs0 : seta f2 x = upd f2 x := by
                      funext o
                      unfold seta upd
                      by_cases h : x.o = o
                      · rw [if_pos h, if_pos h, HY.out]
                        have : newer y x = true := by unfold newer; simpa using ‹cmpS y.c y.n x.c x.n < 0›
                        simp [this]
                      · rw [if_neg h, if_neg h]
                    exact ⟨j + 1, by omega, by go_num, by rw [HX.out, List.foldl_append, HF2.out]; exact hs1 hs0, by (repeat (first | with_reducible exact Below.refl _ _ | with_reducible assumption | with_reducible refine bdraw ?_ | with_reducible refine bdrewN ?_ _ | with_reducible refine balloc ?_ _ | with_reducible refine bset ?_ (by simp <;> omega) | with_reducible refine bstep ?_ (by assumption) | with_reducible refine btrans ?_ (by assumption))), Lib.hid (by rw [HX.out, List.all_append, HA.out]; simp [hxr])⟩
                  case measure => simp [intOf]; omega
                · go_roundw
                  case rel =>
                    have hs0 : f2 = upd f2 x := by
                      funext o
                      unfold upd
                      by_cases h : x.o = o
                      · subst h
                        rw [if_pos rfl, HY.out]
                        have : newer y x = false := by unfold newer; simpa using ‹0 ≤ cmpS y.c y.n x.c x.n›
                        simp [this]
                      · rw [if_neg h]
                    exact ⟨j + 1, by omega, by go_num, by rw [HX.out, List.foldl_append, HF2.out]; show Tab _ _ _ (upd f2 x); rw [← hs0]; exact tW, by (repeat (first | with_reducible exact Below.refl _ _ | with_reducible assumption | with_reducible refine bdraw ?_ | with_reducible refine bdrewN ?_ _ | with_reducible refine balloc ?_ _ | with_reducible refine bset ?_ (by simp <;> omega) | with_reducible refine bstep ?_ (by assumption) | with_reducible refine btrans ?_ (by assumption))), Lib.hid (by rw [HX.out, List.all_append, HA.out]; simp [hxr])⟩
                  case measure => simp [intOf]; omega
          · have hjI : ¬ (j : Int) < (m.length : Int) := by omega
            have HF3 : Hid ((m.take j).foldl upd f1 = m.foldl upd f1) := Lib.hid (by rw [show j = m.length by omega, List.take_length])
            have HOK : Hid (putOk l m = true) := by
              have := HA.out
              rw [show j = m.length by omega, List.take_length] at this
              exact Lib.hid (by unfold putOk; rw [HF.out, this]; rfl)
            have ht3 : Tab wr w1.heap.size (w1.heap.size + 1) (m.foldl upd f1) := HF3.out ▸ ht
            generalize hf3 : m.foldl upd f1 = f3 at *
            have HF4 := Lib.hid hf3
            clear ht HF3 hf3 HA
            have hb1 := b1.size
            have hsz : w1.heap.size + 2 ≤ wr.heap.size := by have := ht3.lt; omega
            go_wp2
            go_loopw [12, 11] (fun iv ov wq => ∃ q : Nat, q ≤ 256 ∧ iv = .int .i64 q ∧ Own wrE Any wq (w1.heap.size + 2) 32 ov (collect f3 q) ∧ Tab wq w1.heap.size (w1.heap.size + 1) f3 ∧ Below w.heap.size w wq ∧ wr.heap.size ≤ wq.heap.size) (fun iv _ _ => 256 - (intOf iv).toNat)
            case atStart => exact ⟨0, by omega, by go_num, Own.nil, ht3, hbq, Nat.le_refl _⟩
            case round =>
              obtain ⟨q, hq256, rfl, ho, ht, hbw, hzw⟩ := hrel
              by_cases hlt3 : q < 256
              · have hqI : (q : Int) < 256 := by omega
                have hq0 : (0 : Int) ≤ (q : Int) := by omega
                have HC3 := Lib.hid (collect_snoc f3 q)
                have hlen := collect_len f3 q
                have k0 := (ht.has (x := (q : Int)) (by omega) (by omega)).cell
                obtain ⟨p0, p1, p2, p3⟩ := ht.wr (x := (q : Int)) (by omega) (by omega)
                simp only [Int.toNat_natCast] at k0 p0 p1 p2 p3
                cases hf : f3 (q : Int) with
                | none =>
                  rw [hf] at k0
                  have k1 : wr.cell? ⟨w1.heap.size, q, none⟩ = some (.bool false) := k0
                  have HN := Lib.hid hf
                  clear k0 hf p0 p1 p2 p3
                  go_wp2
                  go_roundw
                  case rel => exact ⟨q + 1, by omega, by go_num, by rw [HC3.out, HN.out]; simpa using ho, ht, hbw, hzw⟩
                  case measure => simp [intOf]; omega
                | some y =>
                  rw [hf] at k0 p0 p1 p2 p3
                  have k1 : wr.cell? ⟨w1.heap.size, q, none⟩ = some (.bool true) := k0
                  have c0 : wr.cell? ⟨w1.heap.size + 1, q * 4, none⟩ = some (.int .i64 y.c) := p0.cell
                  have c1 : wr.cell? ⟨w1.heap.size + 1, q * 4 + 1, none⟩ = some (.int .i64 y.n) := p1.cell
                  have c2 : wr.cell? ⟨w1.heap.size + 1, q * 4 + 2, none⟩ = some (.int .i64 y.o) := p2.cell
                  have c3 : wr.cell? ⟨w1.heap.size + 1, q * 4 + 3, none⟩ = some (.bool y.g) := p3.cell
                  have HN := Lib.hid hf
                  clear k0 hf p0 p1 p2 p3
                  have hlt' := ho.lt
                  go_wp2_with (at_builtin; refine wpList_append_one _ rfl (.tmp 87) (.tmp 91) 22 rfl (E := wrE) (base := w1.heap.size + 2) Try.underlying22 hin hz0 hz1 hz2 rfl (Own.alloc ho.flat _) (a := y) rfl (new_cells wr (wcs y) 32) rfl rfl (by unfold maxLen; omega) (by omega) (by simp; omega) ?_; intro v5 w5 o5 b5 _ g5)
                  go_roundw
                  case rel =>
                    refine ⟨q + 1, by omega, by go_num, by rw [HC3.out, HN.out]; exact o5.flat, ?_, ?_, ?_⟩
                    · exact (ht.below ((Below.refl _ _).alloc (Nat.le_refl _) _)).keep (b5.block _ (by omega)) (b5.block _ (by omega))
                    · exact (balloc hbw _).trans (b5.mono (by omega))
                    · have := b5.size; have := g5.size; simp at this; omega
                  case measure => simp [intOf]; omega
              · have hqI : ¬ (q : Int) < 256 := by omega
                have HQ : Hid (collect f3 q = puts l m) := Lib.hid (by rw [← rputs_puts]; unfold rputs; rw [if_pos HOK.out, show q = 256 by omega, ← HF4.out, HF1q.out])
                have hs := (ho.flat (S' := Hi w.heap.size)).sl (S' := Hi w.heap.size) (fun _ _ h _ => h) (fun _ h _ _ => ⟨by omega, rfl⟩)
                go_wp2
                go_ret2
                exact ⟨_, 0, rfl, Lib.hid (by rw [HOK.out]; rfl), HQ.out ▸ hs, hbw⟩
end Go.Proofs.Ytkocbhcklnjomaa
