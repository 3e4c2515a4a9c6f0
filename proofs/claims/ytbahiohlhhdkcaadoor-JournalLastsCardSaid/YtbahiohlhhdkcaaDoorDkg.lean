/- Disks: the document's copy. -/
import Derived.Test.YtbahiohlhhdkcaaDoorDkf
import Derived.Test.YtbahiohlhhdkcaaDoorPsh
set_option linter.unusedSimpArgs false
namespace Go.Proofs.YtbahiohlhhdkcaaDoor
open Go.RowKit

/-- one more file -/
theorem FP.snoc {B : Nat} {w w3 w4 w5 : World} {v v' u' : Value} {fs : List Fi} {us : List Value} {f : Fi} (h : FP (BO B) B w v fs us fs.length) (b3 : Below w.heap.size w w3) (hB : B ≤ w.heap.size) (o : Own u8E Any w3 w.heap.size 5 u' f.b)
    (b4 : Below w3.heap.size w3 w4) (o5 : Own trE Any w5 B 50 v' (tris fs us ++ [⟨.int .i64 f.n, u', .int .i64 f.s⟩])) (g5 : w4.grownBy w5 v.ownBlock) (hv : v'.ownBlock = v.ownBlock ∨ v'.ownBlock = some w4.heap.size) :
    FP (BO B) B w5 v' (fs ++ [f]) (us ++ [u']) (fs ++ [f]).length := by
  have hu' := o.lt
  have hz3 := b3.size
  have hz4 := b4.size
  have hold : ∀ g, g < w.heap.size → v.ownBlock ≠ some g → w5.heap[g]? = w.heap[g]? := fun g hg hn =>
    (g5.block g (by omega) (fun e => hn e.symm)).trans ((b4.block g (by omega)).trans (b3.block g hg))
  have hnew : ∀ g, g < w3.heap.size → w.heap.size ≤ g → w5.heap[g]? = w3.heap[g]? := fun g hg hn =>
    (g5.block g (by omega) (fun e => by have := (h.row.lt g e.symm).2; omega)).trans (b4.block g hg)
  have hget : ∀ {i : Nat} {u : Value}, (us ++ [u'])[i]? = some u → (i < fs.length ∧ us[i]? = some u) ∨ (i = fs.length ∧ u = u') := by
    intro i u hi
    rcases Nat.lt_or_ge i us.length with hl | hl
    · rw [List.getElem?_append_left hl] at hi
      exact .inl ⟨by rw [← h.len]; exact hl, hi⟩
    · rw [List.getElem?_append_right hl] at hi
      have hi' := (List.getElem?_eq_some_iff.1 hi).1
      simp at hi'
      have e : i - us.length = 0 := by omega
      rw [e] at hi
      simp at hi
      exact .inr ⟨by rw [← h.len]; omega, hi.symm⟩
  refine ⟨by simp [h.len], by rw [tris_append fs us f u' h.len]; exact o5, fun i u f' hu hf _ => ?_, fun i j u u1 g hu hu1 _ _ hg hg1 => ?_, fun i u g hu _ hg => ?_, fun i u f' hu hf hi => ?_⟩
  · rcases hget hu with ⟨hi, hu⟩ | ⟨rfl, rfl⟩
    · rw [List.getElem?_append_left hi] at hf
      exact (BO.ok B).keep (h.own i u f' hu hf hi) fun g hg => hold g (h.lt (BO.ok B) hu hi hg).2 (h.rn i u g hu hi hg)
    · rw [List.getElem?_append_right (Nat.le_refl _)] at hf
      simp at hf
      subst hf
      exact (BO.ok B).keep (o.base_mono hB) fun g hg => hnew g (hu' g hg).2 (hu' g hg).1
  · rcases hget hu with ⟨hi, hu2⟩ | ⟨hi, e⟩
    · rcases hget hu1 with ⟨hj, hu3⟩ | ⟨hj, e1⟩
      · exact h.ne i j u u1 g hu2 hu3 hi hj hg hg1
      · rw [e1] at hg1
        have := (h.lt (BO.ok B) hu2 hi hg).2
        have := (hu' g hg1).1
        omega
    · rw [e] at hg
      rcases hget hu1 with ⟨hj, hu3⟩ | ⟨hj, e1⟩
      · have := (h.lt (BO.ok B) hu3 hj hg1).2
        have := (hu' g hg).1
        omega
      · omega
  · rcases hget hu with ⟨hi, hu⟩ | ⟨rfl, rfl⟩
    · rcases hv with hv | hv
      · rw [hv]; exact h.rn i u g hu hi hg
      · rw [hv]
        intro e
        injection e with e
        have := (h.lt (BO.ok B) hu hi hg).2
        omega
    · rcases hv with hv | hv
      · rw [hv]
        intro e
        have := (h.row.lt g e).2
        have := (hu' g hg).1
        omega
      · rw [hv]
        intro e
        injection e with e
        have := (hu' g hg).2
        omega
  · have := (List.getElem?_eq_some_iff.1 hf).1
    omega

theorem FP.keepAll {Q : World → Value → List UInt8 → Prop} {B : Nat} {w w' : World} {v : Value} {fs : List Fi} {us : List Value} (hQ : QOk Q B) (h : FP Q B w v fs us fs.length) (hr : ∀ g, v.ownBlock = some g → w'.heap[g]? = w.heap[g]?)
    (hb : ∀ i u g, us[i]? = some u → i < fs.length → u.ownBlock = some g → w'.heap[g]? = w.heap[g]?) : FP Q B w' v fs us fs.length where
  len := h.len
  row := ((h.row.tri (S' := fun _ _ => False)).keep hr (fun _ _ h _ => h.elim)).tri
  own i u f hu hf hi := hQ.keep (h.own i u f hu hf hi) (fun g hg => hb i u g hu hi hg)
  ne := h.ne
  rn := h.rn
  old i u f hu hf hi := absurd (List.getElem?_eq_some_iff.1 hf).1 (by omega)
theorem FP.far {Q : World → Value → List UInt8 → Prop} {B : Nat} {w : World} {v z : Value} {fs : List Fi} {us : List Value} {p : Addr} (hQ : QOk Q B) (h : FP Q B w v fs us fs.length) (hp : p.block < B) : FP Q B (w.setCell p z) v fs us fs.length :=
  h.keepAll hQ (fun g hg => heap_setCell_other w p g z (by have := (h.row.lt g hg).1; omega)) (fun i u g hu hi hg => heap_setCell_other w p g z (by have := (h.lt hQ hu hi hg).1; omega))
theorem cell_far2 {w : World} {o : Obj} {b k : Nat} (h : b < w.heap.size) : (w.alloc o).cell? ⟨b, k, none⟩ = w.cell? ⟨b, k, none⟩ :=
  ((Below.refl w.heap.size w).alloc (Nat.le_refl _) o).cell (p := ⟨b, k, none⟩) h
set_option maxHeartbeats 4000000 in
theorem rcopy_big {S : Foot} {v : Value} {room : Int} {l : List Fi} {w : World} (hp : Sl fiE S w v l) (hl : l.length ≤ 3518437208883) (hb : ∀ f ∈ l, f.b.length ≤ 140737488355328) :
    Calls Tryd.prog 9 #[.agg #[.int .i64 room, v]] w (Twin room l w) := by
  have hp := hp.any
  obtain ⟨i0, hin, hz0, hz1, hz2⟩ := info_parts fi_info
  obtain ⟨A, cap, rfl, hc1, hc2, _⟩ := hp.shape
  unfold maxLen at hc2
  obtain ⟨W, hW⟩ : ∃ W, ((w.alloc (.cells #[.int .i64 room, .slice A l.length cap] 24)).alloc (.cells #[.int .i64 0, .slice none 0 0] 24)).alloc (.cells #[.int .i64 room, .slice none 0 0] 24) = W := ⟨_, rfl⟩
  have hzW : W.heap.size = w.heap.size + 3 := by rw [← hW]; simp
  have bW : Below w.heap.size w W := by rw [← hW]; (repeat (first | with_reducible exact Below.refl _ _ | with_reducible assumption | with_reducible refine bdraw ?_ | with_reducible refine bdrewN ?_ _ | with_reducible refine balloc ?_ _ | with_reducible refine bset ?_ (by simp <;> omega) | with_reducible refine bstep ?_ (by assumption) | with_reducible refine btrans ?_ (by assumption)))
  have q0 : W.heap[w.heap.size]? = some (.cells #[.int .i64 room, .slice A l.length cap] 24 (0, 0)) := by
    rw [← hW]; exact blkb (heap_alloc_new w _) (((Below.refl _ _).alloc (Nat.le_refl _) _).alloc (by simp) _)
  have q1 : W.heap[w.heap.size + 1]? = some (.cells #[.int .i64 0, .slice none 0 0] 24 (0, 0)) := by
    have := heap_alloc_new (w.alloc (.cells #[.int .i64 room, .slice A l.length cap] 24)) (.cells #[.int .i64 0, .slice none 0 0] 24)
    rw [World.size_alloc] at this
    rw [← hW]; exact blkb this ((Below.refl _ _).alloc (Nat.le_refl _) _)
  have q2 : W.heap[w.heap.size + 1 + 1]? = some (.cells #[.int .i64 room, .slice none 0 0] 24 (0, 0)) := by
    have := heap_alloc_new ((w.alloc (.cells #[.int .i64 room, .slice A l.length cap] 24)).alloc (.cells #[.int .i64 0, .slice none 0 0] 24)) (.cells #[.int .i64 room, .slice none 0 0] 24)
    rw [World.size_alloc, World.size_alloc] at this
    rw [← hW]; exact this
  have HB := Lib.hid hb
  have HW := Lib.hid hW
  clear hb hW
  go_enter Tryd.func9, Tryd.ntmps9
  go_wp2
  rw [HW.out]
  clear HW
  go_loopw [4, 5] (fun iv _ wr => ∃ (k : Nat) (us : List Value) (ov : Value), k ≤ l.length ∧ iv = .int .i64 k ∧ FP (BO (w.heap.size + 3)) (w.heap.size + 3) wr ov (l.take k) us (l.take k).length ∧ Hid (wr.heap[w.heap.size]? = some (.cells #[.int .i64 room, .slice A l.length cap] 24 (0, 0)) ∧ wr.heap[w.heap.size + 1]? = some (.cells #[.int .i64 0, .slice none 0 0] 24 (0, 0)) ∧ wr.heap[w.heap.size + 1 + 1]? = some (.cells #[.int .i64 room, ov] 24 (0, 0))) ∧ Below w.heap.size w wr ∧ w.heap.size + 3 ≤ wr.heap.size) (fun iv _ _ => l.length - (intOf iv).toNat)
  case atStart => exact ⟨0, [], .slice none 0 0, Nat.zero_le _, by go_num, FP.nil, Lib.hid ⟨q0, q1, q2⟩, bW, by omega⟩
  case round =>
    obtain ⟨k, us, ov, hk, rfl, hF, HQ, hbr, hzr⟩ := hrel
    clear q0 q1 q2 bW hzW
    obtain ⟨q0, q1, q2⟩ := HQ.out
    have xa0 : wr.cell? ⟨w.heap.size, 0, none⟩ = some (.int .i64 room) := cell_of_row _ _ 0 _ _ _ q0; have fa0 : wr.frozen? ⟨w.heap.size, 0, none⟩ = false := frozen_of_row _ _ 0 _ _ q0; have xa1 : wr.cell? ⟨w.heap.size, 1, none⟩ = some (.slice A l.length cap) := cell_of_row _ _ 1 _ _ _ q0; have fa1 : wr.frozen? ⟨w.heap.size, 1, none⟩ = false := frozen_of_row _ _ 1 _ _ q0
    have xb0 : wr.cell? ⟨w.heap.size + 1 + 1, 0, none⟩ = some (.int .i64 room) := cell_of_row _ _ 0 _ _ _ q2; have fb0 : wr.frozen? ⟨w.heap.size + 1 + 1, 0, none⟩ = false := frozen_of_row _ _ 0 _ _ q2; have xb1 : wr.cell? ⟨w.heap.size + 1 + 1, 1, none⟩ = some (ov) := cell_of_row _ _ 1 _ _ _ q2; have fb1 : wr.frozen? ⟨w.heap.size + 1 + 1, 1, none⟩ = false := frozen_of_row _ _ 1 _ _ q2
    by_cases hlt : k < l.length
    · have hkI : (k : Int) < (l.length : Int) := by omega
      have hk0 : (0 : Int) ≤ (k : Int) := by omega
      obtain ⟨b, off, Av, cv, rfl, a0, a1, a2, hv⟩ := (hp.below (by (repeat (first | with_reducible exact Below.refl _ _ | with_reducible assumption | with_reducible refine bdraw ?_ | with_reducible refine bdrewN ?_ _ | with_reducible refine balloc ?_ _ | with_reducible refine bset ?_ (by simp <;> omega) | with_reducible refine bstep ?_ (by assumption) | with_reducible refine btrans ?_ (by assumption)))) (Nat.le_refl _)).fi hlt
      have hbl := HB.out _ (List.getElem_mem hlt)
      have HT : Hid (l.take (k + 1) = l.take k ++ [l[k]]) := Lib.hid (List.take_succ_eq_append_getElem hlt)
      generalize l[k] = x at *
      obtain ⟨_, _, e, hcv1, hcv2, _⟩ := hv.shape
      injection e with e1 _ e2
      subst e1 e2
      unfold maxLen at hcv2
      have c0 := atb a0 (w' := wr) (by (repeat (first | with_reducible exact Below.refl _ _ | with_reducible assumption | with_reducible refine bdraw ?_ | with_reducible refine bdrewN ?_ _ | with_reducible refine balloc ?_ _ | with_reducible refine bset ?_ (by simp <;> omega) | with_reducible refine bstep ?_ (by assumption) | with_reducible refine btrans ?_ (by assumption)))); have c1 := atb a1 (w' := wr) (by (repeat (first | with_reducible exact Below.refl _ _ | with_reducible assumption | with_reducible refine bdraw ?_ | with_reducible refine bdrewN ?_ _ | with_reducible refine balloc ?_ _ | with_reducible refine bset ?_ (by simp <;> omega) | with_reducible refine bstep ?_ (by assumption) | with_reducible refine btrans ?_ (by assumption)))); have c2 := atb a2 (w' := wr) (by (repeat (first | with_reducible exact Below.refl _ _ | with_reducible assumption | with_reducible refine bdraw ?_ | with_reducible refine bdrewN ?_ _ | with_reducible refine balloc ?_ _ | with_reducible refine bset ?_ (by simp <;> omega) | with_reducible refine bstep ?_ (by assumption) | with_reducible refine btrans ?_ (by assumption))))
      clear a0 a1 a2 q0 q1 q2
      have htl : (tris (l.take k) us).length + 1 ≤ l.length := by rw [tris_len _ _ hF.len, List.length_take]; omega
      have e0 := heap_alloc_new wr (.cells #[.int .i64 x.n, .slice Av x.b.length cv, .int .i64 x.s] 50)
      have HF := Lib.hid hF
      clear hF
      have hzz : w.heap.size + 1 + 1 < wr.heap.size := by omega
      go_wp2_with fail
      have t0 : At Any (wr.alloc (.cells #[.int .i64 x.n, .slice Av x.b.length cv, .int .i64 x.s] 50)) wr.heap.size 0 (.int .i64 x.n) := at_new rfl
      have t1 : At Any (wr.alloc (.cells #[.int .i64 x.n, .slice Av x.b.length cv, .int .i64 x.s] 50)) wr.heap.size 1 (.slice Av x.b.length cv) := at_new rfl
      have t2 : At Any (wr.alloc (.cells #[.int .i64 x.n, .slice Av x.b.length cv, .int .i64 x.s] 50)) wr.heap.size 2 (.int .i64 x.s) := at_new rfl
      have t3 : At Any (wr.alloc (.cells #[.int .i64 x.n, .slice Av x.b.length cv, .int .i64 x.s] 50)) (w.heap.size + 1 + 1) 1 ov := (At.of_cell (by rw [cell_far2 hzz]; exact xb1)).2
      refine region_push 13 (S := (fun w' => w'.cell? ⟨wr.heap.size, 0, none⟩ = some (.int .i64 x.n) ∧ w'.cell? ⟨wr.heap.size, 1, none⟩ = some (.slice Av x.b.length cv) ∧ w'.cell? ⟨wr.heap.size, 2, none⟩ = some (.int .i64 x.s) ∧ w'.cell? ⟨w.heap.size + 1 + 1, 1, none⟩ = some ov)) (by kernel_rfl) (by kernel_rfl) ?_ (fun hHeld => ?_); (· ((try dsimp only); (refine ⟨?_, ?_, ?_, ?_⟩ <;> (first | assumption | exact atb t0 (by (repeat (first | with_reducible exact Below.refl _ _ | with_reducible assumption | with_reducible refine bdraw ?_ | with_reducible refine bdrewN ?_ _ | with_reducible refine balloc ?_ _ | with_reducible refine bset ?_ (by simp <;> omega) | with_reducible refine bstep ?_ (by assumption) | with_reducible refine btrans ?_ (by assumption)))) | exact atb t1 (by (repeat (first | with_reducible exact Below.refl _ _ | with_reducible assumption | with_reducible refine bdraw ?_ | with_reducible refine bdrewN ?_ _ | with_reducible refine balloc ?_ _ | with_reducible refine bset ?_ (by simp <;> omega) | with_reducible refine bstep ?_ (by assumption) | with_reducible refine btrans ?_ (by assumption)))) | exact atb t2 (by (repeat (first | with_reducible exact Below.refl _ _ | with_reducible assumption | with_reducible refine bdraw ?_ | with_reducible refine bdrewN ?_ _ | with_reducible refine balloc ?_ _ | with_reducible refine bset ?_ (by simp <;> omega) | with_reducible refine bstep ?_ (by assumption) | with_reducible refine btrans ?_ (by assumption)))) | exact atb t3 (by (repeat (first | with_reducible exact Below.refl _ _ | with_reducible assumption | with_reducible refine bdraw ?_ | with_reducible refine bdrewN ?_ _ | with_reducible refine balloc ?_ _ | with_reducible refine bset ?_ (by simp <;> omega) | with_reducible refine bstep ?_ (by assumption) | with_reducible refine btrans ?_ (by assumption)))))))); simp only [List.take_succ_cons, List.take_zero]
      refine wpAnyH_take (i := 0) (v := ?_) rfl (by kernel_rfl) (by kernel_rfl) (by kernel_rfl) (fun _ _ _ h => h) (Or.inl ⟨by rfl, ?_⟩) (by assumption) ?_; rotate_left; (· (intro w' hSw'; (try dsimp only at hSw'); go_simp; (try with_reducible rfl))); simp only [Act.put, List.setIfInBounds_toArray, List.set_cons_zero, List.set_cons_succ, List.getElem_toArray, List.getElem_cons_zero, List.getElem_cons_succ, Array.getInternal_eq_getElem]; refine wpAnyH_take (i := 1) (v := ?_) rfl (by kernel_rfl) (by kernel_rfl) (by kernel_rfl) (fun _ _ _ h => h) (Or.inl ⟨by rfl, ?_⟩) (by assumption) ?_; rotate_left; (· (intro w' hSw'; (try dsimp only at hSw'); go_simp; (try with_reducible rfl))); simp only [Act.put, List.setIfInBounds_toArray, List.set_cons_zero, List.set_cons_succ, List.getElem_toArray, List.getElem_cons_zero, List.getElem_cons_succ, Array.getInternal_eq_getElem]; refine wpAnyH_take (i := 2) (v := ?_) rfl (by kernel_rfl) (by kernel_rfl) (by kernel_rfl) (fun _ _ _ h => h) (Or.inl ⟨by rfl, ?_⟩) (by assumption) ?_; rotate_left; (· (intro w' hSw'; (try dsimp only at hSw'); go_simp; (try with_reducible rfl))); simp only [Act.put, List.setIfInBounds_toArray, List.set_cons_zero, List.set_cons_succ, List.getElem_toArray, List.getElem_cons_zero, List.getElem_cons_succ, Array.getInternal_eq_getElem]; refine wpAnyH_take (i := 3) (v := ?_) rfl (by kernel_rfl) (by kernel_rfl) (by kernel_rfl) (fun _ _ _ h => h) (Or.inl ⟨by rfl, ?_⟩) (by assumption) ?_; rotate_left; (· (intro w' hSw'; (try dsimp only at hSw'); go_simp; (try with_reducible rfl))); simp only [Act.put, List.setIfInBounds_toArray, List.set_cons_zero, List.set_cons_succ, List.getElem_toArray, List.getElem_cons_zero, List.getElem_cons_succ, Array.getInternal_eq_getElem]; refine wpAnyH_take (i := 4) (v := ?_) rfl (by kernel_rfl) (by kernel_rfl) (by kernel_rfl) (fun _ _ _ h => h) (Or.inl ⟨by rfl, ?_⟩) (by assumption) ?_; rotate_left; (· (intro w' hSw'; (try dsimp only at hSw'); go_simp; (try with_reducible rfl))); simp only [Act.put, List.setIfInBounds_toArray, List.set_cons_zero, List.set_cons_succ, List.getElem_toArray, List.getElem_cons_zero, List.getElem_cons_succ, Array.getInternal_eq_getElem]; refine wpAnyH_take (i := 5) (v := ?_) rfl (by kernel_rfl) (by kernel_rfl) (by kernel_rfl) (fun _ _ _ h => h) (Or.inl ⟨by rfl, ?_⟩) (by assumption) ?_; rotate_left; (· (intro w' hSw'; (try dsimp only at hSw'); go_simp; (try with_reducible rfl))); simp only [Act.put, List.setIfInBounds_toArray, List.set_cons_zero, List.set_cons_succ, List.getElem_toArray, List.getElem_cons_zero, List.getElem_cons_succ, Array.getInternal_eq_getElem]; refine wpAnyH_take (i := 7) (v := ?_) rfl (by kernel_rfl) (by kernel_rfl) (by kernel_rfl) (fun _ _ _ h => h) (Or.inl ⟨by rfl, ?_⟩) (by assumption) ?_; rotate_left; (· (intro w' hSw'; (try dsimp only at hSw'); go_simp; (try with_reducible rfl))); simp only [Act.put, List.setIfInBounds_toArray, List.set_cons_zero, List.set_cons_succ, List.getElem_toArray, List.getElem_cons_zero, List.getElem_cons_succ, Array.getInternal_eq_getElem]; refine wpAnyH_take (i := 8) (v := ?_) rfl (by kernel_rfl) (by kernel_rfl) (by kernel_rfl) (fun _ _ _ h => h) (Or.inl ⟨by rfl, ?_⟩) (by assumption) ?_; rotate_left; (· (intro w' hSw'; (try dsimp only at hSw'); go_simp; (try with_reducible rfl))); simp only [Act.put, List.setIfInBounds_toArray, List.set_cons_zero, List.set_cons_succ, List.getElem_toArray, List.getElem_cons_zero, List.getElem_cons_succ, Array.getInternal_eq_getElem]
      refine wpAnyH_ready (rs := [6]) (by kernel_rfl) (by simp) (AllReadyH.cons rfl (fun K hK => ?_) AllReadyH.nil); ((refine step_call (by rfl) 26 #[.tmp 26] #[25] (by rfl) Tryd.func26 (by decide +kernel) (fun h => by cases h) (by simp [Act.eval]) (copy_c (hv.below (by (repeat (first | with_reducible exact Below.refl _ _ | with_reducible assumption | with_reducible refine bdraw ?_ | with_reducible refine bdrewN ?_ _ | with_reducible refine balloc ?_ _ | with_reducible refine bset ?_ (by simp <;> omega) | with_reducible refine bstep ?_ (by assumption) | with_reducible refine btrans ?_ (by assumption)))) (Nat.le_refl _)) hbl) ?_; rintro e w3 ⟨u', rfl, o3, b3⟩; obtain ⟨Ac, cc, rfl, _⟩ := o3.slAny.shape; refine ⟨_, rfl, ?_⟩)); refine hK.out _ _ ?_ (fun hHeld => ?_); (· ((try dsimp only); (refine ⟨?_, ?_, ?_, ?_⟩ <;> (first | assumption | exact atb t0 (by (repeat (first | with_reducible exact Below.refl _ _ | with_reducible assumption | with_reducible refine bdraw ?_ | with_reducible refine bdrewN ?_ _ | with_reducible refine balloc ?_ _ | with_reducible refine bset ?_ (by simp <;> omega) | with_reducible refine bstep ?_ (by assumption) | with_reducible refine btrans ?_ (by assumption)))) | exact atb t1 (by (repeat (first | with_reducible exact Below.refl _ _ | with_reducible assumption | with_reducible refine bdraw ?_ | with_reducible refine bdrewN ?_ _ | with_reducible refine balloc ?_ _ | with_reducible refine bset ?_ (by simp <;> omega) | with_reducible refine bstep ?_ (by assumption) | with_reducible refine btrans ?_ (by assumption)))) | exact atb t2 (by (repeat (first | with_reducible exact Below.refl _ _ | with_reducible assumption | with_reducible refine bdraw ?_ | with_reducible refine bdrewN ?_ _ | with_reducible refine balloc ?_ _ | with_reducible refine bset ?_ (by simp <;> omega) | with_reducible refine bstep ?_ (by assumption) | with_reducible refine btrans ?_ (by assumption)))) | exact atb t3 (by (repeat (first | with_reducible exact Below.refl _ _ | with_reducible assumption | with_reducible refine bdraw ?_ | with_reducible refine bdrewN ?_ _ | with_reducible refine balloc ?_ _ | with_reducible refine bset ?_ (by simp <;> omega) | with_reducible refine bstep ?_ (by assumption) | with_reducible refine btrans ?_ (by assumption)))))))); clear hK K; (try simp only [Act.put, List.setIfInBounds_toArray, List.set_cons_zero, List.set_cons_succ, List.getElem_toArray, List.getElem_cons_zero, List.getElem_cons_succ, Array.getInternal_eq_getElem])
      have hzz3 : w.heap.size + 1 + 1 < w3.heap.size := by have := b3.size; simp at this; omega
      have q4 := blkb HQ.out.2.2 (w' := w3) (by (repeat (first | with_reducible exact Below.refl _ _ | with_reducible assumption | with_reducible refine bdraw ?_ | with_reducible refine bdrewN ?_ _ | with_reducible refine balloc ?_ _ | with_reducible refine bset ?_ (by simp <;> omega) | with_reducible refine bstep ?_ (by assumption) | with_reducible refine btrans ?_ (by assumption))))
      refine wpAnyH_take (i := 9) (v := ?_) rfl (by kernel_rfl) (by kernel_rfl) (by kernel_rfl) (fun _ _ _ h => h) (Or.inl ⟨by rfl, ?_⟩) (by assumption) ?_; rotate_left; (· (intro w' hSw'; (try dsimp only at hSw'); go_simp; (try with_reducible rfl))); simp only [Act.put, List.setIfInBounds_toArray, List.set_cons_zero, List.set_cons_succ, List.getElem_toArray, List.getElem_cons_zero, List.getElem_cons_succ, Array.getInternal_eq_getElem]
      refine wpAnyH_ready (rs := [10]) (by kernel_rfl) (by simp) (AllReadyH.cons rfl (fun K hK => ?_) AllReadyH.nil); ((go_simp)); refine hK.out _ _ ?_ (fun hHeld => ?_); (· ((try dsimp only); (refine ⟨?_, ?_, ?_, ?_⟩ <;> (first | assumption | exact atb t0 (by (repeat (first | with_reducible exact Below.refl _ _ | with_reducible assumption | with_reducible refine bdraw ?_ | with_reducible refine bdrewN ?_ _ | with_reducible refine balloc ?_ _ | with_reducible refine bset ?_ (by simp <;> omega) | with_reducible refine bstep ?_ (by assumption) | with_reducible refine btrans ?_ (by assumption)))) | exact atb t1 (by (repeat (first | with_reducible exact Below.refl _ _ | with_reducible assumption | with_reducible refine bdraw ?_ | with_reducible refine bdrewN ?_ _ | with_reducible refine balloc ?_ _ | with_reducible refine bset ?_ (by simp <;> omega) | with_reducible refine bstep ?_ (by assumption) | with_reducible refine btrans ?_ (by assumption)))) | exact atb t2 (by (repeat (first | with_reducible exact Below.refl _ _ | with_reducible assumption | with_reducible refine bdraw ?_ | with_reducible refine bdrewN ?_ _ | with_reducible refine balloc ?_ _ | with_reducible refine bset ?_ (by simp <;> omega) | with_reducible refine bstep ?_ (by assumption) | with_reducible refine btrans ?_ (by assumption)))) | exact atb t3 (by (repeat (first | with_reducible exact Below.refl _ _ | with_reducible assumption | with_reducible refine bdraw ?_ | with_reducible refine bdrewN ?_ _ | with_reducible refine balloc ?_ _ | with_reducible refine bset ?_ (by simp <;> omega) | with_reducible refine bstep ?_ (by assumption) | with_reducible refine btrans ?_ (by assumption)))))))); clear hK K; (try simp only [Act.put, List.setIfInBounds_toArray, List.set_cons_zero, List.set_cons_succ, List.getElem_toArray, List.getElem_cons_zero, List.getElem_cons_succ, Array.getInternal_eq_getElem])
      have hne : ∀ g', ov.ownBlock = some g' → g' ≠ w.heap.size + 1 + 1 ∧ g' ≠ wr.heap.size := fun g' hg' => by have := HF.out.row.lt g' hg'; exact ⟨by omega, by omega⟩
      refine wpAnyH_ready (rs := [11]) (by kernel_rfl) (by simp) (AllReadyH.cons rfl (fun K hK => ?_) AllReadyH.nil); ((refine step_append_one _ (by rfl) (.tmp 22) (.tmp 31) 22 (by rfl) (E := trE) (base := w.heap.size + 3) Tryd.underlying22 hin hz0 hz1 hz2 rfl (Own.tri (HF.out.row.below (by (repeat (first | with_reducible exact Below.refl _ _ | with_reducible assumption | with_reducible refine bdraw ?_ | with_reducible refine bdrewN ?_ _ | with_reducible refine balloc ?_ _ | with_reducible refine bset ?_ (by simp <;> omega) | with_reducible refine bstep ?_ (by assumption) | with_reducible refine btrans ?_ (by assumption)))) (Nat.le_refl _))) (a := ⟨.int .i64 x.n, .slice Ac x.b.length cc, .int .i64 x.s⟩) ⟨rfl, rfl, rfl, rfl⟩ (new_cells w3 [.int .i64 x.n, .slice Ac x.b.length cc, .int .i64 x.s] 50) (by rfl) (by rfl) (by unfold maxLen; omega) (by omega) (by simp; omega) ?_; intro v5 w5 o5 b5 hv5 g5)); refine hK.out _ _ ?_ (fun hHeld => ?_); (· ((try dsimp only); (refine ⟨?_, ?_, ?_, ?_⟩ <;> (first | exact atg (atk t0 (by (repeat (first | with_reducible exact Below.refl _ _ | with_reducible assumption | with_reducible refine bdraw ?_ | with_reducible refine bdrewN ?_ _ | with_reducible refine balloc ?_ _ | with_reducible refine bset ?_ (by simp <;> omega) | with_reducible refine bstep ?_ (by assumption) | with_reducible refine btrans ?_ (by assumption))))) g5 (fun g hg => (hne g hg).2) | exact atg (atk t1 (by (repeat (first | with_reducible exact Below.refl _ _ | with_reducible assumption | with_reducible refine bdraw ?_ | with_reducible refine bdrewN ?_ _ | with_reducible refine balloc ?_ _ | with_reducible refine bset ?_ (by simp <;> omega) | with_reducible refine bstep ?_ (by assumption) | with_reducible refine btrans ?_ (by assumption))))) g5 (fun g hg => (hne g hg).2) | exact atg (atk t2 (by (repeat (first | with_reducible exact Below.refl _ _ | with_reducible assumption | with_reducible refine bdraw ?_ | with_reducible refine bdrewN ?_ _ | with_reducible refine balloc ?_ _ | with_reducible refine bset ?_ (by simp <;> omega) | with_reducible refine bstep ?_ (by assumption) | with_reducible refine btrans ?_ (by assumption))))) g5 (fun g hg => (hne g hg).2) | exact atg (atk t3 (by (repeat (first | with_reducible exact Below.refl _ _ | with_reducible assumption | with_reducible refine bdraw ?_ | with_reducible refine bdrewN ?_ _ | with_reducible refine balloc ?_ _ | with_reducible refine bset ?_ (by simp <;> omega) | with_reducible refine bstep ?_ (by assumption) | with_reducible refine btrans ?_ (by assumption))))) g5 (fun g hg => (hne g hg).1))))); clear hK K; (try simp only [Act.put, List.setIfInBounds_toArray, List.set_cons_zero, List.set_cons_succ, List.getElem_toArray, List.getElem_cons_zero, List.getElem_cons_succ, Array.getInternal_eq_getElem])
      have q5 := blkg (blkb q4 (w' := w3.alloc (.cells #[.int .i64 x.n, .slice Ac x.b.length cc, .int .i64 x.s] 50)) ((Below.refl _ _).alloc (Nat.le_refl _) _)) g5 (fun g' hg' => (hne g' hg').1)
      have xy0 : w5.cell? ⟨w.heap.size + 1 + 1, 0, none⟩ = some (.int .i64 room) := cell_of_row _ _ 0 _ _ _ q5; have fy0 : w5.frozen? ⟨w.heap.size + 1 + 1, 0, none⟩ = false := frozen_of_row _ _ 0 _ _ q5; have xy1 : w5.cell? ⟨w.heap.size + 1 + 1, 1, none⟩ = some (ov) := cell_of_row _ _ 1 _ _ _ q5; have fy1 : w5.frozen? ⟨w.heap.size + 1 + 1, 1, none⟩ = false := frozen_of_row _ _ 1 _ _ q5
      obtain ⟨A5, c5, rfl, _⟩ := o5.slAny.shape
      refine wpAnyH_take (i := 12) (v := ?_) rfl (by kernel_rfl) (by kernel_rfl) (by kernel_rfl) (fun _ _ _ h => h) (Or.inl ⟨by rfl, ?_⟩) (by assumption) ?_; rotate_left; (· (intro w' hSw'; (try dsimp only at hSw'); go_simp; (try with_reducible rfl))); simp only [Act.put, List.setIfInBounds_toArray, List.set_cons_zero, List.set_cons_succ, List.getElem_toArray, List.getElem_cons_zero, List.getElem_cons_succ, Array.getInternal_eq_getElem]
      refine wpAnyH_done (by kernel_rfl) ?_ _; refine lastQ_step rfl (fun K hK => ?_); (go_simp); refine hK.out _ _ ?_; clear hK K; (try simp only [Act.put, List.setIfInBounds_toArray, List.set_cons_zero, List.set_cons_succ, List.getElem_toArray, List.getElem_cons_zero, List.getElem_cons_succ, Array.getInternal_eq_getElem])
      go_wp2
      go_roundw
      case rel =>
        have hfin := (HF.out.snoc (f := x) (u' := .slice Ac x.b.length cc) (w3 := w3) (w4 := w3.alloc (.cells #[.int .i64 x.n, .slice Ac x.b.length cc, .int .i64 x.s] 50)) (by (repeat (first | with_reducible exact Below.refl _ _ | with_reducible assumption | with_reducible refine bdraw ?_ | with_reducible refine bdrewN ?_ _ | with_reducible refine balloc ?_ _ | with_reducible refine bset ?_ (by simp <;> omega) | with_reducible refine bstep ?_ (by assumption) | with_reducible refine btrans ?_ (by assumption)))) hzr (o3.base_mono (by simp)) ((Below.refl _ _).alloc (Nat.le_refl _) _) o5.tri g5 hv5).far (p := ⟨w.heap.size + 1 + 1, 1, none⟩) (z := .slice A5 ((tris (l.take k) us).length + 1) c5) (BO.ok _) (by simp)
        have hk0 := blkg (blkb HQ.out.1 (w' := w3.alloc (.cells #[.int .i64 x.n, .slice Ac x.b.length cc, .int .i64 x.s] 50)) (by (repeat (first | with_reducible exact Below.refl _ _ | with_reducible assumption | with_reducible refine bdraw ?_ | with_reducible refine bdrewN ?_ _ | with_reducible refine balloc ?_ _ | with_reducible refine bset ?_ (by simp <;> omega) | with_reducible refine bstep ?_ (by assumption) | with_reducible refine btrans ?_ (by assumption))))) g5 (fun g' hg' => by have := (HF.out.row.lt g' hg').1; omega)
        have hk1 := blkg (blkb HQ.out.2.1 (w' := w3.alloc (.cells #[.int .i64 x.n, .slice Ac x.b.length cc, .int .i64 x.s] 50)) (by (repeat (first | with_reducible exact Below.refl _ _ | with_reducible assumption | with_reducible refine bdraw ?_ | with_reducible refine bdrewN ?_ _ | with_reducible refine balloc ?_ _ | with_reducible refine bset ?_ (by simp <;> omega) | with_reducible refine bstep ?_ (by assumption) | with_reducible refine btrans ?_ (by assumption))))) g5 (fun g' hg' => by have := (HF.out.row.lt g' hg').1; omega)
        have hz5 := g5.size
        have bfin : Below w.heap.size w w5 := (by (repeat (first | with_reducible exact Below.refl _ _ | with_reducible assumption | with_reducible refine bdraw ?_ | with_reducible refine bdrewN ?_ _ | with_reducible refine balloc ?_ _ | with_reducible refine bset ?_ (by simp <;> omega) | with_reducible refine bstep ?_ (by assumption) | with_reducible refine btrans ?_ (by assumption))) : Below w.heap.size w (w3.alloc (.cells #[.int .i64 x.n, .slice Ac x.b.length cc, .int .i64 x.s] 50))).trans (b5.mono (by omega))
        exact ⟨k + 1, us ++ [.slice Ac x.b.length cc], .slice A5 ((tris (l.take k) us).length + 1) c5, by omega, by go_num, by rw [HT.out]; simpa using hfin,
          Lib.hid ⟨(heap_setCell_other w5 _ _ _ (by simp <;> omega)).trans hk0, (heap_setCell_other w5 _ _ _ (by simp <;> omega)).trans hk1, heap_setCell_same w5 (w.heap.size + 1 + 1) 1 _ _ _ q5⟩, bfin.setCell (by simp <;> omega) _, by simp at *; omega⟩
      case measure => simp [intOf]; omega
    · have hkI : ¬ (k : Int) < (l.length : Int) := by omega
      have e : l.take k = l := by rw [show k = l.length by omega, List.take_length]
      have hF' : FP (BO (w.heap.size + 3)) (w.heap.size + 3) wr ov l us l.length := by rw [e] at hF; exact hF
      have HF := Lib.hid hF'
      clear hF hF' e
      have xz0 : wr.cell? ⟨w.heap.size + 1, 0, none⟩ = some (.int .i64 0) := cell_of_row _ _ 0 _ _ _ q1; have fz0 : wr.frozen? ⟨w.heap.size + 1, 0, none⟩ = false := frozen_of_row _ _ 0 _ _ q1; have xz1 : wr.cell? ⟨w.heap.size + 1, 1, none⟩ = some (.slice none 0 0) := cell_of_row _ _ 1 _ _ _ q1; have fz1 : wr.frozen? ⟨w.heap.size + 1, 1, none⟩ = false := frozen_of_row _ _ 1 _ _ q1
      obtain ⟨Ao, co, rfl, _⟩ := HF.out.row.slAny.shape
      rw [tris_len l us HF.out.len] at q2 HF
      rw [tris_len l us HF.out.len] at xb1
      go_wp2
      refine bodyPost_ret (results_cell_row rfl _ _ (w.heap.size + 1) 24 #[.int .i64 room, .slice Ao l.length co] (0, 0) _ rfl (set2 q1) Tryd.underlying24 rfl (by kernel_rfl)) rfl ?_
      exact ⟨_, us, rfl, ((HF.out.far (BO.ok _) (by simp)).far (BO.ok _) (by simp)).low (by omega), by (repeat (first | with_reducible exact Below.refl _ _ | with_reducible assumption | with_reducible refine bdraw ?_ | with_reducible refine bdrewN ?_ _ | with_reducible refine balloc ?_ _ | with_reducible refine bset ?_ (by simp <;> omega) | with_reducible refine bstep ?_ (by assumption) | with_reducible refine btrans ?_ (by assumption)))⟩
theorem rcopy_c {S : Foot} {v : Value} {room : Int} {l : List Fi} {w : World} (hp : Sl fiE S w v l) (hl : l.length ≤ 1099511627776) (hb : ∀ f ∈ l, f.b.length ≤ 140737488355328) :
    Calls Tryd.prog 9 #[.agg #[.int .i64 room, v]] w (Twin room l w) := rcopy_big hp (by omega) hb
end Go.Proofs.YtbahiohlhhdkcaaDoor
