/- Disks: a twin of one's own. -/
import Derived.Test.YtbahiohlhhdkcaaDoorDke
namespace Go.Proofs.YtbahiohlhhdkcaaDoor
open Go.RowKit

theorem FP.low {B B' : Nat} {w : World} {v : Value} {fs : List Fi} {us : List Value} (h : FP (BO B) B w v fs us fs.length) (hb : B' ≤ B) : FP (BO B') B' w v fs us fs.length where
  len := h.len
  row := h.row.base_mono hb
  own i u f hu hf hi := (h.own i u f hu hf hi).base_mono hb
  ne := h.ne
  rn := h.rn
  old i u f hu hf hi := absurd (List.getElem?_eq_some_iff.1 hf).1 (by omega)
theorem Own.form3 {S : Foot} {w : World} {B n cap : Nat} {t : TypeId} {A : Option Addr} {l : List Tri} (h : Own trE S w B t (.slice A n cap) l) (hn : 0 < n) : ∃ g, A = some ⟨g, 0, none⟩ ∧ B ≤ g ∧ g < w.heap.size := by
  have hlt := h.lt
  obtain ⟨xs, ho, _⟩ := h
  rcases ho.2 with ⟨h0, hl⟩ | ⟨g, cap', cur, hv, hb, _⟩
  · injection h0 with _ h0 _
    omega
  · injection hv with e1 _ _
    subst e1
    exact ⟨g, rfl, hlt g rfl⟩
theorem oneCell_slice {E : Enc UInt8} {S : Foot} {w : World} {u : Value} {b : List UInt8} (h : Sl E S w u b) : u.oneCell' = true := by
  obtain ⟨A, c, rfl, _⟩ := h.shape
  rfl
/-- one file's bytes are new ones -/
theorem FP.fresh {B : Nat} {w w3 : World} {g cap k k' i n : Nat} {fs : List Fi} {us : List Value} {f : Fi} {u' : Value} {b' : List UInt8} (h : FP (BO B) B w (.slice (some ⟨g, 0, none⟩) n cap) fs us k) (hf : fs[i]? = some f)
    (hk : (k' = k ∧ i < k) ∨ (k' = k + 1 ∧ i = k)) (b3 : Below w.heap.size w w3) (hB : B ≤ w.heap.size) (o : Own u8E Any w3 w.heap.size 5 u' b') :
    FP (BO B) B (w3.setCell ⟨g, i * 3 + 1, none⟩ u') (.slice (some ⟨g, 0, none⟩) n cap) (fs.set i ⟨f.n, b', f.s⟩) (us.set i u') k' := by
  have hi := (List.getElem?_eq_some_iff.1 hf).1
  obtain ⟨u, hu⟩ := h.get hf
  obtain ⟨hg1, hg2⟩ := h.row.lt g rfl
  have hu' := fun g' hg' => (o.lt g' hg').1
  refine h.put (BO.ok B) hi hk ?_ ?_ (fun b hb => ?_) (fun j uj gj huj hj hji hgj => ?_) (fun g' hg' => ?_)
  · have := ((h.row.tri (S' := Any)).below b3 (Nat.le_refl _)).triSet (tris_get hf hu) 1 u' (x' := ⟨.int .i64 f.n, u', .int .i64 f.s⟩) rfl rfl (oneCell_slice o.slAny) rfl (by omega)
    rw [tris_set fs us i ⟨f.n, b', f.s⟩ u'] at this
    exact this
  · exact Own.base_mono (oset (p := ⟨g, i * 3 + 1, none⟩) (u := u') o (fun g' hg' => by have := hu' g' hg'; simp; omega)) hB
  · exact (heap_setCell_other w3 ⟨g, i * 3 + 1, none⟩ b u' (by simp; omega)).trans (b3.block b (by omega))
  · have hlt := h.lt (BO.ok B) huj hj hgj
    have hne : gj ≠ g := fun e => h.rn j uj gj huj hj hgj (by rw [e]; rfl)
    exact ⟨(heap_setCell_other w3 ⟨g, i * 3 + 1, none⟩ gj u' hne).trans (b3.block gj hlt.2), fun e => by have := hu' gj e; omega⟩
  · intro e
    have := hu' g' hg'
    simp [Value.ownBlock] at e
    omega

def Twin (room : Int) (l : List Fi) (w : World) (e : Ending) (w' : World) : Prop :=
  ∃ v' us, e = .returned (.agg #[.int .i64 room, v']) ∧ FP (BO w.heap.size) w.heap.size w' v' l us l.length ∧ Below w.heap.size w w'
theorem set2 {w : World} {R : Nat} {z0 z1 a b : Value} {T : TypeId} (q : w.heap[R]? = some (.cells #[z0, z1] T (0, 0))) :
    ((w.setCell ⟨R, 0, none⟩ a).setCell ⟨R, 1, none⟩ b).heap[R]? = some (.cells #[a, b] T (0, 0)) := by
  have q3 := heap_setCell_same w R 0 _ _ a q
  exact heap_setCell_same _ R 1 _ _ b q3

set_option maxHeartbeats 4000000 in
theorem twin_c {S : Foot} {v : Value} {room : Int} {l : List Fi} {w : World} (hp : Sl fiE S w v l) (hl : l.length ≤ 1099511627776) (hb : ∀ f ∈ l, f.b.length ≤ 140737488355328) :
    Calls Tryd.prog 40 #[.agg #[.int .i64 room, v]] w (Twin room l w) := by
  obtain ⟨us0, hus, hst, hsb⟩ := hp.any.tris
  have HL := Lib.hid (tris_len l us0 hus)
  have hsh : ∃ A cap, v = .slice A l.length cap ∧ l.length ≤ cap ∧ cap ≤ maxLen ∧ (A = none → cap = 0) := hp.shape
  obtain ⟨A, cap, rfl, hc1, hc2, _⟩ := hsh
  unfold maxLen at hc2
  have q0 : ((w.alloc (.cells #[.int .i64 room, .slice A l.length cap] 24)).alloc (.cells #[.int .i64 0, .slice none 0 0] 24)).heap[w.heap.size]? = some (.cells #[.int .i64 room, .slice A l.length cap] 24 (0, 0)) := heap_alloc2_old _ _ _
  have q1 : ((w.alloc (.cells #[.int .i64 room, .slice A l.length cap] 24)).alloc (.cells #[.int .i64 0, .slice none 0 0] 24)).heap[w.heap.size + 1]? = some (.cells #[.int .i64 0, .slice none 0 0] 24 (0, 0)) := by
    have := heap_alloc_new (w.alloc (.cells #[.int .i64 room, .slice A l.length cap] 24)) (.cells #[.int .i64 0, .slice none 0 0] 24)
    rwa [World.size_alloc] at this
  have HB := Lib.hid hb
  have HS := Lib.hid hsb
  have hlen := hus
  have HU := Lib.hid hus
  clear hb hsb hus hlen
  go_enter Tryd.func40, Tryd.ntmps40
  go_wp2_with fail
  refine (clonef_c (hst.below (by (repeat (first | with_reducible exact Below.refl _ _ | with_reducible assumption | with_reducible refine bdraw ?_ | with_reducible refine bdrewN ?_ _ | with_reducible refine balloc ?_ _ | with_reducible refine bset ?_ (by simp <;> omega) | with_reducible refine bstep ?_ (by assumption) | with_reducible refine btrans ?_ (by assumption)))) (Nat.le_refl _)) (by rw [HL.out]; exact hl)).mono ?_
  rintro e w1 ⟨v1, rfl, o1, b1⟩
  rw [show ((w.alloc (.cells #[.int .i64 room, .slice A l.length cap] 24)).alloc (.cells #[.int .i64 0, .slice none 0 0] 24)).heap.size = w.heap.size + 2 by simp] at o1
  have bw1 : Below w.heap.size w w1 := by (repeat (first | with_reducible exact Below.refl _ _ | with_reducible assumption | with_reducible refine bdraw ?_ | with_reducible refine bdrewN ?_ _ | with_reducible refine balloc ?_ _ | with_reducible refine bset ?_ (by simp <;> omega) | with_reducible refine bstep ?_ (by assumption) | with_reducible refine btrans ?_ (by assumption)))
  have hz1 : w.heap.size + 2 ≤ w1.heap.size := by have := b1.size; simp at this; omega
  have q0' := blkb q0 (w' := w1) (by (repeat (first | with_reducible exact Below.refl _ _ | with_reducible assumption | with_reducible refine bdraw ?_ | with_reducible refine bdrewN ?_ _ | with_reducible refine balloc ?_ _ | with_reducible refine bset ?_ (by simp <;> omega) | with_reducible refine bstep ?_ (by assumption) | with_reducible refine btrans ?_ (by assumption))))
  have q1' := blkb q1 (w' := w1) (by (repeat (first | with_reducible exact Below.refl _ _ | with_reducible assumption | with_reducible refine bdraw ?_ | with_reducible refine bdrewN ?_ _ | with_reducible refine balloc ?_ _ | with_reducible refine bset ?_ (by simp <;> omega) | with_reducible refine bstep ?_ (by assumption) | with_reducible refine btrans ?_ (by assumption))))
  have xa0 : w1.cell? ⟨w.heap.size, 0, none⟩ = some (.int .i64 room) := cell_of_row _ _ 0 _ _ _ q0'; have fa0 : w1.frozen? ⟨w.heap.size, 0, none⟩ = false := frozen_of_row _ _ 0 _ _ q0'; have xa1 : w1.cell? ⟨w.heap.size, 1, none⟩ = some (.slice A l.length cap) := cell_of_row _ _ 1 _ _ _ q0'; have fa1 : w1.frozen? ⟨w.heap.size, 1, none⟩ = false := frozen_of_row _ _ 1 _ _ q0'
  have q0'' := heap_setCell_same w1 w.heap.size 1 _ _ v1 q0'
  have q1'' := (heap_setCell_other w1 ⟨w.heap.size, 1, none⟩ (w.heap.size + 1) v1 (by simp)).trans q1'
  have hF : FP (BO (w.heap.size + 2)) (w.heap.size + 2) (w1.setCell ⟨w.heap.size, 1, none⟩ v1) v1 l us0 0 := by
    refine ⟨HU.out, ((o1.tri (S' := fun _ _ => False)).far (by simp) (fun _ _ h _ => h.elim)).tri, fun _ _ _ _ _ h => by omega, fun _ _ _ _ _ _ _ h => by omega, fun _ _ _ _ h => by omega, fun i u f hu hf _ => ?_⟩
    have h0 := HS.out i u f hu hf
    have h1 : Sl u8E (Lo (w.heap.size + 2)) w1 u f.b := ((h0.mono (S' := Lo w.heap.size) (fun _ _ _ h => h)).lob bw1).mono (fun b fr h _ => by unfold Lo at *; omega)
    exact (h0.mono (S' := Lo w.heap.size) (fun _ _ _ h => h)).keep (fun b _ hs _ => (heap_setCell_other w1 ⟨w.heap.size, 1, none⟩ b v1 (by simp; unfold Lo at hs; omega)).trans (bw1.block b hs)) |>.mono (fun b fr h _ => by unfold Lo at *; omega)
  obtain ⟨A1, c1, hv1, hc3, hc4, _⟩ := o1.slAny.shape
  rw [HL.out] at hv1 hc3
  subst hv1
  unfold maxLen at hc4
  have bw2 : Below w.heap.size w (w1.setCell ⟨w.heap.size, 1, none⟩ (.slice A1 l.length c1)) := by (repeat (first | with_reducible exact Below.refl _ _ | with_reducible assumption | with_reducible refine bdraw ?_ | with_reducible refine bdrewN ?_ _ | with_reducible refine balloc ?_ _ | with_reducible refine bset ?_ (by simp <;> omega) | with_reducible refine bstep ?_ (by assumption) | with_reducible refine btrans ?_ (by assumption)))
  have hz2 : w.heap.size + 2 ≤ (w1.setCell ⟨w.heap.size, 1, none⟩ (.slice A1 l.length c1)).heap.size := by simpa using hz1
  go_wp2
  clear o1 HS q0 q1 q0' q1' hst xa0 xa1 fa0 fa1
  generalize w1.setCell ⟨w.heap.size, 1, none⟩ (.slice A1 l.length c1) = W2 at *
  clear b1 bw1 hz1
  go_loopw [11, 3] (fun iv _ wr => ∃ (k : Nat) (us : List Value), k ≤ l.length ∧ iv = .int .i64 k ∧ FP (BO (w.heap.size + 2)) (w.heap.size + 2) wr (.slice A1 l.length c1) l us k ∧ Hid (wr.heap[w.heap.size]? = some (.cells #[.int .i64 room, .slice A1 l.length c1] 24 (0, 0)) ∧ wr.heap[w.heap.size + 1]? = some (.cells #[.int .i64 0, .slice none 0 0] 24 (0, 0))) ∧ Below w.heap.size w wr ∧ w.heap.size + 2 ≤ wr.heap.size) (fun iv _ _ => l.length - (intOf iv).toNat)
  case atStart => exact ⟨0, us0, Nat.zero_le _, by go_num, hF, Lib.hid ⟨q0'', q1''⟩, bw2, hz2⟩
  case round =>
    obtain ⟨k, us, hk, rfl, hF, HQ, hbr, hzr⟩ := hrel
    obtain ⟨q0, q1⟩ := HQ.out
    have xa0 : wr.cell? ⟨w.heap.size, 0, none⟩ = some (.int .i64 room) := cell_of_row _ _ 0 _ _ _ q0; have fa0 : wr.frozen? ⟨w.heap.size, 0, none⟩ = false := frozen_of_row _ _ 0 _ _ q0; have xa1 : wr.cell? ⟨w.heap.size, 1, none⟩ = some (.slice A1 l.length c1) := cell_of_row _ _ 1 _ _ _ q0; have fa1 : wr.frozen? ⟨w.heap.size, 1, none⟩ = false := frozen_of_row _ _ 1 _ _ q0
    by_cases hlt : k < l.length
    · have hkI : (k : Int) < (l.length : Int) := by omega
      have hk0 : (0 : Int) ≤ (k : Int) := by omega
      have hf : l[k]? = some l[k] := List.getElem?_eq_getElem hlt
      obtain ⟨u, hu⟩ := hF.get hf
      have hold := hF.old k u _ hu hf (Nat.le_refl _)
      have hset : l.set k ⟨l[k].n, l[k].b, l[k].s⟩ = l := by rw [show (⟨l[k].n, l[k].b, l[k].s⟩ : Fi) = l[k] from rfl, List.set_getElem_self]
      have hbl := HB.out _ (List.getElem_mem hlt)
      have HX : Hid (l[k]? = some l[k]) := Lib.hid hf
      have HSet := Lib.hid hset
      obtain ⟨Au, cu, rfl, hcu1, hcu2, _⟩ := hold.shape
      unfold maxLen at hcu2
      obtain ⟨g, rfl, hg1, hg2⟩ := hF.row.form3 (by omega)
      obtain ⟨_, a1, _⟩ := hF.row.tri3 (tris_get hf hu)
      have hfz := hF.row.free3 (k * 3 + 1)
      have HF := Lib.hid hF
      clear hF hf hset q0 q1
      have ac1 := a1.cell
      go_wp2_with fail
      go_region_law (first
        | (refine step_call (by rfl) 56 #[.tmp 22] #[25] (by rfl) Tryd.func56 (by decide +kernel) (fun h => by cases h) (by simp [Act.eval]) (clone_c (hold.below (by (repeat (first | with_reducible exact Below.refl _ _ | with_reducible assumption | with_reducible refine bdraw ?_ | with_reducible refine bdrewN ?_ _ | with_reducible refine balloc ?_ _ | with_reducible refine bset ?_ (by simp <;> omega) | with_reducible refine bstep ?_ (by assumption) | with_reducible refine btrans ?_ (by assumption)))) (Nat.le_refl _)) hbl) ?_; rintro e w3 ⟨u', rfl, o3, b3⟩; obtain ⟨Av, cv, rfl, _⟩ := o3.slAny.shape; have zc := atb a1 (w' := w3) (by (repeat (first | with_reducible exact Below.refl _ _ | with_reducible assumption | with_reducible refine bdraw ?_ | with_reducible refine bdrewN ?_ _ | with_reducible refine balloc ?_ _ | with_reducible refine bset ?_ (by simp <;> omega) | with_reducible refine bstep ?_ (by assumption) | with_reducible refine btrans ?_ (by assumption)))); have zf := (b3.frozen (p := ⟨g, k * 3 + 1, none⟩) hg2).trans hfz; have q3 := blkb HQ.out.1 (w' := w3) (by (repeat (first | with_reducible exact Below.refl _ _ | with_reducible assumption | with_reducible refine bdraw ?_ | with_reducible refine bdrewN ?_ _ | with_reducible refine balloc ?_ _ | with_reducible refine bset ?_ (by simp <;> omega) | with_reducible refine bstep ?_ (by assumption) | with_reducible refine btrans ?_ (by assumption)))); have xt0 : w3.cell? ⟨w.heap.size, 0, none⟩ = some (.int .i64 room) := cell_of_row _ _ 0 _ _ _ q3; have ft0 : w3.frozen? ⟨w.heap.size, 0, none⟩ = false := frozen_of_row _ _ 0 _ _ q3; have xt1 : w3.cell? ⟨w.heap.size, 1, none⟩ = some (.slice (some ⟨g, 0, none⟩) l.length c1) := cell_of_row _ _ 1 _ _ _ q3; have ft1 : w3.frozen? ⟨w.heap.size, 1, none⟩ = false := frozen_of_row _ _ 1 _ _ q3; refine ⟨_, rfl, ?_⟩)
        | fail)
      all_goals
        go_wp2
        go_roundw
        case rel =>
          have hfr := HF.out.fresh (w3 := w3) (k' := k + 1) HX.out (.inr ⟨rfl, rfl⟩) (by (repeat (first | with_reducible exact Below.refl _ _ | with_reducible assumption | with_reducible refine bdraw ?_ | with_reducible refine bdrewN ?_ _ | with_reducible refine balloc ?_ _ | with_reducible refine bset ?_ (by simp <;> omega) | with_reducible refine bstep ?_ (by assumption) | with_reducible refine btrans ?_ (by assumption)))) (by omega) o3
          rw [HSet.out] at hfr
          exact ⟨k + 1, _, by omega, by go_num, hfr, Lib.hid ⟨(heap_setCell_other w3 _ _ _ (by simp; omega)).trans (blkb HQ.out.1 (by (repeat (first | with_reducible exact Below.refl _ _ | with_reducible assumption | with_reducible refine bdraw ?_ | with_reducible refine bdrewN ?_ _ | with_reducible refine balloc ?_ _ | with_reducible refine bset ?_ (by simp <;> omega) | with_reducible refine bstep ?_ (by assumption) | with_reducible refine btrans ?_ (by assumption))))), (heap_setCell_other w3 _ _ _ (by simp; omega)).trans (blkb HQ.out.2 (by (repeat (first | with_reducible exact Below.refl _ _ | with_reducible assumption | with_reducible refine bdraw ?_ | with_reducible refine bdrewN ?_ _ | with_reducible refine balloc ?_ _ | with_reducible refine bset ?_ (by simp <;> omega) | with_reducible refine bstep ?_ (by assumption) | with_reducible refine btrans ?_ (by assumption)))))⟩, by (repeat (first | with_reducible exact Below.refl _ _ | with_reducible assumption | with_reducible refine bdraw ?_ | with_reducible refine bdrewN ?_ _ | with_reducible refine balloc ?_ _ | with_reducible refine bset ?_ (by simp <;> omega) | with_reducible refine bstep ?_ (by assumption) | with_reducible refine btrans ?_ (by assumption))), by have := b3.size; simp at *; omega⟩
        case measure => simp [intOf]; omega
    · have hkI : ¬ (k : Int) < (l.length : Int) := by omega
      have hkl : k = l.length := by omega
      subst hkl
      have xz0 : wr.cell? ⟨w.heap.size + 1, 0, none⟩ = some (.int .i64 0) := cell_of_row _ _ 0 _ _ _ q1; have fz0 : wr.frozen? ⟨w.heap.size + 1, 0, none⟩ = false := frozen_of_row _ _ 0 _ _ q1; have xz1 : wr.cell? ⟨w.heap.size + 1, 1, none⟩ = some (.slice none 0 0) := cell_of_row _ _ 1 _ _ _ q1; have fz1 : wr.frozen? ⟨w.heap.size + 1, 1, none⟩ = false := frozen_of_row _ _ 1 _ _ q1
      clear HL HU HB
      go_wp2
      refine bodyPost_ret (results_cell_row rfl _ _ (w.heap.size + 1) 24 #[.int .i64 room, .slice A1 l.length c1] (0, 0) _ rfl (set2 q1) Tryd.underlying24 rfl (by kernel_rfl)) rfl ?_
      refine ⟨_, us, rfl, (hF.low (B' := w.heap.size) (by omega)).keep (BO.ok _) (fun g hg => ?_) (fun i u g hu hi hg => ?_) (fun b hb => ?_), by (repeat (first | with_reducible exact Below.refl _ _ | with_reducible assumption | with_reducible refine bdraw ?_ | with_reducible refine bdrewN ?_ _ | with_reducible refine balloc ?_ _ | with_reducible refine bset ?_ (by simp <;> omega) | with_reducible refine bstep ?_ (by assumption) | with_reducible refine btrans ?_ (by assumption)))⟩
      · have := (hF.row.lt g hg).1
        exact (heap_setCell_other _ _ _ _ (by simp; omega)).trans (heap_setCell_other _ _ _ _ (by simp; omega))
      · have := (hF.lt (BO.ok _) hu hi hg).1
        exact (heap_setCell_other _ _ _ _ (by simp; omega)).trans (heap_setCell_other _ _ _ _ (by simp; omega))
      · exact (heap_setCell_other _ _ _ _ (by simp; omega)).trans (heap_setCell_other _ _ _ _ (by simp; omega))
end Go.Proofs.YtbahiohlhhdkcaaDoor
