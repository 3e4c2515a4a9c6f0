/- Disks: all is sure. -/
import Derived.Test.YtbahiohlhhdkcaaDoorDkk
set_option linter.unusedSimpArgs false
namespace Go.Proofs.YtbahiohlhhdkcaaDoor
open Go.RowKit

/-- an answer: a disk and an error; its files are owned -/
def Ans (R : Int) (L : List Fi) (E : Int) (w : World) (e : Ending) (w' : World) : Prop :=
  ∃ v' us, e = .returned (.tuple #[.agg #[.int .i64 R, v'], .int .i64 E]) ∧ FP (BO w.heap.size) w.heap.size w' v' L us L.length ∧ Below w.heap.size w w'
/-- an answer that is new memory -/
def AnsS (R : Int) (L : List Fi) (E : Int) (w : World) (e : Ending) (w' : World) : Prop :=
  ∃ v', e = .returned (.tuple #[.agg #[.int .i64 R, v'], .int .i64 E]) ∧ Sl fiE (Hi w.heap.size) w' v' L ∧ Below w.heap.size w w'
theorem Ans.s {R : Int} {L : List Fi} {E : Int} {w w' : World} {e : Ending} (h : Ans R L E w e w') : AnsS R L E w e w' := by
  obtain ⟨v', us, he, hF, hb⟩ := h
  exact ⟨v', he, hF.sl (BO.ok _), hb⟩
def synced (l : List Fi) : List Fi := l.map fun f => ⟨f.n, f.b, f.b.length⟩
/-- the files ahead of place k are sure -/
def sync1 (l : List Fi) (k : Nat) : List Fi := synced (l.take k) ++ l.drop k
theorem sync1_len (l : List Fi) (k : Nat) (hk : k ≤ l.length) : (sync1 l k).length = l.length := by simp [sync1, synced]; omega
theorem sync1_zero (l : List Fi) : sync1 l 0 = l := by simp [sync1, synced]
theorem sync1_all (l : List Fi) : sync1 l l.length = synced l := by simp [sync1]
theorem sync1_get (l : List Fi) (k : Nat) (hk : k < l.length) : (sync1 l k)[k]? = some l[k] := by
  unfold sync1 synced
  rw [List.getElem?_append_right (by simp; omega)]
  simp [Nat.min_eq_left (Nat.le_of_lt hk), hk]
theorem sync1_set (l : List Fi) (k : Nat) (hk : k < l.length) : (sync1 l k).set k ⟨l[k].n, l[k].b, l[k].b.length⟩ = sync1 l (k + 1) := by
  have h1 : ((l.take k).map fun f : Fi => (⟨f.n, f.b, (f.b.length : Int)⟩ : Fi)).length = k := by simp; omega
  unfold sync1 synced
  rw [List.set_append_right _ _ (by omega), h1, List.drop_eq_getElem_cons hk, Nat.sub_self, List.set_cons_zero, List.take_succ_eq_append_getElem hk, List.map_append, List.append_assoc]
  rfl
/-- one file's mark is another one -/
theorem FP.mark {B : Nat} {w : World} {g cap k i n : Nat} {fs : List Fi} {us : List Value} {f : Fi} {s : Int} (h : FP (BO B) B w (.slice (some ⟨g, 0, none⟩) n cap) fs us k) (hf : fs[i]? = some f) (hk : i < k) :
    FP (BO B) B (w.setCell ⟨g, i * 3 + 2, none⟩ (.int .i64 s)) (.slice (some ⟨g, 0, none⟩) n cap) (fs.set i ⟨f.n, f.b, s⟩) us k := by
  have hi := (List.getElem?_eq_some_iff.1 hf).1
  obtain ⟨u, hu⟩ := h.get hf
  obtain ⟨hg1, hg2⟩ := h.row.lt g rfl
  have hus : us.set i u = us := by
    have hiu := (List.getElem?_eq_some_iff.1 hu).1
    rw [List.getElem?_eq_getElem hiu] at hu
    cases hu
    exact List.set_getElem_self hiu
  have hoth : ∀ b, b ≠ g → (w.setCell ⟨g, i * 3 + 2, none⟩ (.int .i64 s)).heap[b]? = w.heap[b]? := fun b hb => heap_setCell_other w ⟨g, i * 3 + 2, none⟩ b _ hb
  have key := h.put (w' := w.setCell ⟨g, i * 3 + 2, none⟩ (.int .i64 s)) (BO.ok B) (i := i) (k' := k) (f' := ⟨f.n, f.b, s⟩) (u' := u) hi (.inl ⟨rfl, hk⟩) ?_ ?_ (fun b hb => hoth b (by omega)) (fun j uj gj huj hj hji hgj => ?_) (fun g' hg' => h.rn i u g' hu hk hg')
  · rwa [hus] at key
  · have := h.row.triSet (tris_get hf hu) 2 (.int .i64 s) (x' := ⟨.int .i64 f.n, u, .int .i64 s⟩) rfl rfl (oneCell_slice ((BO.ok B).sl (h.own i u f hu hf hk))) rfl (by omega)
    rw [tris_set fs us i ⟨f.n, f.b, s⟩ u] at this
    exact this
  · exact (BO.ok B).keep (h.own i u f hu hf hk) fun g' hg' => hoth g' (fun e => h.rn i u g' hu hk hg' (by rw [e]; rfl))
  · exact ⟨hoth gj (fun e => h.rn j uj gj huj hj hgj (by rw [e]; rfl)), fun e => hji (h.ne j i uj u gj huj hu hj hk hgj e)⟩
theorem FP.draw {Q : World → Value → List UInt8 → Prop} {B : Nat} {w : World} {v : Value} {fs : List Fi} {us : List Value} {k : Nat} (hQ : QOk Q B) (h : FP Q B w v fs us k) : FP Q B w.drew v fs us k :=
  h.keep hQ (fun _ _ => rfl) (fun _ _ _ _ _ _ => rfl) (fun _ _ => rfl)
def syE (room : Int) (l : List Fi) : Int := if formedD room l then 0 else 1
def syF (room : Int) (l : List Fi) : List Fi := if formedD room l then synced l else []
def syR (room : Int) (l : List Fi) : Int := if formedD room l then room else 0

set_option maxHeartbeats 4000000 in
theorem sync_c {S : Foot} {v : Value} {room : Int} {l : List Fi} {w : World} (hp : Sl fiE S w v l) :
    Calls Tryd.prog 33 #[.agg #[.int .i64 room, v]] w (Ans (syR room l) (syF room l) (syE room l) w) := by
  have hp := hp.any
  obtain ⟨A, cap, rfl, hc1, hc2, _⟩ := hp.shape
  unfold maxLen at hc2
  have q0 : ((w.alloc (.cells #[.int .i64 room, .slice A l.length cap] 24)).alloc (.cells #[.int .i64 0, .slice none 0 0] 24)).heap[w.heap.size]? = some (.cells #[.int .i64 room, .slice A l.length cap] 24 (0, 0)) := heap_alloc2_old _ _ _
  have q1 : ((w.alloc (.cells #[.int .i64 room, .slice A l.length cap] 24)).alloc (.cells #[.int .i64 0, .slice none 0 0] 24)).heap[w.heap.size + 1]? = some (.cells #[.int .i64 0, .slice none 0 0] 24 (0, 0)) := by
    have := heap_alloc_new (w.alloc (.cells #[.int .i64 room, .slice A l.length cap] 24)) (.cells #[.int .i64 0, .slice none 0 0] 24)
    rwa [World.size_alloc] at this
  have HF := fun (w' : World) (bb : Below w.heap.size w w') => Lib.hid (formed_c (room := room) (w := w') (hp.below (by (repeat (first | with_reducible exact Below.refl _ _ | with_reducible assumption | with_reducible refine bdraw ?_ | with_reducible refine bdrewN ?_ _ | with_reducible refine balloc ?_ _ | with_reducible refine bset ?_ (by simp <;> omega) | with_reducible refine bstep ?_ (by assumption) | with_reducible refine btrans ?_ (by assumption)))) (Nat.le_refl _)))
  cases hE : formedD room l
  · have HR : Hid (syE room l = 1 ∧ syF room l = [] ∧ syR room l = 0) := Lib.hid (by simp [syE, syF, syR, hE])
    rw [hE] at HF
    clear hE
    go_enter Tryd.func33, Tryd.ntmps33
    go_wp2_with (go_at_call 18; refine (HF _ (by (repeat (first | with_reducible exact Below.refl _ _ | with_reducible assumption | with_reducible refine bdraw ?_ | with_reducible refine bdrewN ?_ _ | with_reducible refine balloc ?_ _ | with_reducible refine bset ?_ (by simp <;> omega) | with_reducible refine bstep ?_ (by assumption) | with_reducible refine btrans ?_ (by assumption))))).out.mono ?_; rintro e w1 ⟨rfl, b1⟩; have q2 := blkb q1 (w' := w1) (by (repeat (first | with_reducible exact Below.refl _ _ | with_reducible assumption | with_reducible refine bdraw ?_ | with_reducible refine bdrewN ?_ _ | with_reducible refine balloc ?_ _ | with_reducible refine bset ?_ (by simp <;> omega) | with_reducible refine bstep ?_ (by assumption) | with_reducible refine btrans ?_ (by assumption)))); have xa0 : w1.cell? ⟨w.heap.size + 1, 0, none⟩ = some (.int .i64 0) := cell_of_row _ _ 0 _ _ _ q2; have fa0 : w1.frozen? ⟨w.heap.size + 1, 0, none⟩ = false := frozen_of_row _ _ 0 _ _ q2; have xa1 : w1.cell? ⟨w.heap.size + 1, 1, none⟩ = some (.slice none 0 0) := cell_of_row _ _ 1 _ _ _ q2; have fa1 : w1.frozen? ⟨w.heap.size + 1, 1, none⟩ = false := frozen_of_row _ _ 1 _ _ q2)
    refine bodyPost_ret (results_cell_tmp1 rfl _ _ (w.heap.size + 1) 24 #[.int .i64 0, .slice none 0 0] (0, 0) _ rfl (set2 q2) Tryd.underlying24 rfl (by kernel_rfl)) rfl ?_
    exact ⟨_, [], by rw [HR.out.1, HR.out.2.2]; rfl, by rw [HR.out.2.1]; exact FP.nil, by (repeat (first | with_reducible exact Below.refl _ _ | with_reducible assumption | with_reducible refine bdraw ?_ | with_reducible refine bdrewN ?_ _ | with_reducible refine balloc ?_ _ | with_reducible refine bset ?_ (by simp <;> omega) | with_reducible refine bstep ?_ (by assumption) | with_reducible refine btrans ?_ (by assumption)))⟩
  · have HR : Hid (syE room l = 0 ∧ syF room l = synced l ∧ syR room l = room) := Lib.hid (by simp [syE, syF, syR, hE])
    have hlen := formedD_len hE
    have hsz := formedD_size hE
    have hlow := fun f hf' => fineF_low (fs := l) (by simp only [formedD, Bool.and_eq_true] at hE; exact hE.2) f hf'
    have HLow := Lib.hid hlow
    rw [hE] at HF
    clear hE hlow
    obtain ⟨hs1, hs2, hs3⟩ := hsz
    go_enter Tryd.func33, Tryd.ntmps33
    go_wp2_with fail
    refine (HF _ (by (repeat (first | with_reducible exact Below.refl _ _ | with_reducible assumption | with_reducible refine bdraw ?_ | with_reducible refine bdrewN ?_ _ | with_reducible refine balloc ?_ _ | with_reducible refine bset ?_ (by simp <;> omega) | with_reducible refine bstep ?_ (by assumption) | with_reducible refine btrans ?_ (by assumption))))).out.mono ?_
    rintro e w1 ⟨rfl, b1⟩
    have p0 := (At.of_cell (cell_of_row _ w.heap.size 0 _ _ _ q0)).2
    have p1 := (At.of_cell (cell_of_row _ w.heap.size 1 _ _ _ q0)).2
    have a0 := atb p0 b1
    have a1 := atb p1 b1
    go_wp2_with fail
    refine (twin_c (room := room) (hp.below (by (repeat (first | with_reducible exact Below.refl _ _ | with_reducible assumption | with_reducible refine bdraw ?_ | with_reducible refine bdrewN ?_ _ | with_reducible refine balloc ?_ _ | with_reducible refine bset ?_ (by simp <;> omega) | with_reducible refine bstep ?_ (by assumption) | with_reducible refine btrans ?_ (by assumption)))) (Nat.le_refl _)) (by omega) (fun f hf => by have := HLow.out f hf; omega)).mono ?_
    rintro e w3 ⟨v3, us, rfl, hF, b3⟩
    obtain ⟨A3, c3, hv3, hc5, hc6, _⟩ := (hF.sl (BO.ok _)).shape
    subst hv3
    unfold maxLen at hc6
    have hz1 : w.heap.size + 2 ≤ w1.heap.size := by have := b1.size; simp at this; omega
    have hz3 := b3.size
    have z3 := blkb q1 (w' := w3) (by (repeat (first | with_reducible exact Below.refl _ _ | with_reducible assumption | with_reducible refine bdraw ?_ | with_reducible refine bdrewN ?_ _ | with_reducible refine balloc ?_ _ | with_reducible refine bset ?_ (by simp <;> omega) | with_reducible refine bstep ?_ (by assumption) | with_reducible refine btrans ?_ (by assumption))))
    have r3 := heap_alloc_new w3 (.cells #[.int .i64 room, .slice A3 l.length c3] 24)
    have hF0 : FP (BO w1.heap.size) w1.heap.size (w3.alloc (.cells #[.int .i64 room, .slice A3 l.length c3] 24)) (.slice A3 l.length c3) (sync1 l 0) us l.length := by
      rw [sync1_zero]; exact hF.below (BO.ok _) (by (repeat (first | with_reducible exact Below.refl _ _ | with_reducible assumption | with_reducible refine bdraw ?_ | with_reducible refine bdrewN ?_ _ | with_reducible refine balloc ?_ _ | with_reducible refine bset ?_ (by simp <;> omega) | with_reducible refine bstep ?_ (by assumption) | with_reducible refine btrans ?_ (by assumption)))) hz3
    have bW : Below w.heap.size w (w3.alloc (.cells #[.int .i64 room, .slice A3 l.length c3] 24)) := by (repeat (first | with_reducible exact Below.refl _ _ | with_reducible assumption | with_reducible refine bdraw ?_ | with_reducible refine bdrewN ?_ _ | with_reducible refine balloc ?_ _ | with_reducible refine bset ?_ (by simp <;> omega) | with_reducible refine bstep ?_ (by assumption) | with_reducible refine btrans ?_ (by assumption)))
    have z4 := blkb z3 (w' := w3.alloc (.cells #[.int .i64 room, .slice A3 l.length c3] 24)) (by (repeat (first | with_reducible exact Below.refl _ _ | with_reducible assumption | with_reducible refine bdraw ?_ | with_reducible refine bdrewN ?_ _ | with_reducible refine balloc ?_ _ | with_reducible refine bset ?_ (by simp <;> omega) | with_reducible refine bstep ?_ (by assumption) | with_reducible refine btrans ?_ (by assumption))))
    have hw3 : w1.heap.size ≤ w3.heap.size := hz3
    have hws : w3.heap.size < (w3.alloc (.cells #[.int .i64 room, .slice A3 l.length c3] 24)).heap.size := by simp
    have hrs : ∀ g, (Value.slice A3 l.length c3).ownBlock = some g → g < w3.heap.size := fun g hg => (hF.row.lt g hg).2
    have xx0 : (w3.alloc (.cells #[.int .i64 room, .slice A3 l.length c3] 24)).cell? ⟨w3.heap.size, 0, none⟩ = some (.int .i64 room) := cell_of_row _ _ 0 _ _ _ r3; have fx0 : (w3.alloc (.cells #[.int .i64 room, .slice A3 l.length c3] 24)).frozen? ⟨w3.heap.size, 0, none⟩ = false := frozen_of_row _ _ 0 _ _ r3; have xx1 : (w3.alloc (.cells #[.int .i64 room, .slice A3 l.length c3] 24)).cell? ⟨w3.heap.size, 1, none⟩ = some (.slice A3 l.length c3) := cell_of_row _ _ 1 _ _ _ r3; have fx1 : (w3.alloc (.cells #[.int .i64 room, .slice A3 l.length c3] 24)).frozen? ⟨w3.heap.size, 1, none⟩ = false := frozen_of_row _ _ 1 _ _ r3
    go_wp2
    clear hF z3 q0 q1 p0 p1 a0 a1 xx0 xx1 fx0 fx1
    generalize w3.alloc (.cells #[.int .i64 room, .slice A3 l.length c3] 24) = W4 at *
    clear b1 b3 HF
    go_loopw [15, 5] (fun iv _ wr => ∃ (k : Nat), k ≤ l.length ∧ iv = .int .i64 k ∧ FP (BO w1.heap.size) w1.heap.size wr (.slice A3 l.length c3) (sync1 l k) us l.length ∧ Hid (wr.heap[w3.heap.size]? = some (.cells #[.int .i64 room, .slice A3 l.length c3] 24 (0, 0)) ∧ wr.heap[w.heap.size + 1]? = some (.cells #[.int .i64 0, .slice none 0 0] 24 (0, 0))) ∧ Below w.heap.size w wr) (fun iv _ _ => l.length - (intOf iv).toNat)
    case atStart => exact ⟨0, Nat.zero_le _, by go_num, hF0, Lib.hid ⟨r3, z4⟩, bW⟩
    case round =>
      clear hF0 r3 z4 bW
      obtain ⟨k, hk, rfl, hF, HQ, hbr⟩ := hrel
      obtain ⟨q0, q1⟩ := HQ.out
      have xa0 : wr.cell? ⟨w3.heap.size, 0, none⟩ = some (.int .i64 room) := cell_of_row _ _ 0 _ _ _ q0; have fa0 : wr.frozen? ⟨w3.heap.size, 0, none⟩ = false := frozen_of_row _ _ 0 _ _ q0; have xa1 : wr.cell? ⟨w3.heap.size, 1, none⟩ = some (.slice A3 l.length c3) := cell_of_row _ _ 1 _ _ _ q0; have fa1 : wr.frozen? ⟨w3.heap.size, 1, none⟩ = false := frozen_of_row _ _ 1 _ _ q0
      by_cases hlt : k < l.length
      · have hkI : (k : Int) < (l.length : Int) := by omega
        have hk0 : (0 : Int) ≤ (k : Int) := by omega
        have hf := sync1_get l k hlt
        obtain ⟨u, hu⟩ := hF.get hf
        have hmk := fun (B : FP (BO w1.heap.size) w1.heap.size wr (.slice A3 l.length c3) (sync1 l k) us l.length) => B
        have hset := sync1_set l k hlt
        obtain ⟨Au, cu, rfl, hcu1, hcu2, _⟩ := ((BO.ok _).sl (hF.own k u _ hu hf hlt)).shape
        unfold maxLen at hcu2
        obtain ⟨g, rfl, hg1, hg2⟩ := hF.row.form3 (by omega)
        have hgr := hrs g rfl
        obtain ⟨_, a1, a2⟩ := hF.row.tri3 (tris_get hf hu)
        have hfz := hF.row.free3 (k * 3 + 2)
        have HF := Lib.hid (hF.mark (s := (l[k].b.length : Int)) hf hlt)
        rw [hset] at HF
        have ac1 := a1.cell
        have ac2 := a2.cell
        clear hF hf hset hmk a1 a2 q0 q1 hu hrs
        generalize l[k] = x at *
        go_wp2_with fail
        go_region
        all_goals
          go_wp2
          go_roundw
          case rel =>
            exact ⟨k + 1, by omega, by go_num, HF.out.draw (BO.ok _), Lib.hid ⟨(heap_setCell_other wr _ _ _ (by simp; omega)).trans HQ.out.1, (heap_setCell_other wr _ _ _ (by simp; omega)).trans HQ.out.2⟩, bdraw (hbr.setCell (by simp; omega) _)⟩
          case measure => simp [intOf]; omega
      · have hkI : ¬ (k : Int) < (l.length : Int) := by omega
        have hkl : k = l.length := by omega
        subst hkl
        rw [sync1_all] at hF
        have hsl : (synced l).length = l.length := by simp [synced]
        have xz0 : wr.cell? ⟨w.heap.size + 1, 0, none⟩ = some (.int .i64 0) := cell_of_row _ _ 0 _ _ _ q1; have fz0 : wr.frozen? ⟨w.heap.size + 1, 0, none⟩ = false := frozen_of_row _ _ 0 _ _ q1; have xz1 : wr.cell? ⟨w.heap.size + 1, 1, none⟩ = some (.slice none 0 0) := cell_of_row _ _ 1 _ _ _ q1; have fz1 : wr.frozen? ⟨w.heap.size + 1, 1, none⟩ = false := frozen_of_row _ _ 1 _ _ q1
        go_wp2
        refine bodyPost_ret (results_cell_tmp1 rfl _ _ (w.heap.size + 1) 24 #[.int .i64 room, .slice A3 l.length c3] (0, 0) _ rfl (set2 q1) Tryd.underlying24 rfl (by kernel_rfl)) rfl ?_
        refine ⟨_, us, by rw [HR.out.1, HR.out.2.2]; rfl, ?_, by (repeat (first | with_reducible exact Below.refl _ _ | with_reducible assumption | with_reducible refine bdraw ?_ | with_reducible refine bdrewN ?_ _ | with_reducible refine balloc ?_ _ | with_reducible refine bset ?_ (by simp <;> omega) | with_reducible refine bstep ?_ (by assumption) | with_reducible refine btrans ?_ (by assumption)))⟩
        rw [HR.out.2.1]
        have hF' : FP (BO w1.heap.size) w1.heap.size wr (.slice A3 l.length c3) (synced l) us (synced l).length := by rw [hsl]; exact hF
        exact ((hF'.far (BO.ok _) (by simp; omega)).far (BO.ok _) (by simp; omega)).low (by omega)

set_option maxHeartbeats 4000000 in
theorem rsync_c {S : Foot} {v : Value} {room : Int} {l : List Fi} {w : World} (hp : Sl fiE S w v l) :
    Calls Tryd.prog 38 #[.agg #[.int .i64 room, v]] w (Ans (syR room l) (syF room l) (syE room l) w) := by
  have hp := hp.any
  obtain ⟨A, cap, rfl, hc1, hc2, _⟩ := hp.shape
  unfold maxLen at hc2
  have q0 : ((w.alloc (.cells #[.int .i64 room, .slice A l.length cap] 24)).alloc (.cells #[.int .i64 0, .slice none 0 0] 24)).heap[w.heap.size]? = some (.cells #[.int .i64 room, .slice A l.length cap] 24 (0, 0)) := heap_alloc2_old _ _ _
  have q1 : ((w.alloc (.cells #[.int .i64 room, .slice A l.length cap] 24)).alloc (.cells #[.int .i64 0, .slice none 0 0] 24)).heap[w.heap.size + 1]? = some (.cells #[.int .i64 0, .slice none 0 0] 24 (0, 0)) := by
    have := heap_alloc_new (w.alloc (.cells #[.int .i64 room, .slice A l.length cap] 24)) (.cells #[.int .i64 0, .slice none 0 0] 24)
    rwa [World.size_alloc] at this
  have HF := fun (w' : World) (bb : Below w.heap.size w w') => Lib.hid (rformed_c (room := room) (w := w') (hp.below (by (repeat (first | with_reducible exact Below.refl _ _ | with_reducible assumption | with_reducible refine bdraw ?_ | with_reducible refine bdrewN ?_ _ | with_reducible refine balloc ?_ _ | with_reducible refine bset ?_ (by simp <;> omega) | with_reducible refine bstep ?_ (by assumption) | with_reducible refine btrans ?_ (by assumption)))) (Nat.le_refl _)))
  cases hE : formedD room l
  · have HR : Hid (syE room l = 1 ∧ syF room l = [] ∧ syR room l = 0) := Lib.hid (by simp [syE, syF, syR, hE])
    rw [hE] at HF
    clear hE
    go_enter Tryd.func38, Tryd.ntmps38
    go_wp2_with (go_at_call 30; refine (HF _ (by (repeat (first | with_reducible exact Below.refl _ _ | with_reducible assumption | with_reducible refine bdraw ?_ | with_reducible refine bdrewN ?_ _ | with_reducible refine balloc ?_ _ | with_reducible refine bset ?_ (by simp <;> omega) | with_reducible refine bstep ?_ (by assumption) | with_reducible refine btrans ?_ (by assumption))))).out.mono ?_; rintro e w1 ⟨rfl, b1⟩; have q2 := blkb q1 (w' := w1) (by (repeat (first | with_reducible exact Below.refl _ _ | with_reducible assumption | with_reducible refine bdraw ?_ | with_reducible refine bdrewN ?_ _ | with_reducible refine balloc ?_ _ | with_reducible refine bset ?_ (by simp <;> omega) | with_reducible refine bstep ?_ (by assumption) | with_reducible refine btrans ?_ (by assumption)))); have xa0 : w1.cell? ⟨w.heap.size + 1, 0, none⟩ = some (.int .i64 0) := cell_of_row _ _ 0 _ _ _ q2; have fa0 : w1.frozen? ⟨w.heap.size + 1, 0, none⟩ = false := frozen_of_row _ _ 0 _ _ q2; have xa1 : w1.cell? ⟨w.heap.size + 1, 1, none⟩ = some (.slice none 0 0) := cell_of_row _ _ 1 _ _ _ q2; have fa1 : w1.frozen? ⟨w.heap.size + 1, 1, none⟩ = false := frozen_of_row _ _ 1 _ _ q2)
    refine bodyPost_ret (results_cell_tmp1 rfl _ _ (w.heap.size + 1) 24 #[.int .i64 0, .slice none 0 0] (0, 0) _ rfl (set2 q2) Tryd.underlying24 rfl (by kernel_rfl)) rfl ?_
    exact ⟨_, [], by rw [HR.out.1, HR.out.2.2]; rfl, by rw [HR.out.2.1]; exact FP.nil, by (repeat (first | with_reducible exact Below.refl _ _ | with_reducible assumption | with_reducible refine bdraw ?_ | with_reducible refine bdrewN ?_ _ | with_reducible refine balloc ?_ _ | with_reducible refine bset ?_ (by simp <;> omega) | with_reducible refine bstep ?_ (by assumption) | with_reducible refine btrans ?_ (by assumption)))⟩
  · have HR : Hid (syE room l = 0 ∧ syF room l = synced l ∧ syR room l = room) := Lib.hid (by simp [syE, syF, syR, hE])
    have hlen := formedD_len hE
    have hsz := formedD_size hE
    have hlow := fun f hf' => fineF_low (fs := l) (by simp only [formedD, Bool.and_eq_true] at hE; exact hE.2) f hf'
    have HLow := Lib.hid hlow
    rw [hE] at HF
    clear hE hlow
    obtain ⟨hs1, hs2, hs3⟩ := hsz
    go_enter Tryd.func38, Tryd.ntmps38
    go_wp2_with fail
    refine (HF _ (by (repeat (first | with_reducible exact Below.refl _ _ | with_reducible assumption | with_reducible refine bdraw ?_ | with_reducible refine bdrewN ?_ _ | with_reducible refine balloc ?_ _ | with_reducible refine bset ?_ (by simp <;> omega) | with_reducible refine bstep ?_ (by assumption) | with_reducible refine btrans ?_ (by assumption))))).out.mono ?_
    rintro e w1 ⟨rfl, b1⟩
    have p0 := (At.of_cell (cell_of_row _ w.heap.size 0 _ _ _ q0)).2
    have p1 := (At.of_cell (cell_of_row _ w.heap.size 1 _ _ _ q0)).2
    have a0 := atb p0 b1
    have a1 := atb p1 b1
    go_wp2_with fail
    refine (rcopy_c (room := room) (hp.below (by (repeat (first | with_reducible exact Below.refl _ _ | with_reducible assumption | with_reducible refine bdraw ?_ | with_reducible refine bdrewN ?_ _ | with_reducible refine balloc ?_ _ | with_reducible refine bset ?_ (by simp <;> omega) | with_reducible refine bstep ?_ (by assumption) | with_reducible refine btrans ?_ (by assumption)))) (Nat.le_refl _)) (by omega) (fun f hf => by have := HLow.out f hf; omega)).mono ?_
    rintro e w3 ⟨v3, us, rfl, hF, b3⟩
    obtain ⟨A3, c3, hv3, hc5, hc6, _⟩ := (hF.sl (BO.ok _)).shape
    subst hv3
    unfold maxLen at hc6
    have hz1 : w.heap.size + 2 ≤ w1.heap.size := by have := b1.size; simp at this; omega
    have hz3 := b3.size
    have z3 := blkb q1 (w' := w3) (by (repeat (first | with_reducible exact Below.refl _ _ | with_reducible assumption | with_reducible refine bdraw ?_ | with_reducible refine bdrewN ?_ _ | with_reducible refine balloc ?_ _ | with_reducible refine bset ?_ (by simp <;> omega) | with_reducible refine bstep ?_ (by assumption) | with_reducible refine btrans ?_ (by assumption))))
    have r3 := heap_alloc_new w3 (.cells #[.int .i64 room, .slice A3 l.length c3] 24)
    have hF0 : FP (BO w1.heap.size) w1.heap.size (w3.alloc (.cells #[.int .i64 room, .slice A3 l.length c3] 24)) (.slice A3 l.length c3) (sync1 l 0) us l.length := by
      rw [sync1_zero]; exact hF.below (BO.ok _) (by (repeat (first | with_reducible exact Below.refl _ _ | with_reducible assumption | with_reducible refine bdraw ?_ | with_reducible refine bdrewN ?_ _ | with_reducible refine balloc ?_ _ | with_reducible refine bset ?_ (by simp <;> omega) | with_reducible refine bstep ?_ (by assumption) | with_reducible refine btrans ?_ (by assumption)))) hz3
    have bW : Below w.heap.size w (w3.alloc (.cells #[.int .i64 room, .slice A3 l.length c3] 24)) := by (repeat (first | with_reducible exact Below.refl _ _ | with_reducible assumption | with_reducible refine bdraw ?_ | with_reducible refine bdrewN ?_ _ | with_reducible refine balloc ?_ _ | with_reducible refine bset ?_ (by simp <;> omega) | with_reducible refine bstep ?_ (by assumption) | with_reducible refine btrans ?_ (by assumption)))
    have z4 := blkb z3 (w' := w3.alloc (.cells #[.int .i64 room, .slice A3 l.length c3] 24)) (by (repeat (first | with_reducible exact Below.refl _ _ | with_reducible assumption | with_reducible refine bdraw ?_ | with_reducible refine bdrewN ?_ _ | with_reducible refine balloc ?_ _ | with_reducible refine bset ?_ (by simp <;> omega) | with_reducible refine bstep ?_ (by assumption) | with_reducible refine btrans ?_ (by assumption))))
    have hw3 : w1.heap.size ≤ w3.heap.size := hz3
    have hws : w3.heap.size < (w3.alloc (.cells #[.int .i64 room, .slice A3 l.length c3] 24)).heap.size := by simp
    have hrs : ∀ g, (Value.slice A3 l.length c3).ownBlock = some g → g < w3.heap.size := fun g hg => (hF.row.lt g hg).2
    have xx0 : (w3.alloc (.cells #[.int .i64 room, .slice A3 l.length c3] 24)).cell? ⟨w3.heap.size, 0, none⟩ = some (.int .i64 room) := cell_of_row _ _ 0 _ _ _ r3; have fx0 : (w3.alloc (.cells #[.int .i64 room, .slice A3 l.length c3] 24)).frozen? ⟨w3.heap.size, 0, none⟩ = false := frozen_of_row _ _ 0 _ _ r3; have xx1 : (w3.alloc (.cells #[.int .i64 room, .slice A3 l.length c3] 24)).cell? ⟨w3.heap.size, 1, none⟩ = some (.slice A3 l.length c3) := cell_of_row _ _ 1 _ _ _ r3; have fx1 : (w3.alloc (.cells #[.int .i64 room, .slice A3 l.length c3] 24)).frozen? ⟨w3.heap.size, 1, none⟩ = false := frozen_of_row _ _ 1 _ _ r3
    go_wp2
    clear hF z3 q0 q1 p0 p1 a0 a1 xx0 xx1 fx0 fx1
    generalize w3.alloc (.cells #[.int .i64 room, .slice A3 l.length c3] 24) = W4 at *
    clear b1 b3 HF
    go_loopw [5] (fun iv wr => ∃ (k : Nat), k ≤ l.length ∧ iv = .int .i64 k ∧ FP (BO w1.heap.size) w1.heap.size wr (.slice A3 l.length c3) (sync1 l k) us l.length ∧ Hid (wr.heap[w3.heap.size]? = some (.cells #[.int .i64 room, .slice A3 l.length c3] 24 (0, 0)) ∧ wr.heap[w.heap.size + 1]? = some (.cells #[.int .i64 0, .slice none 0 0] 24 (0, 0))) ∧ Below w.heap.size w wr) (fun iv _ => l.length - (intOf iv).toNat)
    case atStart => exact ⟨0, Nat.zero_le _, by go_num, hF0, Lib.hid ⟨r3, z4⟩, bW⟩
    case round =>
      clear hF0 r3 z4 bW
      obtain ⟨k, hk, rfl, hF, HQ, hbr⟩ := hrel
      obtain ⟨q0, q1⟩ := HQ.out
      have xa0 : wr.cell? ⟨w3.heap.size, 0, none⟩ = some (.int .i64 room) := cell_of_row _ _ 0 _ _ _ q0; have fa0 : wr.frozen? ⟨w3.heap.size, 0, none⟩ = false := frozen_of_row _ _ 0 _ _ q0; have xa1 : wr.cell? ⟨w3.heap.size, 1, none⟩ = some (.slice A3 l.length c3) := cell_of_row _ _ 1 _ _ _ q0; have fa1 : wr.frozen? ⟨w3.heap.size, 1, none⟩ = false := frozen_of_row _ _ 1 _ _ q0
      by_cases hlt : k < l.length
      · have hkI : (k : Int) < (l.length : Int) := by omega
        have hk0 : (0 : Int) ≤ (k : Int) := by omega
        have hf := sync1_get l k hlt
        obtain ⟨u, hu⟩ := hF.get hf
        have hmk := fun (B : FP (BO w1.heap.size) w1.heap.size wr (.slice A3 l.length c3) (sync1 l k) us l.length) => B
        have hset := sync1_set l k hlt
        obtain ⟨Au, cu, rfl, hcu1, hcu2, _⟩ := ((BO.ok _).sl (hF.own k u _ hu hf hlt)).shape
        unfold maxLen at hcu2
        obtain ⟨g, rfl, hg1, hg2⟩ := hF.row.form3 (by omega)
        have hgr := hrs g rfl
        obtain ⟨_, a1, a2⟩ := hF.row.tri3 (tris_get hf hu)
        have hfz := hF.row.free3 (k * 3 + 2)
        have HF := Lib.hid (hF.mark (s := (l[k].b.length : Int)) hf hlt)
        rw [hset] at HF
        have ac1 := a1.cell
        have ac2 := a2.cell
        clear hF hf hset hmk a1 a2 q0 q1 hu hrs
        generalize l[k] = x at *
        go_wp2_with fail
        go_region
        all_goals
          go_wp2
          go_roundw
          case rel =>
            exact ⟨k + 1, by omega, by go_num, HF.out.draw (BO.ok _), Lib.hid ⟨(heap_setCell_other wr _ _ _ (by simp; omega)).trans HQ.out.1, (heap_setCell_other wr _ _ _ (by simp; omega)).trans HQ.out.2⟩, bdraw (hbr.setCell (by simp; omega) _)⟩
          case measure => simp [intOf]; omega
      · have hkI : ¬ (k : Int) < (l.length : Int) := by omega
        have hkl : k = l.length := by omega
        subst hkl
        rw [sync1_all] at hF
        have hsl : (synced l).length = l.length := by simp [synced]
        have xz0 : wr.cell? ⟨w.heap.size + 1, 0, none⟩ = some (.int .i64 0) := cell_of_row _ _ 0 _ _ _ q1; have fz0 : wr.frozen? ⟨w.heap.size + 1, 0, none⟩ = false := frozen_of_row _ _ 0 _ _ q1; have xz1 : wr.cell? ⟨w.heap.size + 1, 1, none⟩ = some (.slice none 0 0) := cell_of_row _ _ 1 _ _ _ q1; have fz1 : wr.frozen? ⟨w.heap.size + 1, 1, none⟩ = false := frozen_of_row _ _ 1 _ _ q1
        go_wp2
        refine bodyPost_ret (results_cell_tmp1 rfl _ _ (w.heap.size + 1) 24 #[.int .i64 room, .slice A3 l.length c3] (0, 0) _ rfl (set2 q1) Tryd.underlying24 rfl (by kernel_rfl)) rfl ?_
        refine ⟨_, us, by rw [HR.out.1, HR.out.2.2]; rfl, ?_, by (repeat (first | with_reducible exact Below.refl _ _ | with_reducible assumption | with_reducible refine bdraw ?_ | with_reducible refine bdrewN ?_ _ | with_reducible refine balloc ?_ _ | with_reducible refine bset ?_ (by simp <;> omega) | with_reducible refine bstep ?_ (by assumption) | with_reducible refine btrans ?_ (by assumption)))⟩
        rw [HR.out.2.1]
        have hF' : FP (BO w1.heap.size) w1.heap.size wr (.slice A3 l.length c3) (synced l) us (synced l).length := by rw [hsl]; exact hF
        exact ((hF'.far (BO.ok _) (by simp; omega)).far (BO.ok _) (by simp; omega)).low (by omega)
end Go.Proofs.YtbahiohlhhdkcaaDoor
