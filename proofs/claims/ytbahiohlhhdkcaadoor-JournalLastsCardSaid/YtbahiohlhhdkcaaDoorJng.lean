/- The journal: the document's Scan. -/
import Derived.Test.YtbahiohlhhdkcaaDoorJnf
set_option linter.unusedSimpArgs false
namespace Go.Proofs.YtbahiohlhhdkcaaDoor
open Go.RowKit

/-- a row of files owned from block B on, whose bytes lie below block C -/
structure OB (C B : Nat) (w : World) (v : Value) (fs : List Fi) (us : List Value) : Prop where
  len : us.length = fs.length
  row : Own trE Any w B 50 v (tris fs us)
  old : ∀ (i : Nat) (u : Value) (f : Fi), us[i]? = some u → fs[i]? = some f → Sl u8E (Lo C) w u f.b
theorem OB.nil {C B : Nat} {w : World} : OB C B w (.slice none 0 0) [] [] := ⟨rfl, Own.nil, by simp⟩
theorem OB.below {C B : Nat} {w w' : World} {v : Value} {fs : List Fi} {us : List Value} (h : OB C B w v fs us) (hb : Below w.heap.size w w') : OB C B w' v fs us :=
  ⟨h.len, h.row.below hb (Nat.le_refl _), fun i u f hu hf => (h.old i u f hu hf).keep fun b _ _ hl => hb.block b hl⟩
theorem OB.grown {C B : Nat} {w w' : World} {v : Value} {r : Option Nat} {fs : List Fi} {us : List Value} (h : OB C B w v fs us) (hg : w.grownBy w' r) (hr : ∀ g, r = some g → C ≤ g ∧ v.ownBlock ≠ some g) : OB C B w' v fs us :=
  ⟨h.len, ((h.row.tri (S' := fun _ _ => False)).grown hg (fun g hv e => (hr g e).2 hv) (fun _ _ h => h.elim)).tri, fun i u f hu hf => (h.old i u f hu hf).keep fun b _ hs hl => hg.block b hl (fun e => by have := (hr b e.symm).1; have : b < C := hs; omega)⟩
theorem OB.far {C B : Nat} {w : World} {v z : Value} {fs : List Fi} {us : List Value} {p : Addr} (h : OB C B w v fs us) (h1 : C ≤ p.block) (h2 : p.block < B) : OB C B (w.setCell p z) v fs us :=
  ⟨h.len, ((h.row.tri (S' := fun _ _ => False)).keep (fun g hg => heap_setCell_other w p g z (by have := (h.row.lt g hg).1; omega)) (fun _ _ h _ => h.elim)).tri, fun i u f hu hf => (h.old i u f hu hf).keep fun b _ hs _ => heap_setCell_other w p b z (by have : b < C := hs; omega)⟩
theorem OB.snoc {C B : Nat} {w w4 w5 : World} {v v' u' : Value} {fs : List Fi} {us : List Value} {f : Fi} (h : OB C B w v fs us) (b4 : Below w.heap.size w w4) (hC : C ≤ w.heap.size) (hCB : C ≤ B) (hu' : Sl u8E (Lo C) w u' f.b)
    (o5 : Own trE Any w5 B 50 v' (tris fs us ++ [⟨.int .i64 f.n, u', .int .i64 f.s⟩])) (g5 : w4.grownBy w5 v.ownBlock) : OB C B w5 v' (fs ++ [f]) (us ++ [u']) := by
  have hk : ∀ b, b < C → w5.heap[b]? = w.heap[b]? := fun b hb => (g5.block b (by have := b4.size; omega) (fun e => by have := (h.row.lt b e.symm).1; omega)).trans (b4.block b (by omega))
  refine ⟨by simp [h.len], by rw [tris_append fs us f u' h.len]; exact o5, fun i u f' hu hf => ?_⟩
  rcases Nat.lt_or_ge i us.length with hl | hl
  · rw [List.getElem?_append_left hl] at hu
    rw [List.getElem?_append_left (by rw [← h.len]; exact hl)] at hf
    exact (h.old i u f' hu hf).keep fun b _ hs _ => hk b hs
  · rw [List.getElem?_append_right hl] at hu
    rw [List.getElem?_append_right (by rw [← h.len]; exact hl)] at hf
    have hi' := (List.getElem?_eq_some_iff.1 hu).1
    simp at hi'
    have e : i - us.length = 0 := by omega
    have e' : i - fs.length = 0 := by rw [← h.len]; exact e
    rw [e] at hu
    rw [e'] at hf
    simp at hu hf
    subst hu hf
    exact hu'.keep fun b _ hs _ => hk b hs
theorem OB.sl {C B : Nat} {w : World} {v : Value} {fs : List Fi} {us : List Value} (h : OB C B w v fs us) : Sl fiE Any w v fs := by
  have hl := tris_len fs us h.len
  have h1 := h.row.slAny
  obtain ⟨A, cap, xs, e, hc, hm, ha, hr, hx⟩ := h1
  rw [hl] at e hc
  refine ⟨A, cap, xs, e, hc, hm, ha, ⟨by rw [hr.1, hl]; rfl, fun i f hf => ?_⟩, hx⟩
  have hi : i < us.length := by rw [h.len]; exact (List.getElem?_eq_some_iff.1 hf).1
  have hu : us[i]? = some us[i] := List.getElem?_eq_getElem hi
  obtain ⟨h2, _⟩ := hr.2 i _ (tris_get hf hu)
  exact ⟨us[i], h2, (h.old i _ f hu hf).any⟩
/-- from B on, unfrozen, in neither of two rows -/
def HiM (B : Nat) (r s : Option Nat) : Foot := fun b fr => B ≤ b ∧ fr = (0, 0) ∧ some b ≠ r ∧ some b ≠ s
theorem Own.appendedM {α : Type} {E : Enc α} {w w' : World} {base : Nat} {e : TypeId} {v v' : Value} {s : Option Nat} {l m : List α} {xs ys : List Value} (hr : Reps E (HiM base v.ownBlock s) w xs l) (hr' : Reps E (HiM base v.ownBlock s) w ys m)
    (ho : w'.ownsRow base e E.k v' (l ++ m).length (xs ++ ys)) (hg : w.grownBy w' v.ownBlock) (hb : v'.ownBlock = v.ownBlock ∨ v'.ownBlock = some w.heap.size) : Own E (HiM base v'.ownBlock s) w' base e v' (l ++ m) := by
  have h1 := (hr.append hr').mono (S' := fun b fr => HiM base v.ownBlock s b fr ∧ b < w.heap.size) (fun b fr h hl => ⟨h, hl⟩)
  have h2 := h1.keep (w' := w') (fun b fr h hl => hg.block b hl (fun e => h.1.2.2.1 e))
  refine ⟨_, ho, h2.mono fun b fr h _ => ⟨h.1.1, h.1.2.1, ?_, h.1.2.2.2⟩⟩
  rcases hb with hb | hb
  · rw [hb]; exact h.1.2.2.1
  · rw [hb]; intro e; injection e with e; have := h.2; omega
theorem Own.pastRow {α : Type} {E : Enc α} {w w' : World} {base : Nat} {e : TypeId} {v : Value} {r r' : Option Nat} {l : List α} (h : Own E (HiM base v.ownBlock r) w base e v l) (hg : w.grownBy w' r) (hv : ∀ g, r = some g → v.ownBlock ≠ some g)
    (hb : r' = r ∨ r' = some w.heap.size) : Own E (HiM base v.ownBlock r') w' base e v l := by
  have h1 := h.mono (S' := fun b fr => HiM base v.ownBlock r b fr ∧ b < w.heap.size) (fun b fr h hl => ⟨h, hl⟩)
  refine (h1.grown hg (fun g h2 h3 => hv g h3 h2) (fun b fr h _ e => h.1.2.2.2 e.symm)).mono (fun b fr h _ => ⟨h.1.1, h.1.2.1, h.1.2.2.1, ?_⟩)
  rcases hb with hb | hb
  · rw [hb]; exact h.1.2.2.2
  · rw [hb]; intro e; injection e with e; have := h.2; omega
theorem Own.notInM {α : Type} {E : Enc α} {w : World} {B g o : Nat} {r s : Option Nat} {t : TypeId} {v u : Value} {l : List α} (h : Own E (HiM B r s) w B t v l) (hg : g < B) : Own E (HiM B r s) (w.setCell ⟨g, o, none⟩ u) B t v l :=
  h.far (p := ⟨g, o, none⟩) hg (fun b fr hs _ (e : b = g) => by have := hs.1; omega)
theorem rcut_t {S : Foot} {v : Value} {l : List UInt8} {w : World} (hp : Sl u8E S w v l) (hl : l.length ≤ 17592186044416) :
    Calls Tryd.prog 37 #[v] w fun e w' => ∃ A c, e = .returned (.tuple #[.slice A (ctL l).length c, .int .i64 (ctN l : Int)]) ∧ Own (slE u8E) (HiN w.heap.size (Value.slice A (ctL l).length c).ownBlock) w' w.heap.size 25 (.slice A (ctL l).length c) (ctL l) ∧ Below w.heap.size w w' :=
  (rcut_c hp hl).mono fun _ _ ⟨v', k, h1, h2, h3, h4⟩ => by
    have e : cutK l k = ct l := ct_of h1
    rw [e] at h2 h3
    obtain ⟨A, c, rfl, _⟩ := h3.slAny.shape
    exact ⟨A, c, h2, h3, h4⟩

set_option maxHeartbeats 8000000 in
theorem rjscan_c {S : Foot} {v : Value} {room : Int} {l : List Fi} {w : World} (hp : Sl fiE S w v l) :
    Calls Tryd.prog 16 #[.agg #[.int .i64 room, v]] w (AnsL (saL room l) (saR room l) (saF room l) (saE room l) w) := by
  have hp := hp.any
  obtain ⟨i0, hi0, hy0, hy1, hy2⟩ := info_parts sl_info
  obtain ⟨i2, hi2, hv0, hv1, hv2⟩ := info_parts fi_info
  obtain ⟨i8, hi8, hw0, hw1, hw2⟩ := info_parts slice_info
  obtain ⟨A, cap, rfl, hc1, hc2, _⟩ := hp.shape
  unfold maxLen at hc2
  have q0 : ((w.alloc (.cells #[.int .i64 room, .slice A l.length cap] 24)).alloc (.cells #[.int .i64 0, .slice none 0 0] 24)).heap[w.heap.size]? = some (.cells #[.int .i64 room, .slice A l.length cap] 24 (0, 0)) := heap_alloc2_old _ _ _
  have q1 : ((w.alloc (.cells #[.int .i64 room, .slice A l.length cap] 24)).alloc (.cells #[.int .i64 0, .slice none 0 0] 24)).heap[w.heap.size + 1]? = some (.cells #[.int .i64 0, .slice none 0 0] 24 (0, 0)) := by
    have := heap_alloc_new (w.alloc (.cells #[.int .i64 room, .slice A l.length cap] 24)) (.cells #[.int .i64 0, .slice none 0 0] 24)
    rwa [World.size_alloc] at this
  have HF := fun (w' : World) (bb : Below w.heap.size w w') => Lib.hid (rformed_c (room := room) (w := w') (hp.below (by (repeat (first | with_reducible exact Below.refl _ _ | with_reducible assumption | with_reducible refine bdraw ?_ | with_reducible refine bdrewN ?_ _ | with_reducible refine balloc ?_ _ | with_reducible refine bset ?_ (by simp <;> omega) | with_reducible refine bstep ?_ (by assumption) | with_reducible refine btrans ?_ (by assumption)))) (Nat.le_refl _)))
  cases hE : formedD room l
  · have HR := Lib.hid (sa_bad hE)
    rw [hE] at HF
    clear hE
    go_enter Tryd.func16, Tryd.ntmps16
    go_wp2_with fail
    refine (HF _ (by (repeat (first | with_reducible exact Below.refl _ _ | with_reducible assumption | with_reducible refine bdraw ?_ | with_reducible refine bdrewN ?_ _ | with_reducible refine balloc ?_ _ | with_reducible refine bset ?_ (by simp <;> omega) | with_reducible refine bstep ?_ (by assumption) | with_reducible refine btrans ?_ (by assumption))))).out.mono ?_
    rintro e w1 ⟨rfl, b1⟩
    have z3 := blkb q1 (w' := w1) (by (repeat (first | with_reducible exact Below.refl _ _ | with_reducible assumption | with_reducible refine bdraw ?_ | with_reducible refine bdrewN ?_ _ | with_reducible refine balloc ?_ _ | with_reducible refine bset ?_ (by simp <;> omega) | with_reducible refine bstep ?_ (by assumption) | with_reducible refine btrans ?_ (by assumption))))
    have xc0 : w1.cell? ⟨w.heap.size + 1, 0, none⟩ = some (.int .i64 0) := cell_of_row _ _ 0 _ _ _ z3; have fc0 : w1.frozen? ⟨w.heap.size + 1, 0, none⟩ = false := frozen_of_row _ _ 0 _ _ z3; have xc1 : w1.cell? ⟨w.heap.size + 1, 1, none⟩ = some (.slice none 0 0) := cell_of_row _ _ 1 _ _ _ z3; have fc1 : w1.frozen? ⟨w.heap.size + 1, 1, none⟩ = false := frozen_of_row _ _ 1 _ _ z3
    go_wp2
    refine bodyPost_ret (results_tmp_cell_tmp rfl _ _ (w.heap.size + 1) 24 #[.int .i64 0, .slice none 0 0] (0, 0) _ rfl (set2 z3) Tryd.underlying24 rfl (by kernel_rfl)) rfl ?_
    exact ⟨_, _, by rw [HR.out.1, HR.out.2.2.2]; rfl, by rw [HR.out.2.1]; exact Sl.nil, by rw [HR.out.2.2.1]; exact Sl.nil, by (repeat (first | with_reducible exact Below.refl _ _ | with_reducible assumption | with_reducible refine bdraw ?_ | with_reducible refine bdrewN ?_ _ | with_reducible refine balloc ?_ _ | with_reducible refine bset ?_ (by simp <;> omega) | with_reducible refine bstep ?_ (by assumption) | with_reducible refine btrans ?_ (by assumption)))⟩
  have HE := Lib.hid hE
  have HR := Lib.hid (sa_ok hE)
  have hsz := formedD_size hE
  have hlen := formedD_len hE
  have HB : Hid (∀ k, (hk : k < l.length) → l[k].b.length ≤ 16777216) := Lib.hid (fun k hk => by have := sizeD_mem (List.getElem_mem hk); omega)
  have HSZ := Lib.hid hsz
  rw [hE] at HF
  clear hE hsz
  go_enter Tryd.func16, Tryd.ntmps16
  go_wp2_with fail
  refine (HF _ (by (repeat (first | with_reducible exact Below.refl _ _ | with_reducible assumption | with_reducible refine bdraw ?_ | with_reducible refine bdrewN ?_ _ | with_reducible refine balloc ?_ _ | with_reducible refine bset ?_ (by simp <;> omega) | with_reducible refine bstep ?_ (by assumption) | with_reducible refine btrans ?_ (by assumption))))).out.mono ?_
  rintro e w1 ⟨rfl, b1⟩
  have hz1 : w.heap.size + 2 ≤ w1.heap.size := by have := b1.size; simp at this; omega
  have bw1 : Below w.heap.size w w1 := by (repeat (first | with_reducible exact Below.refl _ _ | with_reducible assumption | with_reducible refine bdraw ?_ | with_reducible refine bdrewN ?_ _ | with_reducible refine balloc ?_ _ | with_reducible refine bset ?_ (by simp <;> omega) | with_reducible refine bstep ?_ (by assumption) | with_reducible refine btrans ?_ (by assumption)))
  have q2 := blkb q0 (w' := w1) (by (repeat (first | with_reducible exact Below.refl _ _ | with_reducible assumption | with_reducible refine bdraw ?_ | with_reducible refine bdrewN ?_ _ | with_reducible refine balloc ?_ _ | with_reducible refine bset ?_ (by simp <;> omega) | with_reducible refine bstep ?_ (by assumption) | with_reducible refine btrans ?_ (by assumption))))
  have z2 := blkb q1 (w' := w1) (by (repeat (first | with_reducible exact Below.refl _ _ | with_reducible assumption | with_reducible refine bdraw ?_ | with_reducible refine bdrewN ?_ _ | with_reducible refine balloc ?_ _ | with_reducible refine bset ?_ (by simp <;> omega) | with_reducible refine bstep ?_ (by assumption) | with_reducible refine btrans ?_ (by assumption))))
  have xa0 : w1.cell? ⟨w.heap.size, 0, none⟩ = some (.int .i64 room) := cell_of_row _ _ 0 _ _ _ q2; have fa0 : w1.frozen? ⟨w.heap.size, 0, none⟩ = false := frozen_of_row _ _ 0 _ _ q2; have xa1 : w1.cell? ⟨w.heap.size, 1, none⟩ = some (.slice A l.length cap) := cell_of_row _ _ 1 _ _ _ q2; have fa1 : w1.frozen? ⟨w.heap.size, 1, none⟩ = false := frozen_of_row _ _ 1 _ _ q2
  obtain ⟨W, hW⟩ : ∃ W, w1.alloc (.cells #[.int .i64 room, .slice none 0 0] 24) = W := ⟨_, rfl⟩
  have hzW : W.heap.size = w1.heap.size + 1 := by rw [← hW]; simp
  have qn : W.heap[w1.heap.size]? = some (.cells #[.int .i64 room, .slice none 0 0] 24 (0, 0)) := by rw [← hW]; exact heap_alloc_new w1 _
  have bW1 : Below w1.heap.size w1 W := by rw [← hW]; exact (Below.refl _ _).alloc (Nat.le_refl _) _
  have q4 := blkb q2 bW1
  have z4 := blkb z2 bW1
  have bw4 : Below w.heap.size w W := bw1.trans (bW1.mono (by omega))
  have hp0 := hp.lo
  have HW := Lib.hid hW
  clear hW HF q0 q1 q2 z2
  go_wp2
  rw [HW.out]
  clear HW xa0 xa1 fa0 fa1
  have HQ := Lib.hid (And.intro q4 z4)
  clear q4 z4
  go_loopw [5, 7, 8, 9, 10] (fun rv iv _ _ _ wr => ∃ (k : Nat) (vn : Value) (ou : List Fi) (us : List Value) (rec : List (List UInt8)), k ≤ l.length ∧ iv = .int .i64 k ∧ Hid (tnK l k = false ∧ ouK l k = ou ∧ rcK l k = rec) ∧
    Own (slE u8E) (HiM (w1.heap.size + 1) rv.ownBlock vn.ownBlock) wr (w1.heap.size + 1) 25 rv rec ∧ Hid (wr.heap[w1.heap.size]? = some (.cells #[.int .i64 room, vn] 24 (0, 0))) ∧
    OB w.heap.size (w1.heap.size + 1) wr vn ou us ∧ Below w1.heap.size W wr) (fun _ iv _ _ _ _ => l.length - (intOf iv).toNat)
  case atStart => exact ⟨0, _, [], [], [], Nat.zero_le _, by go_num, Lib.hid ⟨tnK_zero l, ouK_zero l, rcK_zero l⟩, Own.nil, Lib.hid qn, OB.nil, Below.refl _ _⟩
  case round =>
    obtain ⟨k, vn, ou, us, rec, hk, rfl, HST, orec, HQn, ob, hbr⟩ := hrel
    have hz := hbr.size
    have hbw : Below w.heap.size w wr := bw4.trans (hbr.mono (by omega))
    have hqn := HQn.out
    have q5 := (hbr.block w.heap.size (by omega)).trans HQ.out.1
    have xa0 : wr.cell? ⟨w.heap.size, 0, none⟩ = some (.int .i64 room) := cell_of_row _ _ 0 _ _ _ q5; have fa0 : wr.frozen? ⟨w.heap.size, 0, none⟩ = false := frozen_of_row _ _ 0 _ _ q5; have xa1 : wr.cell? ⟨w.heap.size, 1, none⟩ = some (.slice A l.length cap) := cell_of_row _ _ 1 _ _ _ q5; have fa1 : wr.frozen? ⟨w.heap.size, 1, none⟩ = false := frozen_of_row _ _ 1 _ _ q5
    obtain ⟨An, cn, rfl, hcn1, hcn2, _⟩ := ob.sl.shape
    by_cases hlt2 : k < l.length
    · have hkI : (k : Int) < (l.length : Int) := by omega
      have hk0 : (0 : Int) ≤ (k : Int) := by omega
      obtain ⟨bb, off, Av, cv, rfl, k0, k1, k2, hv⟩ := (hp0.lob hbw).fi hlt2
      have HWS := Lib.hid (whole_step (l := l) (k := k) HST.out.1 hlt2)
      have hxl := HB.out k hlt2
      generalize l[k] = x at *
      obtain ⟨_, _, e, hcv1, hcv2, _⟩ := hv.shape
      injection e with e1 e0 e2
      subst e1 e2
      clear e0
      unfold maxLen at hcv2
      have d2 := k0.cell
      have d3 := k1.cell
      have d4 := k2.cell
      clear k0 k1 k2
      have e5 := heap_alloc_new wr (.cells #[.int .i64 x.n, .slice Av x.b.length cv, .int .i64 x.s] 50)
      have b5 : Below wr.heap.size wr (wr.alloc (.cells #[.int .i64 x.n, .slice Av x.b.length cv, .int .i64 x.s] 50)) := (Below.refl _ _).alloc (Nat.le_refl _) _
      have qn5 := blkb hqn b5
      have or5 := orec.below b5 (Nat.le_refl _)
      have ob5 := ob.below b5
      have hb5 := hbr.trans (b5.mono (by omega))
      have xu0 : (wr.alloc (.cells #[.int .i64 x.n, .slice Av x.b.length cv, .int .i64 x.s] 50)).cell? ⟨wr.heap.size, 0, none⟩ = some (.int .i64 x.n) := cell_of_row _ _ 0 _ _ _ e5; have fu0 : (wr.alloc (.cells #[.int .i64 x.n, .slice Av x.b.length cv, .int .i64 x.s] 50)).frozen? ⟨wr.heap.size, 0, none⟩ = false := frozen_of_row _ _ 0 _ _ e5; have xu1 : (wr.alloc (.cells #[.int .i64 x.n, .slice Av x.b.length cv, .int .i64 x.s] 50)).cell? ⟨wr.heap.size, 1, none⟩ = some (.slice Av x.b.length cv) := cell_of_row _ _ 1 _ _ _ e5; have fu1 : (wr.alloc (.cells #[.int .i64 x.n, .slice Av x.b.length cv, .int .i64 x.s] 50)).frozen? ⟨wr.heap.size, 1, none⟩ = false := frozen_of_row _ _ 1 _ _ e5; have xu2 : (wr.alloc (.cells #[.int .i64 x.n, .slice Av x.b.length cv, .int .i64 x.s] 50)).cell? ⟨wr.heap.size, 2, none⟩ = some (.int .i64 x.s) := cell_of_row _ _ 2 _ _ _ e5; have fu2 : (wr.alloc (.cells #[.int .i64 x.n, .slice Av x.b.length cv, .int .i64 x.s] 50)).frozen? ⟨wr.heap.size, 2, none⟩ = false := frozen_of_row _ _ 2 _ _ e5
      have hrcl := rcK_len l k
      have hctl := ctL_len x.b
      have hctn := ctN_le x.b
      have hszz := HSZ.out
      have houl := ouK_len l k
      rw [HST.out.2.1] at houl
      rw [HST.out.2.2] at hrcl
      have HC := Lib.hid (rcut_t (hv.below b5 (Nat.le_refl _)) (by omega))
      obtain ⟨Ac, cc, scut, hcut⟩ := hv.cut_h Tryd.underlying25 hi8 hw1 (hi := ctN x.b) hctn rfl
      have hne := orec.lt
      have hne2 := own_ne orec ob.row (by decide)
      have hnv := ob.row.lt
      have htl : (tris ou us).length = ou.length := tris_len _ _ ob.len
      have hrl7 : rec.length ≤ 2097152 := by omega
      have hctl7 : (ctL x.b).length ≤ 2097152 := by omega
      have hol7 : ou.length ≤ 1048577 := by omega
      have hzz5 : (wr.alloc (.cells #[.int .i64 x.n, .slice Av x.b.length cv, .int .i64 x.s] 50)).heap.size = wr.heap.size + 1 := by simp
      have HOB := Lib.hid ob
      clear hrcl hctl hszz houl ob hcn1 xa0 xa1 fa0 fa1
      have xa0 : wr.cell? ⟨w.heap.size, 0, none⟩ = some (.int .i64 room) := cell_of_row _ _ 0 _ _ _ q5; have fa0 : wr.frozen? ⟨w.heap.size, 0, none⟩ = false := frozen_of_row _ _ 0 _ _ q5; have xa1 : wr.cell? ⟨w.heap.size, 1, none⟩ = some (.slice (some ⟨bb, off, none⟩) l.length cap) := cell_of_row _ _ 1 _ _ _ q5; have fa1 : wr.frozen? ⟨w.heap.size, 1, none⟩ = false := frozen_of_row _ _ 1 _ _ q5
      go_wp2_with fail
      refine HC.out.mono ?_
      rintro e w6 ⟨A6, c6, rfl, o6, b6⟩
      have hz6 := b6.size
      rw [hzz5] at hz6
      have qn6 := blkb qn5 b6
      have e6 := blkb e5 b6
      have hb6 := hb5.trans (b6.mono (by omega))
      have hsl6 : Sl (slE u8E) (HiM (w1.heap.size + 1) u5.ownBlock (Value.slice An ou.length cn).ownBlock) w6 (.slice A6 (ctL x.b).length c6) (ctL x.b) := o6.sl (fun b fr h _ => ⟨by have := h.1; omega, h.2.1, fun e => by have := hne b e.symm; have := h.1; omega, fun e => by have := hnv b e.symm; have := h.1; omega⟩) (fun g _ h1 _ => ⟨by omega, rfl, fun e => by have := hne g e.symm; omega, fun e => by have := hnv g e.symm; omega⟩)
      have or6 := or5.below b6 (Nat.le_refl _)
      have ob6 := ob5.below b6
      obtain ⟨xsr, hor, hrr⟩ := or6
      have HO6 := Lib.hid ob6
      clear xu0 xu1 xu2 fu0 fu1 fu2 ob6 ob5 or5 HOB xa0 xa1 fa0 fa1
      go_wp2_with (at_builtin; refine wpList_append_sl _ rfl (.tmp 36) (.tmp 37) 34 rfl (E := slE u8E) (base := w1.heap.size + 1) Tryd.underlying34 hi0 hy0 hy1 hy2 rfl hor hsl6 rfl rfl (by unfold maxLen; omega) (by omega) (by omega) ?_; intro v7 w7 ys7 ho7 hr7 hg7 hb7)
      have hz7 := hg7.size
      have qn7 := blkg qn6 hg7 (fun g hg => by have := hne g hg; omega)
      have e7 := blkg e6 hg7 (fun g hg => by have := hne g hg; omega)
      have b67 : Below w1.heap.size w6 w7 := bgrown hg7 (by omega) (fun g hg => by have := hne g hg; omega)
      have hb7w : Below w1.heap.size W w7 := hb6.trans b67
      have o7 : Own (slE u8E) (HiM (w1.heap.size + 1) v7.ownBlock (Value.slice An ou.length cn).ownBlock) w7 (w1.heap.size + 1) 25 v7 (rec ++ ctL x.b) := Own.appendedM hrr hr7 ho7 hg7 hb7
      have ob7 := HO6.out.grown hg7 (fun g hg => ⟨by have := hne g hg; omega, hne2 g hg⟩)
      have hs7 : Sl u8E (Lo w.heap.size) w7 (.slice Ac (ctN x.b) cc) (x.b.take (ctN x.b)) := ((scut.lob ((b5.trans (b6.mono (by omega))).mono (by omega))).lob (b67.mono (by omega)))
      clear hor hrr ho7 hr7 hb7 hg7 HO6 hsl6 hne hne2 b67
      have HO7 := Lib.hid ob7
      have hnv7 := ob7.row.lt
      have hne7 := own_ne ob7.row o7 (by decide)
      clear ob7
      have t0 : At Any w7 wr.heap.size 0 (.int .i64 x.n) := (At.of_cell (cell_of_row _ (wr.heap.size) 0 _ _ _ e7)).2
      have t1 : At Any w7 wr.heap.size 1 (.slice Av x.b.length cv) := (At.of_cell (cell_of_row _ (wr.heap.size) 1 _ _ _ e7)).2
      have t2 : At Any w7 w1.heap.size 1 (.slice An ou.length cn) := (At.of_cell (cell_of_row _ (w1.heap.size) 1 _ _ _ qn7)).2
      have hneA : ∀ g, (Value.slice An ou.length cn).ownBlock = some g → g ≠ wr.heap.size ∧ g ≠ w1.heap.size := fun g hg => by have := hnv g hg; exact ⟨by omega, by omega⟩
      refine region_push 12 (S := (fun w' => w'.cell? ⟨wr.heap.size, 0, none⟩ = some (.int .i64 x.n) ∧ w'.cell? ⟨wr.heap.size, 1, none⟩ = some (.slice Av x.b.length cv) ∧ w'.cell? ⟨w1.heap.size, 1, none⟩ = some (.slice An ou.length cn))) (by kernel_rfl) (by kernel_rfl) ?_ (fun hHeld => ?_); (· ((try dsimp only); (refine ⟨?_, ?_, ?_⟩ <;> (first | assumption | exact atb t0 (by (repeat (first | with_reducible exact Below.refl _ _ | with_reducible assumption | with_reducible refine bdraw ?_ | with_reducible refine bdrewN ?_ _ | with_reducible refine balloc ?_ _ | with_reducible refine bset ?_ (by simp <;> omega) | with_reducible refine bstep ?_ (by assumption) | with_reducible refine btrans ?_ (by assumption)))) | exact atb t1 (by (repeat (first | with_reducible exact Below.refl _ _ | with_reducible assumption | with_reducible refine bdraw ?_ | with_reducible refine bdrewN ?_ _ | with_reducible refine balloc ?_ _ | with_reducible refine bset ?_ (by simp <;> omega) | with_reducible refine bstep ?_ (by assumption) | with_reducible refine btrans ?_ (by assumption)))) | exact atb t2 (by (repeat (first | with_reducible exact Below.refl _ _ | with_reducible assumption | with_reducible refine bdraw ?_ | with_reducible refine bdrewN ?_ _ | with_reducible refine balloc ?_ _ | with_reducible refine bset ?_ (by simp <;> omega) | with_reducible refine bstep ?_ (by assumption) | with_reducible refine btrans ?_ (by assumption)))))))); simp only [List.take_succ_cons, List.take_zero]
      refine wpAnyH_take (i := 0) (v := ?_) rfl (by kernel_rfl) (by kernel_rfl) (by kernel_rfl) (fun _ _ _ h => h) (Or.inl ⟨by rfl, ?_⟩) (by assumption) ?_; rotate_left; (· (intro w' hSw'; (try dsimp only at hSw'); go_simp; (try with_reducible rfl))); simp only [Act.put, List.setIfInBounds_toArray, List.set_cons_zero, List.set_cons_succ, List.getElem_toArray, List.getElem_cons_zero, List.getElem_cons_succ, Array.getInternal_eq_getElem]; refine wpAnyH_take (i := 1) (v := ?_) rfl (by kernel_rfl) (by kernel_rfl) (by kernel_rfl) (fun _ _ _ h => h) (Or.inl ⟨by rfl, ?_⟩) (by assumption) ?_; rotate_left; (· (intro w' hSw'; (try dsimp only at hSw'); go_simp; (try with_reducible rfl))); simp only [Act.put, List.setIfInBounds_toArray, List.set_cons_zero, List.set_cons_succ, List.getElem_toArray, List.getElem_cons_zero, List.getElem_cons_succ, Array.getInternal_eq_getElem]; refine wpAnyH_take (i := 2) (v := ?_) rfl (by kernel_rfl) (by kernel_rfl) (by kernel_rfl) (fun _ _ _ h => h) (Or.inl ⟨by rfl, ?_⟩) (by assumption) ?_; rotate_left; (· (intro w' hSw'; (try dsimp only at hSw'); go_simp; (try with_reducible rfl))); simp only [Act.put, List.setIfInBounds_toArray, List.set_cons_zero, List.set_cons_succ, List.getElem_toArray, List.getElem_cons_zero, List.getElem_cons_succ, Array.getInternal_eq_getElem]; refine wpAnyH_take (i := 3) (v := ?_) rfl (by kernel_rfl) (by kernel_rfl) (by kernel_rfl) (fun _ _ _ h => h) (Or.inl ⟨by rfl, ?_⟩) (by assumption) ?_; rotate_left; (· (intro w' hSw'; (try dsimp only at hSw'); go_simp; (try with_reducible rfl))); simp only [Act.put, List.setIfInBounds_toArray, List.set_cons_zero, List.set_cons_succ, List.getElem_toArray, List.getElem_cons_zero, List.getElem_cons_succ, Array.getInternal_eq_getElem]; refine wpAnyH_take (i := 4) (v := ?_) rfl (by kernel_rfl) (by kernel_rfl) (by kernel_rfl) (fun _ _ _ h => h) (Or.inl ⟨by rfl, ?_⟩) (by assumption) ?_; rotate_left; (· (intro w' hSw'; (try dsimp only at hSw'); go_simp; (try with_reducible rfl))); simp only [Act.put, List.setIfInBounds_toArray, List.set_cons_zero, List.set_cons_succ, List.getElem_toArray, List.getElem_cons_zero, List.getElem_cons_succ, Array.getInternal_eq_getElem]; refine wpAnyH_take (i := 5) (v := ?_) rfl (by kernel_rfl) (by kernel_rfl) (by kernel_rfl) (fun _ _ _ h => h) (Or.inl ⟨by rfl, ?_⟩) (by assumption) ?_; rotate_left; (· (intro w' hSw'; (try dsimp only at hSw'); go_simp; (try with_reducible rfl))); simp only [Act.put, List.setIfInBounds_toArray, List.set_cons_zero, List.set_cons_succ, List.getElem_toArray, List.getElem_cons_zero, List.getElem_cons_succ, Array.getInternal_eq_getElem]; refine wpAnyH_take (i := 6) (v := ?_) rfl (by kernel_rfl) (by kernel_rfl) (by kernel_rfl) (fun _ _ _ h => h) (Or.inl ⟨by rfl, ?_⟩) (by assumption) ?_; rotate_left; (· (intro w' hSw'; (try dsimp only at hSw'); go_simp; (try with_reducible rfl))); simp only [Act.put, List.setIfInBounds_toArray, List.set_cons_zero, List.set_cons_succ, List.getElem_toArray, List.getElem_cons_zero, List.getElem_cons_succ, Array.getInternal_eq_getElem]; refine wpAnyH_take (i := 7) (v := ?_) rfl (by kernel_rfl) (by kernel_rfl) (by kernel_rfl) (fun _ _ _ h => h) (Or.inl ⟨by rfl, ?_⟩) (by assumption) ?_; rotate_left; (· (intro w' hSw'; (try dsimp only at hSw'); go_simp; (try with_reducible rfl))); simp only [Act.put, List.setIfInBounds_toArray, List.set_cons_zero, List.set_cons_succ, List.getElem_toArray, List.getElem_cons_zero, List.getElem_cons_succ, Array.getInternal_eq_getElem]; refine wpAnyH_take (i := 8) (v := ?_) rfl (by kernel_rfl) (by kernel_rfl) (by kernel_rfl) (fun _ _ _ h => h) (Or.inl ⟨by rfl, ?_⟩) (by assumption) ?_; rotate_left; (· (intro w' hSw'; (try dsimp only at hSw'); go_simp; (try with_reducible rfl))); simp only [Act.put, List.setIfInBounds_toArray, List.set_cons_zero, List.set_cons_succ, List.getElem_toArray, List.getElem_cons_zero, List.getElem_cons_succ, Array.getInternal_eq_getElem]
      refine wpAnyH_ready (rs := [9]) (by kernel_rfl) (by simp) (AllReadyH.cons rfl (fun K hK => ?_) AllReadyH.nil); ((go_simp)); refine hK.out _ _ ?_ (fun hHeld => ?_); (· ((try dsimp only); (refine ⟨?_, ?_, ?_⟩ <;> (first | assumption | exact atb t0 (by (repeat (first | with_reducible exact Below.refl _ _ | with_reducible assumption | with_reducible refine bdraw ?_ | with_reducible refine bdrewN ?_ _ | with_reducible refine balloc ?_ _ | with_reducible refine bset ?_ (by simp <;> omega) | with_reducible refine bstep ?_ (by assumption) | with_reducible refine btrans ?_ (by assumption)))) | exact atb t1 (by (repeat (first | with_reducible exact Below.refl _ _ | with_reducible assumption | with_reducible refine bdraw ?_ | with_reducible refine bdrewN ?_ _ | with_reducible refine balloc ?_ _ | with_reducible refine bset ?_ (by simp <;> omega) | with_reducible refine bstep ?_ (by assumption) | with_reducible refine btrans ?_ (by assumption)))) | exact atb t2 (by (repeat (first | with_reducible exact Below.refl _ _ | with_reducible assumption | with_reducible refine bdraw ?_ | with_reducible refine bdrewN ?_ _ | with_reducible refine balloc ?_ _ | with_reducible refine bset ?_ (by simp <;> omega) | with_reducible refine bstep ?_ (by assumption) | with_reducible refine btrans ?_ (by assumption)))))))); clear hK K; (try simp only [Act.put, List.setIfInBounds_toArray, List.set_cons_zero, List.set_cons_succ, List.getElem_toArray, List.getElem_cons_zero, List.getElem_cons_succ, Array.getInternal_eq_getElem])
      refine wpAnyH_ready (rs := [10]) (by kernel_rfl) (by simp) (AllReadyH.cons rfl (fun K hK => ?_) AllReadyH.nil); ((refine step_append_one _ (by rfl) (.tmp 40) (.tmp 48) 22 (by rfl) (E := trE) (base := w1.heap.size + 1) Tryd.underlying22 hi2 hv0 hv1 hv2 rfl (Own.tri (HO7.out.row.below (by (repeat (first | with_reducible exact Below.refl _ _ | with_reducible assumption | with_reducible refine bdraw ?_ | with_reducible refine bdrewN ?_ _ | with_reducible refine balloc ?_ _ | with_reducible refine bset ?_ (by simp <;> omega) | with_reducible refine bstep ?_ (by assumption) | with_reducible refine btrans ?_ (by assumption)))) (Nat.le_refl _))) (a := ⟨.int .i64 x.n, .slice Ac (ctN x.b) cc, .int .i64 0⟩) ⟨rfl, rfl, rfl, rfl⟩ (new_cells w7.drew [.int .i64 x.n, .slice Ac (ctN x.b) cc, .int .i64 0] 50) (by rfl) (by rfl) (by unfold maxLen; omega) (by omega) (by simp; omega) ?_; intro v9 w9 o9 b9 hv9 g9)); refine hK.out _ _ ?_ (fun hHeld => ?_); (· ((try dsimp only); (refine ⟨?_, ?_, ?_⟩ <;> (first | exact atg (atk t0 (by (repeat (first | with_reducible exact Below.refl _ _ | with_reducible assumption | with_reducible refine bdraw ?_ | with_reducible refine bdrewN ?_ _ | with_reducible refine balloc ?_ _ | with_reducible refine bset ?_ (by simp <;> omega) | with_reducible refine bstep ?_ (by assumption) | with_reducible refine btrans ?_ (by assumption))))) g9 (fun g hg => (hneA g hg).1) | exact atg (atk t1 (by (repeat (first | with_reducible exact Below.refl _ _ | with_reducible assumption | with_reducible refine bdraw ?_ | with_reducible refine bdrewN ?_ _ | with_reducible refine balloc ?_ _ | with_reducible refine bset ?_ (by simp <;> omega) | with_reducible refine bstep ?_ (by assumption) | with_reducible refine btrans ?_ (by assumption))))) g9 (fun g hg => (hneA g hg).1) | exact atg (atk t2 (by (repeat (first | with_reducible exact Below.refl _ _ | with_reducible assumption | with_reducible refine bdraw ?_ | with_reducible refine bdrewN ?_ _ | with_reducible refine balloc ?_ _ | with_reducible refine bset ?_ (by simp <;> omega) | with_reducible refine bstep ?_ (by assumption) | with_reducible refine btrans ?_ (by assumption))))) g9 (fun g hg => (hneA g hg).2))))); clear hK K; (try simp only [Act.put, List.setIfInBounds_toArray, List.set_cons_zero, List.set_cons_succ, List.getElem_toArray, List.getElem_cons_zero, List.getElem_cons_succ, Array.getInternal_eq_getElem])
      obtain ⟨ou9, hou9⟩ : ∃ ou9, ou ++ [(⟨x.n, x.b.take (ctN x.b), 0⟩ : Fi)] = ou9 := ⟨_, rfl⟩
      have hn9 : (tris ou us ++ [(⟨.int .i64 x.n, .slice Ac (ctN x.b) cc, .int .i64 0⟩ : Tri)]).length = ou9.length := by rw [← hou9]; simp [htl]
      obtain ⟨Ao, co, hvv, _⟩ := o9.slAny.shape
      rw [hn9] at hvv
      subst hvv
      clear hn9
      refine wpAnyH_take (i := 11) (v := ?_) rfl (by kernel_rfl) (by kernel_rfl) (by kernel_rfl) (fun _ _ _ h => h) (Or.inl ⟨by rfl, ?_⟩) (by assumption) ?_; rotate_left; (· (intro w' hSw'; (try dsimp only at hSw'); go_simp; (try with_reducible rfl))); simp only [Act.put, List.setIfInBounds_toArray, List.set_cons_zero, List.set_cons_succ, List.getElem_toArray, List.getElem_cons_zero, List.getElem_cons_succ, Array.getInternal_eq_getElem]
      have qn8 := blkb qn7 (w' := w7.drew.alloc (.cells #[.int .i64 x.n, .slice Ac (ctN x.b) cc, .int .i64 0] 50)) (by (repeat (first | with_reducible exact Below.refl _ _ | with_reducible assumption | with_reducible refine bdraw ?_ | with_reducible refine bdrewN ?_ _ | with_reducible refine balloc ?_ _ | with_reducible refine bset ?_ (by simp <;> omega) | with_reducible refine bstep ?_ (by assumption) | with_reducible refine btrans ?_ (by assumption))))
      have e8 := blkb e7 (w' := w7.drew.alloc (.cells #[.int .i64 x.n, .slice Ac (ctN x.b) cc, .int .i64 0] 50)) (by (repeat (first | with_reducible exact Below.refl _ _ | with_reducible assumption | with_reducible refine bdraw ?_ | with_reducible refine bdrewN ?_ _ | with_reducible refine balloc ?_ _ | with_reducible refine bset ?_ (by simp <;> omega) | with_reducible refine bstep ?_ (by assumption) | with_reducible refine btrans ?_ (by assumption))))
      have qn9 := blkg qn8 g9 (fun g hg => (hneA g hg).2)
      have e9 := blkg e8 g9 (fun g hg => (hneA g hg).1)
      have xy0 : w9.cell? ⟨w1.heap.size, 0, none⟩ = some (.int .i64 room) := cell_of_row _ _ 0 _ _ _ qn9; have fy0 : w9.frozen? ⟨w1.heap.size, 0, none⟩ = false := frozen_of_row _ _ 0 _ _ qn9; have xy1 : w9.cell? ⟨w1.heap.size, 1, none⟩ = some (.slice An ou.length cn) := cell_of_row _ _ 1 _ _ _ qn9; have fy1 : w9.frozen? ⟨w1.heap.size, 1, none⟩ = false := frozen_of_row _ _ 1 _ _ qn9
      refine wpAnyH_done (by kernel_rfl) ?_ _; refine lastQ_step rfl (fun K hK => ?_); (go_simp); refine hK.out _ _ ?_; clear hK K; (try simp only [Act.put, List.setIfInBounds_toArray, List.set_cons_zero, List.set_cons_succ, List.getElem_toArray, List.getElem_cons_zero, List.getElem_cons_succ, Array.getInternal_eq_getElem])
      have hsz9 := g9.size
      (try simp only [World.size_alloc] at hsz9)
      have hsz7 : w7.drew.heap.size = w7.heap.size := rfl
      have b78 : Below w1.heap.size w7 (w7.drew.alloc (.cells #[.int .i64 x.n, .slice Ac (ctN x.b) cc, .int .i64 0] 50)) := (by (repeat (first | with_reducible exact Below.refl _ _ | with_reducible assumption | with_reducible refine bdraw ?_ | with_reducible refine bdrewN ?_ _ | with_reducible refine balloc ?_ _ | with_reducible refine bset ?_ (by simp <;> omega) | with_reducible refine bstep ?_ (by assumption) | with_reducible refine btrans ?_ (by assumption))) : Below w7.heap.size w7 (w7.drew.alloc (.cells #[.int .i64 x.n, .slice Ac (ctN x.b) cc, .int .i64 0] 50))).mono (by omega)
      have b79 : Below w1.heap.size w7 w9 := b78.trans (b9.mono (by omega))
      have hfin := (HO7.out.snoc (f := ⟨x.n, x.b.take (ctN x.b), 0⟩) (u' := .slice Ac (ctN x.b) cc) (w4 := (w7.drew.alloc (.cells #[.int .i64 x.n, .slice Ac (ctN x.b) cc, .int .i64 0] 50))) (by (repeat (first | with_reducible exact Below.refl _ _ | with_reducible assumption | with_reducible refine bdraw ?_ | with_reducible refine bdrewN ?_ _ | with_reducible refine balloc ?_ _ | with_reducible refine bset ?_ (by simp <;> omega) | with_reducible refine bstep ?_ (by assumption) | with_reducible refine btrans ?_ (by assumption)))) (by omega) (by omega) hs7 o9.tri g9).far (p := ⟨w1.heap.size, 1, none⟩) (z := .slice Ao ou9.length co) (by simp; omega) (by simp)
      rw [hou9] at hfin
      have o8 : Own (slE u8E) (HiM (w1.heap.size + 1) v7.ownBlock (Value.slice An ou.length cn).ownBlock) (w7.drew.alloc (.cells #[.int .i64 x.n, .slice Ac (ctN x.b) cc, .int .i64 0] 50)) (w1.heap.size + 1) 25 v7 (rec ++ ctL x.b) := o7.below (by (repeat (first | with_reducible exact Below.refl _ _ | with_reducible assumption | with_reducible refine bdraw ?_ | with_reducible refine bdrewN ?_ _ | with_reducible refine balloc ?_ _ | with_reducible refine bset ?_ (by simp <;> omega) | with_reducible refine bstep ?_ (by assumption) | with_reducible refine btrans ?_ (by assumption)))) (Nat.le_refl _)
      have orc8 := (o8.pastRow g9 (fun g hg => hne7 g hg) hv9).notInM (g := w1.heap.size) (o := 1) (u := .slice Ao ou9.length co) (by omega)
      obtain ⟨_, w2s, _, f4, _⟩ := HWS.out
      have hrc8 : rcK l (k + 1) = rec ++ ctL x.b := by rw [w2s, HST.out.2.2]
      have hou8 : ouK l (k + 1) = ou9 := by rw [HWS.out.2.2.1, HST.out.2.1, hou9]
      have HX := Lib.hid (And.intro f4 (And.intro hou8 hrc8))
      have qo9 := heap_setCell_same w9 w1.heap.size 1 _ _ (.slice Ao ou9.length co) qn9
      have u9 := (heap_setCell_other w9 ⟨w1.heap.size, 1, none⟩ wr.heap.size (.slice Ao ou9.length co) (by simp; omega)).trans e9
      have hbE : Below w1.heap.size W (w9.setCell ⟨w1.heap.size, 1, none⟩ (.slice Ao ou9.length co)) := bset (hb7w.trans b79) (Nat.le_refl _)
      have z9 := (hbE.block (w.heap.size + 1) (by omega)).trans HQ.out.2
      have hz79 := b79.size
      have hsE : (w9.setCell ⟨w1.heap.size, 1, none⟩ (.slice Ao ou9.length co)).heap.size = w9.heap.size := by simp
      clear xy0 xy1 fy0 fy1 HWS w2s f4 hrc8 hou8 o8 o9 g9 b9 HO7 o7 t0 t1 t2 qn8 e8 qn9 e9 hv9 hou9 hHeld
      have xu0 : (w9.setCell ⟨w1.heap.size, 1, none⟩ (.slice Ao ou9.length co)).cell? ⟨wr.heap.size, 0, none⟩ = some (.int .i64 x.n) := cell_of_row _ _ 0 _ _ _ u9; have fu0 : (w9.setCell ⟨w1.heap.size, 1, none⟩ (.slice Ao ou9.length co)).frozen? ⟨wr.heap.size, 0, none⟩ = false := frozen_of_row _ _ 0 _ _ u9; have xu1 : (w9.setCell ⟨w1.heap.size, 1, none⟩ (.slice Ao ou9.length co)).cell? ⟨wr.heap.size, 1, none⟩ = some (.slice Av x.b.length cv) := cell_of_row _ _ 1 _ _ _ u9; have fu1 : (w9.setCell ⟨w1.heap.size, 1, none⟩ (.slice Ao ou9.length co)).frozen? ⟨wr.heap.size, 1, none⟩ = false := frozen_of_row _ _ 1 _ _ u9; have xu2 : (w9.setCell ⟨w1.heap.size, 1, none⟩ (.slice Ao ou9.length co)).cell? ⟨wr.heap.size, 2, none⟩ = some (.int .i64 x.s) := cell_of_row _ _ 2 _ _ _ u9; have fu2 : (w9.setCell ⟨w1.heap.size, 1, none⟩ (.slice Ao ou9.length co)).frozen? ⟨wr.heap.size, 2, none⟩ = false := frozen_of_row _ _ 2 _ _ u9
      by_cases htn : ctN x.b < x.b.length
      · have dt : decide ((ctN x.b : Int) < (x.b.length : Int)) = true := decide_eq_true (by omega)
        have dt2 : decide (ctN x.b < x.b.length) = true := decide_eq_true htn
        have htk : tnK l (k + 1) = true := by rw [HX.out.1]; exact decide_eq_true htn
        obtain ⟨g1, g2⟩ := tnK_end htk (by omega)
        rw [HX.out.2.2] at g1
        rw [HX.out.2.1] at g2
        have hfo := formed_ouK (k + 1) HE.out
        rw [HX.out.2.1] at hfo
        have HFI := Lib.hid (And.intro hfo (And.intro g2 g1))
        have so9 := hfin.sl
        have orc9 := orc8.mono (S' := HiN (w1.heap.size + 1) v7.ownBlock) (fun b fr h _ => ⟨h.1, h.2.1, h.2.2.1⟩)
        clear htk g1 g2 hfo htn hfin orc8
        have hsyE : syE room ou9 = 0 ∧ syF room ou9 = scF l ∧ syR room ou9 = room := by
          obtain ⟨f1, f2, _⟩ := HFI.out
          simp [syE, syF, syR, f1, f2]
        have hC9 := (rsync_c (room := room) so9).mono fun _ _ h => (Ans.s h).s
        rw [hsyE.1, hsyE.2.1, hsyE.2.2] at hC9
        have HC9 := Lib.hid hC9
        obtain ⟨sf, hsf⟩ : ∃ sf, scF l = sf := ⟨_, rfl⟩
        rw [hsf] at HC9 HR
        clear hC9 hsyE hsf
        have xo0 : (w9.setCell ⟨w1.heap.size, 1, none⟩ (.slice Ao ou9.length co)).cell? ⟨w1.heap.size, 0, none⟩ = some (.int .i64 room) := cell_of_row _ _ 0 _ _ _ qo9; have fo0 : (w9.setCell ⟨w1.heap.size, 1, none⟩ (.slice Ao ou9.length co)).frozen? ⟨w1.heap.size, 0, none⟩ = false := frozen_of_row _ _ 0 _ _ qo9; have xo1 : (w9.setCell ⟨w1.heap.size, 1, none⟩ (.slice Ao ou9.length co)).cell? ⟨w1.heap.size, 1, none⟩ = some (.slice Ao ou9.length co) := cell_of_row _ _ 1 _ _ _ qo9; have fo1 : (w9.setCell ⟨w1.heap.size, 1, none⟩ (.slice Ao ou9.length co)).frozen? ⟨w1.heap.size, 1, none⟩ = false := frozen_of_row _ _ 1 _ _ qo9
        go_wp2_with fail
        refine HC9.out.mono ?_
        rintro e w10 ⟨A10, c10, rfl, s10, b10⟩
        have qo10 := blkb qo9 b10
        have z10 := blkb z9 b10
        have hz10 := b10.size
        clear xo0 xo1 fo0 fo1
        have xo0 : w10.cell? ⟨w1.heap.size, 0, none⟩ = some (.int .i64 room) := cell_of_row _ _ 0 _ _ _ qo10; have fo0 : w10.frozen? ⟨w1.heap.size, 0, none⟩ = false := frozen_of_row _ _ 0 _ _ qo10; have xo1 : w10.cell? ⟨w1.heap.size, 1, none⟩ = some (.slice Ao ou9.length co) := cell_of_row _ _ 1 _ _ _ qo10; have fo1 : w10.frozen? ⟨w1.heap.size, 1, none⟩ = false := frozen_of_row _ _ 1 _ _ qo10
        have xz0 : w10.cell? ⟨w.heap.size + 1, 0, none⟩ = some (.int .i64 0) := cell_of_row _ _ 0 _ _ _ z10; have fz0 : w10.frozen? ⟨w.heap.size + 1, 0, none⟩ = false := frozen_of_row _ _ 0 _ _ z10; have xz1 : w10.cell? ⟨w.heap.size + 1, 1, none⟩ = some (.slice none 0 0) := cell_of_row _ _ 1 _ _ _ z10; have fz1 : w10.frozen? ⟨w.heap.size + 1, 1, none⟩ = false := frozen_of_row _ _ 1 _ _ z10
        have bw10 : Below w.heap.size w w10 := bw1.trans ((bW1.trans (hbE.trans (b10.mono (by omega)))).mono (by omega))
        go_wp2_with fail
        go_region
        all_goals
          go_wp2
          refine bodyPost_ret (results_tmp_cell_tmp rfl _ _ (w.heap.size + 1) 24 #[.int .i64 room, .slice A10 sf.length c10] (0, 0) _ rfl (set2 ((heap_setCell_other _ _ _ _ (by simp; omega)).trans ((heap_setCell_other _ _ _ _ (by simp; omega)).trans z10))) Tryd.underlying24 rfl (by kernel_rfl)) rfl ?_
          refine ⟨_, _, by rw [HR.out.1, HR.out.2.2.2]; rfl, ?_, ?_, by (repeat (first | with_reducible exact Below.refl _ _ | with_reducible assumption | with_reducible refine bdraw ?_ | with_reducible refine bdrewN ?_ _ | with_reducible refine balloc ?_ _ | with_reducible refine bset ?_ (by simp <;> omega) | with_reducible refine bstep ?_ (by assumption) | with_reducible refine btrans ?_ (by assumption)))⟩
          · rw [HR.out.2.1, ← HFI.out.2.2]
            have o10 := orc9.below b10 (Nat.le_refl _)
            exact (odraw ((((o10.notIn (g := w1.heap.size) (o := 0) (u := .int .i64 room) (by omega)).notIn (g := w1.heap.size) (o := 1) (u := .slice A10 sf.length c10) (by omega)).notIn (g := w.heap.size + 1) (o := 0) (u := .int .i64 room) (by omega)).notIn (g := w.heap.size + 1) (o := 1) (u := .slice A10 sf.length c10) (by omega))).slHi.mono (fun b fr h _ => ⟨by have := h.1; omega, h.2⟩)
          · rw [HR.out.2.2.1]
            exact (sdraw (sfar (sfar (sfar (sfar s10 (p := ⟨w1.heap.size, 0, none⟩) (u := .int .i64 room) (by simp; omega)) (p := ⟨w1.heap.size, 1, none⟩) (u := .slice A10 sf.length c10) (by simp; omega)) (p := ⟨w.heap.size + 1, 0, none⟩) (u := .int .i64 room) (by simp; omega)) (p := ⟨w.heap.size + 1, 1, none⟩) (u := .slice A10 sf.length c10) (by simp; omega))).mono (fun b fr h _ => ⟨by have := h.1; omega, h.2⟩)
      · have dt : decide ((ctN x.b : Int) < (x.b.length : Int)) = false := decide_eq_false (by omega)
        have dt2 : decide (ctN x.b < x.b.length) = false := decide_eq_false htn
        have htk : tnK l (k + 1) = false := by rw [HX.out.1]; exact decide_eq_false htn
        have HTK := Lib.hid htk
        clear htk htn
        go_wp2
        go_roundw
        case rel => exact ⟨k + 1, _, ou9, _, rec ++ ctL x.b, by omega, by go_num, Lib.hid ⟨HTK.out, HX.out.2.1, HX.out.2.2⟩, orc8, Lib.hid qo9, hfin, hbE⟩
        case measure => simp [intOf]; omega
    · have hkI : ¬ (k : Int) < (l.length : Int) := by omega
      have hkl : k = l.length := by omega
      subst hkl
      have hou := HST.out.2.1
      have hrc := HST.out.2.2
      have hsy := ouK_all l
      have hfo := formed_ouK l.length HE.out
      rw [hou] at hsy hfo
      rw [rcK_all] at hrc
      have HFI := Lib.hid (And.intro hfo (And.intro hsy hrc.symm))
      have z9 := (hbr.block (w.heap.size + 1) (by omega)).trans HQ.out.2
      have so9 := ob.sl
      have orc9 := orec.mono (S' := HiN (w1.heap.size + 1) u5.ownBlock) (fun b fr h _ => ⟨h.1, h.2.1, h.2.2.1⟩)
      have hbE := hbr
      have qo9 := hqn
      clear hou hrc hsy hfo hcn1 hqn ob orec
      obtain ⟨ou9, hou9⟩ : ∃ ou9, ou = ou9 := ⟨_, rfl⟩
      subst hou9
      have hsyE : syE room ou = 0 ∧ syF room ou = scF l ∧ syR room ou = room := by
        obtain ⟨f1, f2, _⟩ := HFI.out
        simp [syE, syF, syR, f1, f2]
      have hC9 := (rsync_c (room := room) so9).mono fun _ _ h => (Ans.s h).s
      rw [hsyE.1, hsyE.2.1, hsyE.2.2] at hC9
      have HC9 := Lib.hid hC9
      obtain ⟨sf, hsf⟩ : ∃ sf, scF l = sf := ⟨_, rfl⟩
      rw [hsf] at HC9 HR
      clear hC9 hsyE hsf
      have xo0 : wr.cell? ⟨w1.heap.size, 0, none⟩ = some (.int .i64 room) := cell_of_row _ _ 0 _ _ _ qo9; have fo0 : wr.frozen? ⟨w1.heap.size, 0, none⟩ = false := frozen_of_row _ _ 0 _ _ qo9; have xo1 : wr.cell? ⟨w1.heap.size, 1, none⟩ = some (.slice An ou.length cn) := cell_of_row _ _ 1 _ _ _ qo9; have fo1 : wr.frozen? ⟨w1.heap.size, 1, none⟩ = false := frozen_of_row _ _ 1 _ _ qo9
      go_wp2_with fail
      refine HC9.out.mono ?_
      rintro e w10 ⟨A10, c10, rfl, s10, b10⟩
      have qo10 := blkb qo9 b10
      have z10 := blkb z9 b10
      have hz10 := b10.size
      clear xo0 xo1 fo0 fo1
      have xo0 : w10.cell? ⟨w1.heap.size, 0, none⟩ = some (.int .i64 room) := cell_of_row _ _ 0 _ _ _ qo10; have fo0 : w10.frozen? ⟨w1.heap.size, 0, none⟩ = false := frozen_of_row _ _ 0 _ _ qo10; have xo1 : w10.cell? ⟨w1.heap.size, 1, none⟩ = some (.slice An ou.length cn) := cell_of_row _ _ 1 _ _ _ qo10; have fo1 : w10.frozen? ⟨w1.heap.size, 1, none⟩ = false := frozen_of_row _ _ 1 _ _ qo10
      have xz0 : w10.cell? ⟨w.heap.size + 1, 0, none⟩ = some (.int .i64 0) := cell_of_row _ _ 0 _ _ _ z10; have fz0 : w10.frozen? ⟨w.heap.size + 1, 0, none⟩ = false := frozen_of_row _ _ 0 _ _ z10; have xz1 : w10.cell? ⟨w.heap.size + 1, 1, none⟩ = some (.slice none 0 0) := cell_of_row _ _ 1 _ _ _ z10; have fz1 : w10.frozen? ⟨w.heap.size + 1, 1, none⟩ = false := frozen_of_row _ _ 1 _ _ z10
      have bw10 : Below w.heap.size w w10 := bw1.trans ((bW1.trans (hbE.trans (b10.mono (by omega)))).mono (by omega))
      go_wp2_with fail
      go_region
      all_goals
        go_wp2
        refine bodyPost_ret (results_tmp_cell_tmp rfl _ _ (w.heap.size + 1) 24 #[.int .i64 room, .slice A10 sf.length c10] (0, 0) _ rfl (set2 ((heap_setCell_other _ _ _ _ (by simp; omega)).trans ((heap_setCell_other _ _ _ _ (by simp; omega)).trans z10))) Tryd.underlying24 rfl (by kernel_rfl)) rfl ?_
        refine ⟨_, _, by rw [HR.out.1, HR.out.2.2.2]; rfl, ?_, ?_, by (repeat (first | with_reducible exact Below.refl _ _ | with_reducible assumption | with_reducible refine bdraw ?_ | with_reducible refine bdrewN ?_ _ | with_reducible refine balloc ?_ _ | with_reducible refine bset ?_ (by simp <;> omega) | with_reducible refine bstep ?_ (by assumption) | with_reducible refine btrans ?_ (by assumption)))⟩
        · rw [HR.out.2.1, ← HFI.out.2.2]
          have o10 := orc9.below b10 (Nat.le_refl _)
          exact (odraw ((((o10.notIn (g := w1.heap.size) (o := 0) (u := .int .i64 room) (by omega)).notIn (g := w1.heap.size) (o := 1) (u := .slice A10 sf.length c10) (by omega)).notIn (g := w.heap.size + 1) (o := 0) (u := .int .i64 room) (by omega)).notIn (g := w.heap.size + 1) (o := 1) (u := .slice A10 sf.length c10) (by omega))).slHi.mono (fun b fr h _ => ⟨by have := h.1; omega, h.2⟩)
        · rw [HR.out.2.2.1]
          exact (sdraw (sfar (sfar (sfar (sfar s10 (p := ⟨w1.heap.size, 0, none⟩) (u := .int .i64 room) (by simp; omega)) (p := ⟨w1.heap.size, 1, none⟩) (u := .slice A10 sf.length c10) (by simp; omega)) (p := ⟨w.heap.size + 1, 0, none⟩) (u := .int .i64 room) (by simp; omega)) (p := ⟨w.heap.size + 1, 1, none⟩) (u := .slice A10 sf.length c10) (by simp; omega))).mono (fun b fr h _ => ⟨by have := h.1; omega, h.2⟩)
end Go.Proofs.YtbahiohlhhdkcaaDoor
