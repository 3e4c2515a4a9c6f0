/- The disk's laws, walked: DiskApart. -/
import Derived.Test.YtnblnlbchcepjaaDku
set_option linter.unusedSimpArgs false
namespace Go.Proofs.Ytnblnlbchcepjaa
open Go.RowKit

/-- one file's number is another one -/
theorem FP.numW {B : Nat} {w : World} {g cap k i n : Nat} {fs : List Fi} {us : List Value} {f : Fi} {s : Int} (h : FP (BW B) B w (.slice (some ⟨g, 0, none⟩) n cap) fs us k) (hf : fs[i]? = some f) (hk : i < k) :
    FP (BW B) B (w.setCell ⟨g, i * 3, none⟩ (.int .i64 s)) (.slice (some ⟨g, 0, none⟩) n cap) (fs.set i ⟨s, f.b, f.s⟩) us k := by
  have hi := (List.getElem?_eq_some_iff.1 hf).1
  obtain ⟨u, hu⟩ := h.get hf
  obtain ⟨hg1, hg2⟩ := h.row.lt g rfl
  have hus : us.set i u = us := set_self hu
  have hoth : ∀ b, b ≠ g → (w.setCell ⟨g, i * 3, none⟩ (.int .i64 s)).heap[b]? = w.heap[b]? := fun b hb => heap_setCell_other w ⟨g, i * 3, none⟩ b _ hb
  have key := h.put (w' := w.setCell ⟨g, i * 3, none⟩ (.int .i64 s)) (BW.ok B) (i := i) (k' := k) (f' := ⟨s, f.b, f.s⟩) (u' := u) hi (.inl ⟨rfl, hk⟩) ?_ ?_ (fun b hb => hoth b (by omega)) (fun j uj gj huj hj hji hgj => ?_) (fun g' hg' => h.rn i u g' hu hk hg')
  · rwa [hus] at key
  · have := h.row.triSet (tris_get hf hu) 0 (.int .i64 s) (x' := ⟨.int .i64 s, u, .int .i64 f.s⟩) rfl rfl (oneCell_slice ((BW.ok B).sl (h.own i u f hu hf hk))) rfl (by omega)
    rw [tris_set fs us i ⟨s, f.b, f.s⟩ u] at this
    exact this
  · exact (BW.ok B).keep (h.own i u f hu hf hk) fun g' hg' => hoth g' (fun e => h.rn i u g' hu hk hg' (by rw [e]; rfl))
  · exact ⟨hoth gj (fun e => h.rn j uj gj huj hj hgj (by rw [e]; rfl)), fun e => hji (h.ne j i uj u gj huj hu hj hk hgj e)⟩

attribute [local go_sem] u8_flip
set_option maxRecDepth 100000 in
set_option maxHeartbeats 8000000 in
theorem diskapart_c {S S' : Foot} {v u : Value} {room n : Int} {l : List Fi} {b : List UInt8} {w : World} (hp : Sl fiE S w v l) (hq : Sl u8E S' w u b) :
    Calls Try.prog 5 #[.agg #[.int .i64 room, v], .int .i64 n, u] w fun e w' => e = .returned (.bool true) ∧ Below w.heap.size w w' := by
  have hp := hp.any
  have hq := hq.any
  obtain ⟨A, cap, rfl, hc1, hc2, _⟩ := hp.shape
  obtain ⟨Ab, cb, rfl, hc3, hc4, _⟩ := hq.shape
  unfold maxLen at hc2 hc4
  have qd := heap_alloc_new w (.cells #[.int .i64 room, .slice A l.length cap] 24)
  go_enter Try.func5, Try.ntmps5
  go_wp2_with fail
  refine (alive_c).mono ?_
  rintro e w1 ⟨rfl, b1⟩
  replace qd := blkb qd (w' := w1) b1
  have xd0 : w1.cell? ⟨w.heap.size, 0, none⟩ = some (.int .i64 room) := cell_of_row _ _ 0 _ _ _ qd; have fd0 : w1.frozen? ⟨w.heap.size, 0, none⟩ = false := frozen_of_row _ _ 0 _ _ qd; have xd1 : w1.cell? ⟨w.heap.size, 1, none⟩ = some (.slice A l.length cap) := cell_of_row _ _ 1 _ _ _ qd; have fd1 : w1.frozen? ⟨w.heap.size, 1, none⟩ = false := frozen_of_row _ _ 1 _ _ qd
  have hz1 := b1.size
  simp only [World.size_alloc] at hz1
  go_wp2_with fail
  refine (append_c (room := room) (n := n) (hp.below (by (repeat (first | with_reducible exact Below.refl _ _ | with_reducible assumption | with_reducible refine bdraw ?_ | with_reducible refine bdrewN ?_ _ | with_reducible refine balloc ?_ _ | with_reducible refine bset ?_ (by simp <;> omega) | with_reducible refine bstep ?_ (by assumption) | with_reducible refine btrans ?_ (by assumption)))) (Nat.le_refl _)) (hq.below (by (repeat (first | with_reducible exact Below.refl _ _ | with_reducible assumption | with_reducible refine bdraw ?_ | with_reducible refine bdrewN ?_ _ | with_reducible refine balloc ?_ _ | with_reducible refine bset ?_ (by simp <;> omega) | with_reducible refine bstep ?_ (by assumption) | with_reducible refine btrans ?_ (by assumption)))) (Nat.le_refl _))).mono ?_
  rintro e w2 ⟨v2, us, rfl, hF, b2⟩
  obtain ⟨A2, c2, hv2, hc5, hc6, _⟩ := (hF.sl (BO.ok _)).shape
  subst hv2
  unfold maxLen at hc6
  have hz2 := b2.size
  have HUU := Lib.hid (fun (j : Nat) (u : Value) (g' : Nat) (hu : us[j]? = some u) (hg' : u.ownBlock = some g') => (hF.lt (BO.ok _) hu (by have := (List.getElem?_eq_some_iff.1 hu).1; rw [hF.len] at this; exact this) hg').2)
  have HGG := Lib.hid (fun (g' : Nat) (hg' : (Value.slice A2 (apF room l n b).length c2).ownBlock = some g') => (hF.row.lt g' hg').2)
  replace qd := blkb qd (w' := (w2.alloc (.cells #[.int .i64 (apR room l n b), .slice A2 (apF room l n b).length c2] 24))) (by (repeat (first | with_reducible exact Below.refl _ _ | with_reducible assumption | with_reducible refine bdraw ?_ | with_reducible refine bdrewN ?_ _ | with_reducible refine balloc ?_ _ | with_reducible refine bset ?_ (by simp <;> omega) | with_reducible refine bstep ?_ (by assumption) | with_reducible refine btrans ?_ (by assumption))))
  have qx := heap_alloc_new w2 (.cells #[.int .i64 (apR room l n b), .slice A2 (apF room l n b).length c2] 24)
  have hF2 := hF.w.below (w' := (w2.alloc (.cells #[.int .i64 (apR room l n b), .slice A2 (apF room l n b).length c2] 24))) (BW.ok _) (by (repeat (first | with_reducible exact Below.refl _ _ | with_reducible assumption | with_reducible refine bdraw ?_ | with_reducible refine bdrewN ?_ _ | with_reducible refine balloc ?_ _ | with_reducible refine bset ?_ (by simp <;> omega) | with_reducible refine bstep ?_ (by assumption) | with_reducible refine btrans ?_ (by assumption)))) hz2
  clear xd0 xd1 fd0 fd1 hF
  have xd0 : (w2.alloc (.cells #[.int .i64 (apR room l n b), .slice A2 (apF room l n b).length c2] 24)).cell? ⟨w.heap.size, 0, none⟩ = some (.int .i64 room) := cell_of_row _ _ 0 _ _ _ qd; have fd0 : (w2.alloc (.cells #[.int .i64 (apR room l n b), .slice A2 (apF room l n b).length c2] 24)).frozen? ⟨w.heap.size, 0, none⟩ = false := frozen_of_row _ _ 0 _ _ qd; have xd1 : (w2.alloc (.cells #[.int .i64 (apR room l n b), .slice A2 (apF room l n b).length c2] 24)).cell? ⟨w.heap.size, 1, none⟩ = some (.slice A l.length cap) := cell_of_row _ _ 1 _ _ _ qd; have fd1 : (w2.alloc (.cells #[.int .i64 (apR room l n b), .slice A2 (apF room l n b).length c2] 24)).frozen? ⟨w.heap.size, 1, none⟩ = false := frozen_of_row _ _ 1 _ _ qd
  go_wp2_with fail
  refine (append_c (room := room) (n := n) (hp.below (by (repeat (first | with_reducible exact Below.refl _ _ | with_reducible assumption | with_reducible refine bdraw ?_ | with_reducible refine bdrewN ?_ _ | with_reducible refine balloc ?_ _ | with_reducible refine bset ?_ (by simp <;> omega) | with_reducible refine bstep ?_ (by assumption) | with_reducible refine btrans ?_ (by assumption)))) (Nat.le_refl _)) (hq.below (by (repeat (first | with_reducible exact Below.refl _ _ | with_reducible assumption | with_reducible refine bdraw ?_ | with_reducible refine bdrewN ?_ _ | with_reducible refine balloc ?_ _ | with_reducible refine bset ?_ (by simp <;> omega) | with_reducible refine bstep ?_ (by assumption) | with_reducible refine btrans ?_ (by assumption)))) (Nat.le_refl _))).mono ?_
  intro e w3 h
  obtain ⟨v3, he, sy, b3⟩ := h.s
  subst he
  obtain ⟨A3, c3, hv3, _⟩ := sy.shape
  subst hv3
  clear h
  have hz3 := b3.size
  have bWY : Below w.heap.size w (w3.alloc (.cells #[.int .i64 (apR room l n b), .slice A3 (apF room l n b).length c3] 24)) := by (repeat (first | with_reducible exact Below.refl _ _ | with_reducible assumption | with_reducible refine bdraw ?_ | with_reducible refine bdrewN ?_ _ | with_reducible refine balloc ?_ _ | with_reducible refine bset ?_ (by simp <;> omega) | with_reducible refine bstep ?_ (by assumption) | with_reducible refine btrans ?_ (by assumption)))
  replace qd := blkb qd (w' := (w3.alloc (.cells #[.int .i64 (apR room l n b), .slice A3 (apF room l n b).length c3] 24))) (by (repeat (first | with_reducible exact Below.refl _ _ | with_reducible assumption | with_reducible refine bdraw ?_ | with_reducible refine bdrewN ?_ _ | with_reducible refine balloc ?_ _ | with_reducible refine bset ?_ (by simp <;> omega) | with_reducible refine bstep ?_ (by assumption) | with_reducible refine btrans ?_ (by assumption))))
  replace qx := blkb qx (w' := (w3.alloc (.cells #[.int .i64 (apR room l n b), .slice A3 (apF room l n b).length c3] 24))) (by (repeat (first | with_reducible exact Below.refl _ _ | with_reducible assumption | with_reducible refine bdraw ?_ | with_reducible refine bdrewN ?_ _ | with_reducible refine balloc ?_ _ | with_reducible refine bset ?_ (by simp <;> omega) | with_reducible refine bstep ?_ (by assumption) | with_reducible refine btrans ?_ (by assumption))))
  have qy := heap_alloc_new w3 (.cells #[.int .i64 (apR room l n b), .slice A3 (apF room l n b).length c3] 24)
  have hF3 := hF2.below (w' := (w3.alloc (.cells #[.int .i64 (apR room l n b), .slice A3 (apF room l n b).length c3] 24))) (BW.ok _) (by (repeat (first | with_reducible exact Below.refl _ _ | with_reducible assumption | with_reducible refine bdraw ?_ | with_reducible refine bdrewN ?_ _ | with_reducible refine balloc ?_ _ | with_reducible refine bset ?_ (by simp <;> omega) | with_reducible refine bstep ?_ (by assumption) | with_reducible refine btrans ?_ (by assumption)))) (by simp; omega)
  have sy3 := sy.below (w' := (w3.alloc (.cells #[.int .i64 (apR room l n b), .slice A3 (apF room l n b).length c3] 24))) ((Below.refl _ _).alloc (Nat.le_refl _) _) (Nat.le_refl _)
  have hpL := ((hp.lo.below (w' := (w3.alloc (.cells #[.int .i64 (apR room l n b), .slice A3 (apF room l n b).length c3] 24))) (by (repeat (first | with_reducible exact Below.refl _ _ | with_reducible assumption | with_reducible refine bdraw ?_ | with_reducible refine bdrewN ?_ _ | with_reducible refine balloc ?_ _ | with_reducible refine bset ?_ (by simp <;> omega) | with_reducible refine bstep ?_ (by assumption) | with_reducible refine btrans ?_ (by assumption)))) (Nat.le_refl _)).mono (S' := Lo w1.heap.size) (fun b fr h _ => by unfold Lo at *; omega))
  have hqL := ((hq.lo.below (w' := (w3.alloc (.cells #[.int .i64 (apR room l n b), .slice A3 (apF room l n b).length c3] 24))) (by (repeat (first | with_reducible exact Below.refl _ _ | with_reducible assumption | with_reducible refine bdraw ?_ | with_reducible refine bdrewN ?_ _ | with_reducible refine balloc ?_ _ | with_reducible refine bset ?_ (by simp <;> omega) | with_reducible refine bstep ?_ (by assumption) | with_reducible refine btrans ?_ (by assumption)))) (Nat.le_refl _)).mono (S' := Lo w1.heap.size) (fun b fr h _ => by unfold Lo at *; omega))
  simp only [World.size_alloc] at hz3 sy3
  have hzW : w2.heap.size + 1 < ((w3.alloc (.cells #[.int .i64 (apR room l n b), .slice A3 (apF room l n b).length c3] 24))).heap.size := by simp; omega
  have hyl : w3.heap.size < ((w3.alloc (.cells #[.int .i64 (apR room l n b), .slice A3 (apF room l n b).length c3] 24))).heap.size := by simp
  clear xd0 xd1 fd0 fd1 hF2 sy hp hq b1 b2 b3
  have xx0 : (w3.alloc (.cells #[.int .i64 (apR room l n b), .slice A3 (apF room l n b).length c3] 24)).cell? ⟨w2.heap.size, 0, none⟩ = some (.int .i64 (apR room l n b)) := cell_of_row _ _ 0 _ _ _ qx; have fx0 : (w3.alloc (.cells #[.int .i64 (apR room l n b), .slice A3 (apF room l n b).length c3] 24)).frozen? ⟨w2.heap.size, 0, none⟩ = false := frozen_of_row _ _ 0 _ _ qx; have xx1 : (w3.alloc (.cells #[.int .i64 (apR room l n b), .slice A3 (apF room l n b).length c3] 24)).cell? ⟨w2.heap.size, 1, none⟩ = some (.slice A2 (apF room l n b).length c2) := cell_of_row _ _ 1 _ _ _ qx; have fx1 : (w3.alloc (.cells #[.int .i64 (apR room l n b), .slice A3 (apF room l n b).length c3] 24)).frozen? ⟨w2.heap.size, 1, none⟩ = false := frozen_of_row _ _ 1 _ _ qx
  go_wp2_with fail
  clear xx0 xx1 fx0 fx1
  generalize w3.alloc (.cells #[.int .i64 (apR room l n b), .slice A3 (apF room l n b).length c3] 24) = W at *
  go_loopw [11, 12] (fun iv _ wr => ∃ (k : Nat) (fs : List Fi), k ≤ (apF room l n b).length ∧ iv = .int .i64 k ∧ fs.length = (apF room l n b).length ∧ FP (BW w1.heap.size) w1.heap.size wr (.slice A2 (apF room l n b).length c2) fs us fs.length ∧ Below w1.heap.size W wr ∧ Hid (∀ b, w2.heap.size ≤ b → wr.heap[b]? = W.heap[b]?)) (fun iv _ _ => (apF room l n b).length - (intOf iv).toNat)
  case atStart => exact ⟨0, apF room l n b, Nat.zero_le _, by go_num, rfl, hF3, Below.refl _ _, Lib.hid (fun _ _ => rfl)⟩
  case round =>
    obtain ⟨k, fs, hk, rfl, hfl, hF, hB, HM⟩ := hrel
    have qxr := (HM.out w2.heap.size (Nat.le_refl _)).trans qx
    have xx0 : wr.cell? ⟨w2.heap.size, 0, none⟩ = some (.int .i64 (apR room l n b)) := cell_of_row _ _ 0 _ _ _ qxr; have fx0 : wr.frozen? ⟨w2.heap.size, 0, none⟩ = false := frozen_of_row _ _ 0 _ _ qxr; have xx1 : wr.cell? ⟨w2.heap.size, 1, none⟩ = some (.slice A2 (apF room l n b).length c2) := cell_of_row _ _ 1 _ _ _ qxr; have fx1 : wr.frozen? ⟨w2.heap.size, 1, none⟩ = false := frozen_of_row _ _ 1 _ _ qxr
    by_cases hlt : k < (apF room l n b).length
    · have hkI : (k : Int) < ((apF room l n b).length : Int) := by omega
      have hk0 : (0 : Int) ≤ (k : Int) := by omega
      have hkf : k < fs.length := by omega
      obtain ⟨uu, hu⟩ := hF.get (List.getElem?_eq_getElem hkf)
      obtain ⟨hbs, Au, cu, rfl, hAu⟩ := id (hF.own k uu _ hu (List.getElem?_eq_getElem hkf) hkf)
      obtain ⟨_, _, e, hcu1, hcu2, hcu3⟩ := hbs.shape
      injection e with e1 e0 e2
      subst e1 e2
      clear e0
      unfold maxLen at hcu2
      obtain ⟨g, rfl, hg1, hg2⟩ := hF.row.form3 (by omega)
      have hgM := HGG.out g rfl
      have HN : ∃ N, fs[k].b.length = N := ⟨_, rfl⟩
      obtain ⟨N, hN⟩ := HN
      have hst : ∃ f, fs[k]? = some f ∧ f.b.length = N := ⟨_, List.getElem?_eq_getElem hkf, hN⟩
      rw [hN] at hu hcu1
      clear hbs hAu hcu3 hN
      go_wp2_with fail
      go_loopw [12] (fun jv wr' => ∃ (j : Nat) (fs' : List Fi), j ≤ N ∧ jv = .int .i64 j ∧ fs'.length = (apF room l n b).length ∧ (∃ f, fs'[k]? = some f ∧ f.b.length = N) ∧ FP (BW w1.heap.size) w1.heap.size wr' (.slice (some ⟨g, 0, none⟩) (apF room l n b).length c2) fs' us fs'.length ∧ Below w1.heap.size W wr' ∧ Hid (∀ b, w2.heap.size ≤ b → wr'.heap[b]? = W.heap[b]?)) (fun jv _ => N - (intOf jv).toNat)
      case atStart => exact ⟨0, fs, Nat.zero_le _, by go_num, hfl, hst, hF, hB, HM⟩
      case round =>
        clear hF hB HM qxr xx0 xx1 fx0 fx1 hst
        obtain ⟨j, fs1, hj, rfl, hfl1, ⟨f, hf, hfN⟩, hF, hB, HM⟩ := hrel
        have qxr := (HM.out w2.heap.size (Nat.le_refl _)).trans qx
        have xx0 : wr.cell? ⟨w2.heap.size, 0, none⟩ = some (.int .i64 (apR room l n b)) := cell_of_row _ _ 0 _ _ _ qxr; have fx0 : wr.frozen? ⟨w2.heap.size, 0, none⟩ = false := frozen_of_row _ _ 0 _ _ qxr; have xx1 : wr.cell? ⟨w2.heap.size, 1, none⟩ = some (.slice (some ⟨g, 0, none⟩) (apF room l n b).length c2) := cell_of_row _ _ 1 _ _ _ qxr; have fx1 : wr.frozen? ⟨w2.heap.size, 1, none⟩ = false := frozen_of_row _ _ 1 _ _ qxr
        have hk1 : k < fs1.length := by omega
        obtain ⟨a0, a1, _⟩ := hF.row.tri3 (tris_get hf hu)
        have ac0 := a0.cell
        have ac1 := a1.cell
        have hfz0 := hF.row.free3 (k * 3)
        clear a0 a1
        by_cases hjl : j < N
        · have hjI : (j : Int) < (N : Int) := by omega
          have hj0 : (0 : Int) ≤ (j : Int) := by omega
          have hjf : j < f.b.length := by omega
          obtain ⟨y, rfl, hyg, hy1, hy2, hat, hF3'⟩ := hF.byteW (x := xr f.b[j] 255) hf hu hk1 hjf
          have hyM := HUU.out k _ y hu rfl
          have hc := hat.cell
          have hfz := hat.frozen (fun _ _ h => h)
          have HF3 := Lib.hid hF3'
          clear hat hF3' hF
          generalize f.b[j] = xb at *
          go_wp2
          go_roundw
          case rel =>
            refine ⟨j + 1, fs1.set k ⟨f.n, f.b.set j (xr xb 255), f.s⟩, by omega, by go_num, by rw [List.length_set]; exact hfl1, ⟨_, List.getElem?_set_self hk1, by simp [hfN]⟩, by rw [List.length_set]; exact HF3.out, hB.setCell (by simp; omega) _, Lib.hid fun b hb => (heap_setCell_other _ _ _ _ (by simp; omega)).trans (HM.out b hb)⟩
          case measure => simp [intOf]; omega
        · have hjI : ¬ (j : Int) < (N : Int) := by omega
          have HF3 := Lib.hid (hF.numW (s := -7) hf hk1)
          clear hF
          go_wp2
          go_roundw
          case rel =>
            refine ⟨k + 1, fs1.set k ⟨-7, f.b, f.s⟩, by omega, by go_num, by rw [List.length_set]; exact hfl1, by rw [List.length_set]; exact HF3.out, hB.setCell (by simp; omega) _, Lib.hid fun b hb => (heap_setCell_other _ _ _ _ (by simp; omega)).trans (HM.out b hb)⟩
          case measure => simp [intOf]; omega
    · have hkI : ¬ (k : Int) < ((apF room l n b).length : Int) := by omega
      have qdr := (hB.block w.heap.size (by omega)).trans qd
      have qyr := (HM.out w3.heap.size (by omega)).trans qy
      have hpr := hpL.lob hB
      have hqr := hqL.lob hB
      have syr := sy3.keep (w' := wr) (fun b fr hs _ => HM.out b (by have := hs.1; omega))
      have bwr : Below w.heap.size w wr := bWY.trans (hB.mono (by omega))
      clear hF HM hB qxr hpL hqL sy3 qd qy qx bWY hF3 HUU HGG
      have xd0 : wr.cell? ⟨w.heap.size, 0, none⟩ = some (.int .i64 room) := cell_of_row _ _ 0 _ _ _ qdr; have fd0 : wr.frozen? ⟨w.heap.size, 0, none⟩ = false := frozen_of_row _ _ 0 _ _ qdr; have xd1 : wr.cell? ⟨w.heap.size, 1, none⟩ = some (.slice A l.length cap) := cell_of_row _ _ 1 _ _ _ qdr; have fd1 : wr.frozen? ⟨w.heap.size, 1, none⟩ = false := frozen_of_row _ _ 1 _ _ qdr
      go_wp2_with fail
      refine (rappend_c (room := room) (n := n) hpr hqr).mono ?_
      intro e w5 h
      obtain ⟨v5, he, sz, b5⟩ := h.s
      subst he
      obtain ⟨A5, c5, hv5, _⟩ := sz.shape
      subst hv5
      clear h
      have qy5 := blkb qyr (w' := w5.alloc (.cells #[.int .i64 (apR room l n b), .slice A5 (apF room l n b).length c5] 24)) (by (repeat (first | with_reducible exact Below.refl _ _ | with_reducible assumption | with_reducible refine bdraw ?_ | with_reducible refine bdrewN ?_ _ | with_reducible refine balloc ?_ _ | with_reducible refine bset ?_ (by simp <;> omega) | with_reducible refine bstep ?_ (by assumption) | with_reducible refine btrans ?_ (by assumption))))
      have qz5 := heap_alloc_new w5 (.cells #[.int .i64 (apR room l n b), .slice A5 (apF room l n b).length c5] 24)
      have sy5 := syr.below (w' := w5.alloc (.cells #[.int .i64 (apR room l n b), .slice A5 (apF room l n b).length c5] 24)) (by (repeat (first | with_reducible exact Below.refl _ _ | with_reducible assumption | with_reducible refine bdraw ?_ | with_reducible refine bdrewN ?_ _ | with_reducible refine balloc ?_ _ | with_reducible refine bset ?_ (by simp <;> omega) | with_reducible refine bstep ?_ (by assumption) | with_reducible refine btrans ?_ (by assumption)))) (Nat.le_refl _)
      have sz5 := sz.below (w' := w5.alloc (.cells #[.int .i64 (apR room l n b), .slice A5 (apF room l n b).length c5] 24)) (by (repeat (first | with_reducible exact Below.refl _ _ | with_reducible assumption | with_reducible refine bdraw ?_ | with_reducible refine bdrewN ?_ _ | with_reducible refine balloc ?_ _ | with_reducible refine bset ?_ (by simp <;> omega) | with_reducible refine bstep ?_ (by assumption) | with_reducible refine btrans ?_ (by assumption)))) (Nat.le_refl _)
      have xy0 : (w5.alloc (.cells #[.int .i64 (apR room l n b), .slice A5 (apF room l n b).length c5] 24)).cell? ⟨w3.heap.size, 0, none⟩ = some (.int .i64 (apR room l n b)) := cell_of_row _ _ 0 _ _ _ qy5; have fy0 : (w5.alloc (.cells #[.int .i64 (apR room l n b), .slice A5 (apF room l n b).length c5] 24)).frozen? ⟨w3.heap.size, 0, none⟩ = false := frozen_of_row _ _ 0 _ _ qy5; have xy1 : (w5.alloc (.cells #[.int .i64 (apR room l n b), .slice A5 (apF room l n b).length c5] 24)).cell? ⟨w3.heap.size, 1, none⟩ = some (.slice A3 (apF room l n b).length c3) := cell_of_row _ _ 1 _ _ _ qy5; have fy1 : (w5.alloc (.cells #[.int .i64 (apR room l n b), .slice A5 (apF room l n b).length c5] 24)).frozen? ⟨w3.heap.size, 1, none⟩ = false := frozen_of_row _ _ 1 _ _ qy5
      go_wp2_with fail
      refine (samed_t sy5 sz5).mono ?_
      rintro e w6 ⟨rfl, b6⟩
      go_wp2
      go_ret
      exact ⟨rfl, by (repeat (first | with_reducible exact Below.refl _ _ | with_reducible assumption | with_reducible refine bdraw ?_ | with_reducible refine bdrewN ?_ _ | with_reducible refine balloc ?_ _ | with_reducible refine bset ?_ (by simp <;> omega) | with_reducible refine bstep ?_ (by assumption) | with_reducible refine btrans ?_ (by assumption)))⟩
end Go.Proofs.Ytnblnlbchcepjaa
