/- Disks: Cut, in both texts. -/
import Derived.Test.YtbahiohlhhdkcaaDoorDkr
import Derived.Test.YtbahiohlhhdkcaaDoorDko
set_option linter.unusedSimpArgs false
namespace Go.Proofs.YtbahiohlhhdkcaaDoor
open Go.RowKit

def ctE (room : Int) (l : List Fi) (n m : Int) : Int :=
  if formedD room l then (match l[(placeP l n).toNat]? with | some f => if placeP l n < 0 then 16 else if m < 0 ∨ (f.b.length : Int) < m then 1 else 0 | none => 16) else 1
def ctF (room : Int) (l : List Fi) (n m : Int) : List Fi :=
  if ctE room l n m = 0 then (match l[(placeP l n).toNat]? with | some f => l.set (placeP l n).toNat ⟨f.n, f.b.take m.toNat, if m < f.s then m else f.s⟩ | none => []) else []
def ctR (room : Int) (l : List Fi) (n m : Int) : Int := if ctE room l n m = 0 then room else 0
theorem ct_bad {room : Int} {l : List Fi} {n m : Int} (h : formedD room l = false) : ctE room l n m = 1 ∧ ctF room l n m = [] ∧ ctR room l n m = 0 := by
  have e : ctE room l n m = 1 := by unfold ctE; rw [h]; rfl
  exact ⟨e, by unfold ctF; rw [e]; rfl, by unfold ctR; rw [e]; rfl⟩
theorem ct_none {room : Int} {l : List Fi} {n m : Int} (h : formedD room l = true) (h2 : placeP l n = -1) : ctE room l n m = 16 ∧ ctF room l n m = [] ∧ ctR room l n m = 0 := by
  have e : ctE room l n m = 16 := by unfold ctE; rw [h, h2]; simp only [if_true]; split <;> rfl
  exact ⟨e, by unfold ctF; rw [e]; rfl, by unfold ctR; rw [e]; rfl⟩
theorem ct_arg {room : Int} {l : List Fi} {n m : Int} {i : Nat} (h : formedD room l = true) (h2 : placeP l n = (i : Int)) (hi : i < l.length) (h3 : m < 0 ∨ (l[i].b.length : Int) < m) : ctE room l n m = 1 ∧ ctF room l n m = [] ∧ ctR room l n m = 0 := by
  have e : ctE room l n m = 1 := by unfold ctE; rw [h, h2, Int.toNat_natCast, List.getElem?_eq_getElem hi]; simp only [if_true]; rw [if_neg (by omega), if_pos h3]
  exact ⟨e, by unfold ctF; rw [e]; rfl, by unfold ctR; rw [e]; rfl⟩
theorem ct_ok {room : Int} {l : List Fi} {n : Int} {i m : Nat} (h : formedD room l = true) (h2 : placeP l n = (i : Int)) (hi : i < l.length) (h3 : m ≤ l[i].b.length) :
    ctE room l n (m : Int) = 0 ∧ ctF room l n (m : Int) = l.set i ⟨l[i].n, l[i].b.take m, if (m : Int) < l[i].s then (m : Int) else l[i].s⟩ ∧ ctR room l n (m : Int) = room := by
  have e : ctE room l n (m : Int) = 0 := by unfold ctE; rw [h, h2, Int.toNat_natCast, List.getElem?_eq_getElem hi]; simp only [if_true]; rw [if_neg (by omega), if_neg (by omega)]
  exact ⟨e, by unfold ctF; rw [if_pos e, h2, Int.toNat_natCast, List.getElem?_eq_getElem hi, Int.toNat_natCast], by unfold ctR; rw [if_pos e]⟩

/-- the closure of Cut: refuses, and all stays; or cuts the file -/
theorem cut1_no {w : World} {g i nb bl cu : Nat} {Au : Option Addr} {m : Int} (hn : w.cell? ⟨nb, 0, none⟩ = some (.int .i64 m)) (hb : w.cell? ⟨g, i * 3 + 1, none⟩ = some (.slice Au bl cu)) (h : m < 0 ∨ 0 ≤ m ∧ (bl : Int) < m) :
    Calls Tryd.prog 53 #[.pointer (some ⟨g, i * 3, none⟩), .pointer (some ⟨nb, 0, none⟩)] w fun e w' => e = .returned (.int .i64 1) ∧ Below w.heap.size w w' := by
  go_enter Tryd.func53, Tryd.ntmps53
  go_wp2_with fail
  rcases h with h | ⟨h1, h2⟩
  · have d1 : decide (m < 0) = true := decide_eq_true h
    go_region
    all_goals
      go_wp2
      go_ret
      exact ⟨rfl, by (repeat (first | with_reducible exact Below.refl _ _ | with_reducible assumption | with_reducible refine bdraw ?_ | with_reducible refine bdrewN ?_ _ | with_reducible refine balloc ?_ _ | with_reducible refine bset ?_ (by simp <;> omega) | with_reducible refine bstep ?_ (by assumption) | with_reducible refine btrans ?_ (by assumption)))⟩
  · have d1 : decide (m < 0) = false := decide_eq_false (by omega)
    have d2 : decide ((bl : Int) < m) = true := decide_eq_true h2
    go_region
    all_goals
      go_wp2
      go_ret
      exact ⟨rfl, by (repeat (first | with_reducible exact Below.refl _ _ | with_reducible assumption | with_reducible refine bdraw ?_ | with_reducible refine bdrewN ?_ _ | with_reducible refine balloc ?_ _ | with_reducible refine bset ?_ (by simp <;> omega) | with_reducible refine bstep ?_ (by assumption) | with_reducible refine btrans ?_ (by assumption)))⟩
theorem cut1_ok {B : Nat} {w : World} {g cap N i nb m k : Nat} {fs : List Fi} {us : List Value} {f : Fi} (h : FP (BW B) B w (.slice (some ⟨g, 0, none⟩) N cap) fs us k) (hf : fs[i]? = some f) (hi : i < k)
    (hn : w.cell? ⟨nb, 0, none⟩ = some (.int .i64 (m : Int))) (hm : m ≤ f.b.length) :
    Calls Tryd.prog 53 #[.pointer (some ⟨g, i * 3, none⟩), .pointer (some ⟨nb, 0, none⟩)] w fun e w' => e = .returned (.int .i64 0) ∧ Below B w w' ∧ (∀ b, b ≠ g → w'.heap[b]? = w.heap[b]?) ∧
      ∃ us', FP (BW B) B w' (.slice (some ⟨g, 0, none⟩) N cap) (fs.set i ⟨f.n, f.b.take m, if (m : Int) < f.s then (m : Int) else f.s⟩) us' k := by
  obtain ⟨u, hu⟩ := h.get hf
  obtain ⟨hbs, Au, cu, rfl, hAu⟩ := id (h.own i u _ hu hf hi)
  obtain ⟨_, _, e, hcu1, hcu2, hcu3⟩ := hbs.shape
  injection e with e1 e0 e2
  subst e1 e2
  clear e0
  unfold maxLen at hcu2
  obtain ⟨_, a1, a2⟩ := h.row.tri3 (tris_get hf hu)
  obtain ⟨hg1, hg2⟩ := h.row.lt g rfl
  have hfz1 := h.row.free3 (i * 3 + 1)
  have hfz2 := h.row.free3 (i * 3 + 2)
  have hcut := fun w' => run_cut_hm (h.own i _ _ hu hf hi) (m := m) hm w' (H := (m : Int)) rfl
  have c1 := a1.cell
  have c2 := a2.cell
  have d1 : decide ((m : Int) < 0) = false := decide_eq_false (by omega)
  have d2 : decide ((f.b.length : Int) < (m : Int)) = false := decide_eq_false (by omega)
  have d3 : decide (f.b.length < m) = false := decide_eq_false (by omega)
  have hm1 : (m : Int) ≤ (cu : Int) := by omega
  have HF := Lib.hid h
  have HS : ∃ s : Int, (if (m : Int) < f.s then (m : Int) else f.s) = s := ⟨_, rfl⟩
  obtain ⟨s, hs⟩ := HS
  rw [hs]
  clear h a1 a2 hbs hAu hcu3
  go_enter Tryd.func53, Tryd.ntmps53
  go_wp2_with fail
  go_region
  all_goals
    go_wp2_with fail
    go_region
  all_goals
    go_wp2
    go_ret
    have hF1 := HF.out.cutW (m := m) (c' := m) hf hu hi hm (Nat.le_refl _) (by omega)
    have hf1 : (fs.set i ⟨f.n, f.b.take m, f.s⟩)[i]? = some ⟨f.n, f.b.take m, f.s⟩ := by rw [List.getElem?_set_self (List.getElem?_eq_some_iff.1 hf).1]
    have hF2 := hF1.markW (s := s) hf1 hi
    rw [List.set_set] at hF2
    exact ⟨rfl, by (repeat (first | with_reducible exact Below.refl _ _ | with_reducible assumption | with_reducible refine bdraw ?_ | with_reducible refine bdrewN ?_ _ | with_reducible refine balloc ?_ _ | with_reducible refine bset ?_ (by simp <;> omega) | with_reducible refine bstep ?_ (by assumption) | with_reducible refine btrans ?_ (by assumption))), fun b hb => (heap_setCell_other _ ⟨g, i * 3 + 2, none⟩ b _ hb).trans (heap_setCell_other w ⟨g, i * 3 + 1, none⟩ b _ hb), _, hF2.keep (BW.ok _) (fun _ _ => rfl) (fun _ _ _ _ _ _ => rfl) (fun _ _ => rfl)⟩

set_option maxRecDepth 100000 in
set_option maxHeartbeats 4000000 in
theorem changed_cut_c {S : Foot} {v : Value} {room n : Int} {l : List Fi} {w : World} (hp : Sl fiE S w v l) {m : Int} {nb : Nat} (hnb : w.cell? ⟨nb, 0, none⟩ = some (.int .i64 m)) :
    Calls Tryd.prog 49 #[.agg #[.int .i64 room, v], .int .i64 n, .func (.func 53) #[] #[.pointer (some ⟨nb, 0, none⟩)]] w (AnsS (ctR room l n m) (ctF room l n m) (ctE room l n m) w) := by
  have hp := hp.any
  obtain ⟨A, cap, rfl, hc1, hc2, _⟩ := hp.shape
  unfold maxLen at hc2
  have q0 : ((w.alloc (.cells #[.int .i64 room, .slice A l.length cap] 24)).alloc (.cells #[.int .i64 0, .slice none 0 0] 24)).heap[w.heap.size]? = some (.cells #[.int .i64 room, .slice A l.length cap] 24 (0, 0)) := heap_alloc2_old _ _ _
  have q1 : ((w.alloc (.cells #[.int .i64 room, .slice A l.length cap] 24)).alloc (.cells #[.int .i64 0, .slice none 0 0] 24)).heap[w.heap.size + 1]? = some (.cells #[.int .i64 0, .slice none 0 0] 24 (0, 0)) := by
    have := heap_alloc_new (w.alloc (.cells #[.int .i64 room, .slice A l.length cap] 24)) (.cells #[.int .i64 0, .slice none 0 0] 24)
    rwa [World.size_alloc] at this
  have bW : Below w.heap.size w ((w.alloc (.cells #[.int .i64 room, .slice A l.length cap] 24)).alloc (.cells #[.int .i64 0, .slice none 0 0] 24)) := by (repeat (first | with_reducible exact Below.refl _ _ | with_reducible assumption | with_reducible refine bdraw ?_ | with_reducible refine bdrewN ?_ _ | with_reducible refine balloc ?_ _ | with_reducible refine bset ?_ (by simp <;> omega) | with_reducible refine bstep ?_ (by assumption) | with_reducible refine btrans ?_ (by assumption)))
  have HF := fun (w' : World) (bb : Below w.heap.size w w') => Lib.hid (formed_c (room := room) (w := w') (hp.below (by (repeat (first | with_reducible exact Below.refl _ _ | with_reducible assumption | with_reducible refine bdraw ?_ | with_reducible refine bdrewN ?_ _ | with_reducible refine balloc ?_ _ | with_reducible refine bset ?_ (by simp <;> omega) | with_reducible refine bstep ?_ (by assumption) | with_reducible refine btrans ?_ (by assumption)))) (Nat.le_refl _)))
  have pn := (At.of_cell hnb).2
  have hnl := pn.lt
  clear hnb
  cases hE : formedD room l
  · have HR := Lib.hid (ct_bad (n := n) (m := m) hE)
    rw [hE] at HF
    clear hE
    go_enter Tryd.func49, Tryd.ntmps49
    go_wp2_with (go_at_call 18; refine (HF _ (by (repeat (first | with_reducible exact Below.refl _ _ | with_reducible assumption | with_reducible refine bdraw ?_ | with_reducible refine bdrewN ?_ _ | with_reducible refine balloc ?_ _ | with_reducible refine bset ?_ (by simp <;> omega) | with_reducible refine bstep ?_ (by assumption) | with_reducible refine btrans ?_ (by assumption))))).out.mono ?_; rintro e w1 ⟨rfl, b1⟩; have q2 := blkb q1 (w' := w1) (by (repeat (first | with_reducible exact Below.refl _ _ | with_reducible assumption | with_reducible refine bdraw ?_ | with_reducible refine bdrewN ?_ _ | with_reducible refine balloc ?_ _ | with_reducible refine bset ?_ (by simp <;> omega) | with_reducible refine bstep ?_ (by assumption) | with_reducible refine btrans ?_ (by assumption)))); have xa0 : w1.cell? ⟨w.heap.size + 1, 0, none⟩ = some (.int .i64 0) := cell_of_row _ _ 0 _ _ _ q2; have fa0 : w1.frozen? ⟨w.heap.size + 1, 0, none⟩ = false := frozen_of_row _ _ 0 _ _ q2; have xa1 : w1.cell? ⟨w.heap.size + 1, 1, none⟩ = some (.slice none 0 0) := cell_of_row _ _ 1 _ _ _ q2; have fa1 : w1.frozen? ⟨w.heap.size + 1, 1, none⟩ = false := frozen_of_row _ _ 1 _ _ q2)
    refine bodyPost_ret (results_cell_tmp1 rfl _ _ (w.heap.size + 1) 24 #[.int .i64 0, .slice none 0 0] (0, 0) _ rfl (set2 q2) Tryd.underlying24 rfl (by kernel_rfl)) rfl ?_
    exact ⟨_, by rw [HR.out.1, HR.out.2.2]; rfl, by rw [HR.out.2.1]; exact Sl.nil, by (repeat (first | with_reducible exact Below.refl _ _ | with_reducible assumption | with_reducible refine bdraw ?_ | with_reducible refine bdrewN ?_ _ | with_reducible refine balloc ?_ _ | with_reducible refine bset ?_ (by simp <;> omega) | with_reducible refine bstep ?_ (by assumption) | with_reducible refine btrans ?_ (by assumption)))⟩
  · have HE := Lib.hid hE
    have hlen := formedD_len hE
    have HUp := Lib.hid (formedD_up hE)
    have HLow := Lib.hid (fun f hf' => fineF_low (fs := l) (by simp only [formedD, Bool.and_eq_true] at hE; exact hE.2) f hf')
    have hsz := formedD_size hE
    rw [hE] at HF
    clear hE
    obtain ⟨hs1, hs2, hs3⟩ := hsz
    go_enter Tryd.func49, Tryd.ntmps49
    go_wp2_with fail
    refine (HF _ (by (repeat (first | with_reducible exact Below.refl _ _ | with_reducible assumption | with_reducible refine bdraw ?_ | with_reducible refine bdrewN ?_ _ | with_reducible refine balloc ?_ _ | with_reducible refine bset ?_ (by simp <;> omega) | with_reducible refine bstep ?_ (by assumption) | with_reducible refine btrans ?_ (by assumption))))).out.mono ?_
    rintro e w1 ⟨rfl, b1⟩
    have q2 := blkb q0 (w' := w1) (by (repeat (first | with_reducible exact Below.refl _ _ | with_reducible assumption | with_reducible refine bdraw ?_ | with_reducible refine bdrewN ?_ _ | with_reducible refine balloc ?_ _ | with_reducible refine bset ?_ (by simp <;> omega) | with_reducible refine bstep ?_ (by assumption) | with_reducible refine btrans ?_ (by assumption))))
    have xa0 : w1.cell? ⟨w.heap.size, 0, none⟩ = some (.int .i64 room) := cell_of_row _ _ 0 _ _ _ q2; have fa0 : w1.frozen? ⟨w.heap.size, 0, none⟩ = false := frozen_of_row _ _ 0 _ _ q2; have xa1 : w1.cell? ⟨w.heap.size, 1, none⟩ = some (.slice A l.length cap) := cell_of_row _ _ 1 _ _ _ q2; have fa1 : w1.frozen? ⟨w.heap.size, 1, none⟩ = false := frozen_of_row _ _ 1 _ _ q2
    go_wp2_with fail
    refine (find_c (room := room) (o := n) (hp.below (by (repeat (first | with_reducible exact Below.refl _ _ | with_reducible assumption | with_reducible refine bdraw ?_ | with_reducible refine bdrewN ?_ _ | with_reducible refine balloc ?_ _ | with_reducible refine bset ?_ (by simp <;> omega) | with_reducible refine bstep ?_ (by assumption) | with_reducible refine btrans ?_ (by assumption)))) (Nat.le_refl _)) HUp.out (by omega)).mono ?_
    rintro e w2 ⟨i, f, rfl, HI, b2⟩
    have q3 := blkb q2 (w' := w2) (by (repeat (first | with_reducible exact Below.refl _ _ | with_reducible assumption | with_reducible refine bdraw ?_ | with_reducible refine bdrewN ?_ _ | with_reducible refine balloc ?_ _ | with_reducible refine bset ?_ (by simp <;> omega) | with_reducible refine bstep ?_ (by assumption) | with_reducible refine btrans ?_ (by assumption))))
    have z3 := blkb (blkb q1 (w' := w1) (by (repeat (first | with_reducible exact Below.refl _ _ | with_reducible assumption | with_reducible refine bdraw ?_ | with_reducible refine bdrewN ?_ _ | with_reducible refine balloc ?_ _ | with_reducible refine bset ?_ (by simp <;> omega) | with_reducible refine bstep ?_ (by assumption) | with_reducible refine btrans ?_ (by assumption))))) (w' := w2) (by (repeat (first | with_reducible exact Below.refl _ _ | with_reducible assumption | with_reducible refine bdraw ?_ | with_reducible refine bdrewN ?_ _ | with_reducible refine balloc ?_ _ | with_reducible refine bset ?_ (by simp <;> omega) | with_reducible refine bstep ?_ (by assumption) | with_reducible refine btrans ?_ (by assumption))))
    have xb0 : w2.cell? ⟨w.heap.size, 0, none⟩ = some (.int .i64 room) := cell_of_row _ _ 0 _ _ _ q3; have fb0 : w2.frozen? ⟨w.heap.size, 0, none⟩ = false := frozen_of_row _ _ 0 _ _ q3; have xb1 : w2.cell? ⟨w.heap.size, 1, none⟩ = some (.slice A l.length cap) := cell_of_row _ _ 1 _ _ _ q3; have fb1 : w2.frozen? ⟨w.heap.size, 1, none⟩ = false := frozen_of_row _ _ 1 _ _ q3
    have bw2 : Below w.heap.size w w2 := by (repeat (first | with_reducible exact Below.refl _ _ | with_reducible assumption | with_reducible refine bdraw ?_ | with_reducible refine bdrewN ?_ _ | with_reducible refine balloc ?_ _ | with_reducible refine bset ?_ (by simp <;> omega) | with_reducible refine bstep ?_ (by assumption) | with_reducible refine btrans ?_ (by assumption)))
    have hz1 := b1.size
    have hz2 := b2.size
    have hzw : w.heap.size + 2 ≤ w2.heap.size := by simp at hz1; omega
    clear xa0 xa1 fa0 fa1 b1 b2 q0 q1 q2 bW HF
    rcases placed_place HUp.out HI.out with ⟨rfl, hpl, hil⟩ | ⟨rfl, hpl⟩
    rotate_left
    · have HR := Lib.hid (ct_none (m := m) HE.out hpl)
      clear hpl
      have xc0 : w2.cell? ⟨w.heap.size + 1, 0, none⟩ = some (.int .i64 0) := cell_of_row _ _ 0 _ _ _ z3; have fc0 : w2.frozen? ⟨w.heap.size + 1, 0, none⟩ = false := frozen_of_row _ _ 0 _ _ z3; have xc1 : w2.cell? ⟨w.heap.size + 1, 1, none⟩ = some (.slice none 0 0) := cell_of_row _ _ 1 _ _ _ z3; have fc1 : w2.frozen? ⟨w.heap.size + 1, 1, none⟩ = false := frozen_of_row _ _ 1 _ _ z3
      go_wp2
      refine bodyPost_ret (results_cell_tmp1 rfl _ _ (w.heap.size + 1) 24 #[.int .i64 0, .slice none 0 0] (0, 0) _ rfl (set2 z3) Tryd.underlying24 rfl (by kernel_rfl)) rfl ?_
      exact ⟨_, by rw [HR.out.1, HR.out.2.2]; rfl, by rw [HR.out.2.1]; exact Sl.nil, by (repeat (first | with_reducible exact Below.refl _ _ | with_reducible assumption | with_reducible refine bdraw ?_ | with_reducible refine bdrewN ?_ _ | with_reducible refine balloc ?_ _ | with_reducible refine bset ?_ (by simp <;> omega) | with_reducible refine bstep ?_ (by assumption) | with_reducible refine btrans ?_ (by assumption)))⟩
    · have hiI : (i : Int) < (l.length : Int) := by omega
      have hi0 : (0 : Int) ≤ (i : Int) := by omega
      go_wp2_with fail
      refine (twin_c (room := room) (hp.below (by (repeat (first | with_reducible exact Below.refl _ _ | with_reducible assumption | with_reducible refine bdraw ?_ | with_reducible refine bdrewN ?_ _ | with_reducible refine balloc ?_ _ | with_reducible refine bset ?_ (by simp <;> omega) | with_reducible refine bstep ?_ (by assumption) | with_reducible refine btrans ?_ (by assumption)))) (Nat.le_refl _)) (by omega) (fun f hf => by have := HLow.out f hf; omega)).mono ?_
      rintro e w3 ⟨v3, us, rfl, hF, b3⟩
      obtain ⟨A3, c3, hv3, hc5, hc6, _⟩ := (hF.sl (BO.ok _)).shape
      subst hv3
      unfold maxLen at hc6
      have hz3' := b3.size
      have z4 := blkb z3 (w' := w3.alloc (.cells #[.int .i64 room, .slice A3 l.length c3] 24)) (by (repeat (first | with_reducible exact Below.refl _ _ | with_reducible assumption | with_reducible refine bdraw ?_ | with_reducible refine bdrewN ?_ _ | with_reducible refine balloc ?_ _ | with_reducible refine bset ?_ (by simp <;> omega) | with_reducible refine bstep ?_ (by assumption) | with_reducible refine btrans ?_ (by assumption))))
      have r4 := heap_alloc_new w3 (.cells #[.int .i64 room, .slice A3 l.length c3] 24)
      have hF4 := hF.below (w' := w3.alloc (.cells #[.int .i64 room, .slice A3 l.length c3] 24)) (BO.ok _) (by (repeat (first | with_reducible exact Below.refl _ _ | with_reducible assumption | with_reducible refine bdraw ?_ | with_reducible refine bdrewN ?_ _ | with_reducible refine balloc ?_ _ | with_reducible refine bset ?_ (by simp <;> omega) | with_reducible refine bstep ?_ (by assumption) | with_reducible refine btrans ?_ (by assumption)))) hz3'
      have bw4 : Below w.heap.size w (w3.alloc (.cells #[.int .i64 room, .slice A3 l.length c3] 24)) := by (repeat (first | with_reducible exact Below.refl _ _ | with_reducible assumption | with_reducible refine bdraw ?_ | with_reducible refine bdrewN ?_ _ | with_reducible refine balloc ?_ _ | with_reducible refine bset ?_ (by simp <;> omega) | with_reducible refine bstep ?_ (by assumption) | with_reducible refine btrans ?_ (by assumption)))
      obtain ⟨g, rfl, hg1, hg2⟩ := hF.row.form3 (by omega)
      have hfi : l[i]? = some l[i] := List.getElem?_eq_getElem hil
      clear hF
      have pn' := atb pn (w' := w3.alloc (.cells #[.int .i64 room, .slice (some ⟨g, 0, none⟩) l.length c3] 24)) bw4
      by_cases hm : m < 0 ∨ (l[i].b.length : Int) < m
      · have HR := Lib.hid (ct_arg HE.out hpl hil hm)
        obtain ⟨uu, huu⟩ := hF4.get hfi
        obtain ⟨Au, cu, rfl, _⟩ := (BO.ok _).sl (hF4.own i _ _ huu hfi hil) |>.shape
        obtain ⟨_, a1, _⟩ := hF4.row.tri3 (tris_get hfi huu)
        have hm' : m < 0 ∨ 0 ≤ m ∧ (l[i].b.length : Int) < m := by omega
        clear hpl hm
        go_wp2_with fail
        refine (cut1_no pn' a1.cell hm').mono ?_
        rintro e w5 ⟨rfl, b5⟩
        have z5 := blkb z4 (w' := w5) (by (repeat (first | with_reducible exact Below.refl _ _ | with_reducible assumption | with_reducible refine bdraw ?_ | with_reducible refine bdrewN ?_ _ | with_reducible refine balloc ?_ _ | with_reducible refine bset ?_ (by simp <;> omega) | with_reducible refine bstep ?_ (by assumption) | with_reducible refine btrans ?_ (by assumption))))
        have xc0 : w5.cell? ⟨w.heap.size + 1, 0, none⟩ = some (.int .i64 0) := cell_of_row _ _ 0 _ _ _ z5; have fc0 : w5.frozen? ⟨w.heap.size + 1, 0, none⟩ = false := frozen_of_row _ _ 0 _ _ z5; have xc1 : w5.cell? ⟨w.heap.size + 1, 1, none⟩ = some (.slice none 0 0) := cell_of_row _ _ 1 _ _ _ z5; have fc1 : w5.frozen? ⟨w.heap.size + 1, 1, none⟩ = false := frozen_of_row _ _ 1 _ _ z5
        go_wp2
        refine bodyPost_ret (results_cell_tmp1 rfl _ _ (w.heap.size + 1) 24 #[.int .i64 0, .slice none 0 0] (0, 0) _ rfl (set2 z5) Tryd.underlying24 rfl (by kernel_rfl)) rfl ?_
        exact ⟨_, by rw [HR.out.1, HR.out.2.2]; rfl, by rw [HR.out.2.1]; exact Sl.nil, by (repeat (first | with_reducible exact Below.refl _ _ | with_reducible assumption | with_reducible refine bdraw ?_ | with_reducible refine bdrewN ?_ _ | with_reducible refine balloc ?_ _ | with_reducible refine bset ?_ (by simp <;> omega) | with_reducible refine bstep ?_ (by assumption) | with_reducible refine btrans ?_ (by assumption)))⟩
      · obtain ⟨mm, rfl⟩ : ∃ mm : Nat, m = (mm : Int) := ⟨m.toNat, by omega⟩
        have HR := Lib.hid (ct_ok HE.out hpl hil (show mm ≤ l[i].b.length by omega))
        clear hpl
        go_wp2_with fail
        refine (cut1_ok hF4.w hfi hil pn' (by omega)).mono ?_
        rintro e w5 ⟨rfl, b5, hoth, us', hF5⟩
        have z5 := (hoth (w.heap.size + 1) (by omega)).trans z4
        have r5 := (hoth w3.heap.size (by omega)).trans r4
        have bw5 : Below w.heap.size w w5 := bw4.trans (b5.mono (by omega))
        have xc0 : w5.cell? ⟨w.heap.size + 1, 0, none⟩ = some (.int .i64 0) := cell_of_row _ _ 0 _ _ _ z5; have fc0 : w5.frozen? ⟨w.heap.size + 1, 0, none⟩ = false := frozen_of_row _ _ 0 _ _ z5; have xc1 : w5.cell? ⟨w.heap.size + 1, 1, none⟩ = some (.slice none 0 0) := cell_of_row _ _ 1 _ _ _ z5; have fc1 : w5.frozen? ⟨w.heap.size + 1, 1, none⟩ = false := frozen_of_row _ _ 1 _ _ z5
        have xd0 : w5.cell? ⟨w3.heap.size, 0, none⟩ = some (.int .i64 room) := cell_of_row _ _ 0 _ _ _ r5; have fd0 : w5.frozen? ⟨w3.heap.size, 0, none⟩ = false := frozen_of_row _ _ 0 _ _ r5; have xd1 : w5.cell? ⟨w3.heap.size, 1, none⟩ = some (.slice (some ⟨g, 0, none⟩) l.length c3) := cell_of_row _ _ 1 _ _ _ r5; have fd1 : w5.frozen? ⟨w3.heap.size, 1, none⟩ = false := frozen_of_row _ _ 1 _ _ r5
        clear hoth b5 z4 r4 hF4 hm
        go_wp2
        refine bodyPost_ret (results_cell_tmp1 rfl _ _ (w.heap.size + 1) 24 #[.int .i64 room, .slice (some ⟨g, 0, none⟩) l.length c3] (0, 0) _ rfl (set2 z5) Tryd.underlying24 rfl (by kernel_rfl)) rfl ?_
        refine ⟨_, by rw [HR.out.1, HR.out.2.2]; rfl, ?_, by (repeat (first | with_reducible exact Below.refl _ _ | with_reducible assumption | with_reducible refine bdraw ?_ | with_reducible refine bdrewN ?_ _ | with_reducible refine balloc ?_ _ | with_reducible refine bset ?_ (by simp <;> omega) | with_reducible refine bstep ?_ (by assumption) | with_reducible refine btrans ?_ (by assumption)))⟩
        rw [HR.out.2.1]
        have hF6 : FP (BW w2.heap.size) w2.heap.size w5 (.slice (some ⟨g, 0, none⟩) l.length c3) (l.set i ⟨l[i].n, l[i].b.take mm, if (mm : Int) < l[i].s then (mm : Int) else l[i].s⟩) us' (l.set i ⟨l[i].n, l[i].b.take mm, if (mm : Int) < l[i].s then (mm : Int) else l[i].s⟩).length := by rw [List.length_set]; exact hF5
        exact (((hF6.far (BW.ok _) (by simp; omega)).far (BW.ok _) (by simp; omega)).sl (BW.ok _)).mono (fun b fr h _ => ⟨by have := h.1; omega, h.2⟩)

set_option maxHeartbeats 4000000 in
theorem dcut_c {S : Foot} {v : Value} {room n m : Int} {l : List Fi} {w : World} (hp : Sl fiE S w v l) :
    Calls Tryd.prog 36 #[.agg #[.int .i64 room, v], .int .i64 n, .int .i64 m] w (AnsS (ctR room l n m) (ctF room l n m) (ctE room l n m) w) := by
  have hp := hp.any
  obtain ⟨A, cap, rfl, hc1, hc2, _⟩ := hp.shape
  unfold maxLen at hc2
  obtain ⟨W, hW⟩ : ∃ W, ((w.alloc (.cells #[.int .i64 room, .slice A l.length cap] 24)).alloc (.cells #[.int .i64 m] 3)).alloc (.cells #[.int .i64 0, .slice none 0 0] 24) = W := ⟨_, rfl⟩
  have bW : Below w.heap.size w W := by rw [← hW]; (repeat (first | with_reducible exact Below.refl _ _ | with_reducible assumption | with_reducible refine bdraw ?_ | with_reducible refine bdrewN ?_ _ | with_reducible refine balloc ?_ _ | with_reducible refine bset ?_ (by simp <;> omega) | with_reducible refine bstep ?_ (by assumption) | with_reducible refine btrans ?_ (by assumption)))
  have q2 : W.heap[w.heap.size + 1 + 1]? = some (.cells #[.int .i64 0, .slice none 0 0] 24 (0, 0)) := by
    have := heap_alloc_new ((w.alloc (.cells #[.int .i64 room, .slice A l.length cap] 24)).alloc (.cells #[.int .i64 m] 3)) (.cells #[.int .i64 0, .slice none 0 0] 24)
    rw [World.size_alloc, World.size_alloc] at this
    rw [← hW]; exact this
  have q1 : W.heap[w.heap.size + 1]? = some (.cells #[.int .i64 m] 3 (0, 0)) := by
    have := heap_alloc_new (w.alloc (.cells #[.int .i64 room, .slice A l.length cap] 24)) (.cells #[.int .i64 m] 3)
    rw [World.size_alloc] at this
    rw [← hW]; exact blkb this ((Below.refl _ _).alloc (Nat.le_refl _) _)
  have q0 : W.heap[w.heap.size]? = some (.cells #[.int .i64 room, .slice A l.length cap] 24 (0, 0)) := by
    rw [← hW]; exact blkb (heap_alloc_new w _) (((Below.refl _ _).alloc (Nat.le_refl _) _).alloc (by simp) _)
  have HW := Lib.hid hW
  have hzW : W.heap.size = w.heap.size + 3 := by rw [← hW]; simp
  clear hW
  have xa0 : W.cell? ⟨w.heap.size, 0, none⟩ = some (.int .i64 room) := cell_of_row _ _ 0 _ _ _ q0; have fa0 : W.frozen? ⟨w.heap.size, 0, none⟩ = false := frozen_of_row _ _ 0 _ _ q0; have xa1 : W.cell? ⟨w.heap.size, 1, none⟩ = some (.slice A l.length cap) := cell_of_row _ _ 1 _ _ _ q0; have fa1 : W.frozen? ⟨w.heap.size, 1, none⟩ = false := frozen_of_row _ _ 1 _ _ q0
  go_enter Tryd.func36, Tryd.ntmps36
  go_wp2_with fail
  rw [HW.out]
  refine (changed_cut_c (room := room) (n := n) (nb := w.heap.size + 1) (m := m) (hp.below (by (repeat (first | with_reducible exact Below.refl _ _ | with_reducible assumption | with_reducible refine bdraw ?_ | with_reducible refine bdrewN ?_ _ | with_reducible refine balloc ?_ _ | with_reducible refine bset ?_ (by simp <;> omega) | with_reducible refine bstep ?_ (by assumption) | with_reducible refine btrans ?_ (by assumption)))) (Nat.le_refl _)) (cell_of_row _ _ 0 _ _ _ q1)).mono ?_
  rintro e w1 ⟨v1, rfl, s1, b1⟩
  have q3 := blkb q2 (w' := w1) (by (repeat (first | with_reducible exact Below.refl _ _ | with_reducible assumption | with_reducible refine bdraw ?_ | with_reducible refine bdrewN ?_ _ | with_reducible refine balloc ?_ _ | with_reducible refine bset ?_ (by simp <;> omega) | with_reducible refine bstep ?_ (by assumption) | with_reducible refine btrans ?_ (by assumption))))
  obtain ⟨A1, c1, rfl, _⟩ := s1.shape
  have xc0 : w1.cell? ⟨w.heap.size + 1 + 1, 0, none⟩ = some (.int .i64 0) := cell_of_row _ _ 0 _ _ _ q3; have fc0 : w1.frozen? ⟨w.heap.size + 1 + 1, 0, none⟩ = false := frozen_of_row _ _ 0 _ _ q3; have xc1 : w1.cell? ⟨w.heap.size + 1 + 1, 1, none⟩ = some (.slice none 0 0) := cell_of_row _ _ 1 _ _ _ q3; have fc1 : w1.frozen? ⟨w.heap.size + 1 + 1, 1, none⟩ = false := frozen_of_row _ _ 1 _ _ q3
  go_wp2
  refine bodyPost_ret (results_cell_tmp1 rfl _ _ (w.heap.size + 1 + 1) 24 #[.int .i64 (ctR room l n m), .slice A1 (ctF room l n m).length c1] (0, 0) _ rfl (set2 q3) Tryd.underlying24 rfl (by kernel_rfl)) rfl ?_
  exact ⟨_, rfl, (sfar (sfar s1 (by simp; omega)) (by simp; omega)) |>.mono (fun b fr h _ => ⟨by have := h.1; omega, h.2⟩), by (repeat (first | with_reducible exact Below.refl _ _ | with_reducible assumption | with_reducible refine bdraw ?_ | with_reducible refine bdrewN ?_ _ | with_reducible refine balloc ?_ _ | with_reducible refine bset ?_ (by simp <;> omega) | with_reducible refine bstep ?_ (by assumption) | with_reducible refine btrans ?_ (by assumption)))⟩
end Go.Proofs.YtbahiohlhhdkcaaDoor
