/- Disks: Remove, in both texts. -/
import Derived.Test.YtbahiohlhhdkcaaDoorDkv
set_option linter.unusedSimpArgs false
namespace Go.Proofs.YtbahiohlhhdkcaaDoor
open Go.RowKit

def idR (room : Int) (l : List Fi) (n : Int) : Int := if gtE room l n = 0 then room else 0
def idF (room : Int) (l : List Fi) (n : Int) : List Fi := if gtE room l n = 0 then l else []
def rmF (room : Int) (l : List Fi) (n : Int) : List Fi := if gtE room l n = 0 then l.eraseIdx (placeP l n).toNat else []
theorem id_bad {room : Int} {l : List Fi} {n : Int} (h : formedD room l = false) : gtE room l n = 1 ∧ idF room l n = [] ∧ idR room l n = 0 := by
  have e := (gt_bad (n := n) h).1
  exact ⟨e, by unfold idF; rw [e]; rfl, by unfold idR; rw [e]; rfl⟩
theorem id_none {room : Int} {l : List Fi} {n : Int} (h : formedD room l = true) (h2 : placeP l n = -1) : gtE room l n = 16 ∧ idF room l n = [] ∧ idR room l n = 0 := by
  have e := (gt_none h h2).1
  exact ⟨e, by unfold idF; rw [e]; rfl, by unfold idR; rw [e]; rfl⟩
theorem id_ok {room : Int} {l : List Fi} {n : Int} {i : Nat} (h : formedD room l = true) (h2 : placeP l n = (i : Int)) (hi : i < l.length) : gtE room l n = 0 ∧ idF room l n = l ∧ idR room l n = room := by
  have e := (gt_ok h h2 hi).1
  exact ⟨e, by unfold idF; rw [if_pos e], by unfold idR; rw [if_pos e]⟩
theorem rm_ok {room : Int} {l : List Fi} {n : Int} {i : Nat} (h : gtE room l n = 0) (h2 : placeP l n = (i : Int)) : rmF room l n = l.eraseIdx i := by
  unfold rmF; rw [if_pos h, h2, Int.toNat_natCast]
theorem rm_no {room : Int} {l : List Fi} {n : Int} (h : gtE room l n ≠ 0) : rmF room l n = [] ∧ idF room l n = [] ∧ idR room l n = 0 := by
  unfold rmF idF idR; rw [if_neg h, if_neg h, if_neg h]; exact ⟨rfl, rfl, rfl⟩
theorem gt_cases {room : Int} {l : List Fi} {n : Int} (h : gtE room l n = 0) : formedD room l = true ∧ ∃ i : Nat, placeP l n = (i : Int) ∧ i < l.length := by
  unfold gtE at h
  have hl := placeP_lt l n
  split at h
  · rename_i h1
    split at h
    · omega
    · exact ⟨h1, (placeP l n).toNat, by omega, by omega⟩
  · omega

theorem tris_erase : ∀ (fs : List Fi) (us : List Value) (k : Nat), us.length = fs.length → tris (fs.eraseIdx k) (us.eraseIdx k) = (tris fs us).eraseIdx k
  | [], [], _, _ => by simp [tris]
  | f :: fs, u :: us, 0, _ => by simp [tris]
  | f :: fs, u :: us, k + 1, h => by simp [tris, tris_erase fs us k (by simpa using h)]
  | [], _ :: _, _, h => by simp at h
  | _ :: _, [], _, h => by simp at h
theorem erase_get {α : Type} {l : List α} {k i : Nat} {x : α} (h : (l.eraseIdx k)[i]? = some x) : l[if i < k then i else i + 1]? = some x := by
  rw [List.getElem?_eraseIdx] at h
  split at h <;> rename_i h1
  · rw [if_pos h1]; exact h
  · rw [if_neg h1]; exact h
/-- a file is cut out -/
theorem FP.erase {B : Nat} {w w' : World} {g cap n k : Nat} {fs : List Fi} {us : List Value} (h : FP (BO B) B w (.slice (some ⟨g, 0, none⟩) n cap) fs us fs.length) {n' : Nat}
    (o : Own trE Any w' B 50 (.slice (some ⟨g, 0, none⟩) n' cap) ((tris fs us).eraseIdx k)) (hg : w.grownBy w' (some g)) :
    FP (BO B) B w' (.slice (some ⟨g, 0, none⟩) n' cap) (fs.eraseIdx k) (us.eraseIdx k) (fs.eraseIdx k).length := by
  have hlt : ∀ {j : Nat} {u : Value}, us[j]? = some u → j < fs.length := fun hj => by have := (List.getElem?_eq_some_iff.1 hj).1; rw [← h.len]; exact this
  have hb : ∀ {j : Nat} {u : Value} {g' : Nat}, us[j]? = some u → u.ownBlock = some g' → w'.heap[g']? = w.heap[g']? ∧ g' ≠ g := fun {j u g'} hu hgg => by
    have h1 := (h.lt (BO.ok B) hu (hlt hu) hgg).2
    have h2 := h.rn j u g' hu (hlt hu) hgg
    have h3 : g' ≠ g := fun e => h2 (by rw [e]; rfl)
    exact ⟨hg.block g' h1 (fun e => h3 (Option.some.inj e)), h3⟩
  refine ⟨by rw [List.length_eraseIdx, List.length_eraseIdx, h.len], by rw [tris_erase fs us k h.len]; exact o, fun j u f hu hf _ => ?_, fun j m u u1 g' hu hu1 _ _ hgg hgg1 => ?_, fun j u g' hu _ hgg => ?_, fun j u f hu hf hj => ?_⟩
  · have hu' := erase_get hu
    exact (BO.ok B).keep (h.own _ u f hu' (erase_get hf) (hlt hu')) fun g' hgg => (hb hu' hgg).1
  · have hu' := erase_get hu
    have hu1' := erase_get hu1
    have := h.ne _ _ u u1 g' hu' hu1' (hlt hu') (hlt hu1') hgg hgg1
    split at this <;> split at this <;> omega
  · have hu' := erase_get hu
    intro e
    exact (hb hu' hgg).2 (some_blk (g := g) e)
  · have := (List.getElem?_eq_some_iff.1 hf).1
    omega

/-- a builtin append at a step of a region that draws its order, by its run -/
theorem step_append_run {P : Program} {w w' : World} {ops : Array Oper} {o : Oper} {ac : Act} {K : Act → World → Prop} {Q : Exit → Act → World → Prop} {X : Prop} (hgd : o.guard = none) (s y : Operand) (t : TypeId)
    (ho : o.op = .call { callee := .builtin .append, args := #[s, y], argTypes := #[t, t] }) {v x v' : Value} (hs : ac.eval s = v) (hy : ac.eval y = x)
    (hrun : (Builtin.append_ #[t, t] o.type #[v, x]).run P w = .ok v' w') (h : K (ac.put o.dst v') w') : if Region.wanted o (yielded ops ac.tmps) = true then Oper.wp P o ac w K Q else X := by
  have hw : Region.wanted o (yielded ops ac.tmps) = true := by simp [Region.wanted, hgd]
  rw [if_pos hw]
  unfold Oper.wp execOp
  simp only [ho, resolve, invoke, builtin, Sem.run_bind, Sem.run_pure, Result.andThen_ok, List.map_toArray, List.map_cons, List.map_nil, hs, hy, hrun]
  exact h
set_option maxHeartbeats 4000000 in
theorem delf_c {B g cap k : Nat} {l : List Tri} {w : World} (h0 : Own trE Any w B 50 (.slice (some ⟨g, 0, none⟩) l.length cap) l) (hk : k < l.length) (hl : l.length ≤ cap) (_hm : cap ≤ 9223372036854775807) :
    Calls Tryd.prog 51 #[.slice (some ⟨g, 0, none⟩) l.length cap, .int .i64 k, .int .i64 ((k : Int) + 1)] w fun e w' =>
      e = .returned (.slice (some ⟨g, 0, none⟩) (l.length - 1) cap) ∧ Own trE Any w' B 50 (.slice (some ⟨g, 0, none⟩) (l.length - 1) cap) (l.eraseIdx k) ∧ w.grownBy w' (some g) := by
  have h : Own trE (HiN B (some g)) w B 50 (.slice (some ⟨g, 0, none⟩) l.length cap) l := h0.tri
  have hd : Own trE (HiN B (some g)) w.drew B 50 (.slice (some ⟨g, 0, none⟩) l.length cap) l := odraw h
  obtain ⟨i0, hi, hz0, hz1, hz2⟩ := info_parts fi_info
  have ht := Tryd.underlying22
  have q1 := run_cut_h (P := Tryd.prog) (E := trE) (g := g) (n := l.length) (k := k) (cap := cap) ht hi hz1 (by omega)
  obtain ⟨A, hA, q2⟩ := run_cut_l (P := Tryd.prog) (E := trE) (g := g) (n := l.length) (k := k + 1) (cap := cap) ht hi hz1 (by omega)
  obtain ⟨v0, q0⟩ := run_cut_lhm (P := Tryd.prog) (E := trE) (g := g) (n := l.length) (lo := k) (hh := k + 1) (mx := l.length) (cap := cap) ht hi hz1 (by omega) (by omega) hl
  obtain ⟨w2, hrun, o2, g2⟩ := run_del (P := Tryd.prog) (w := w.drew) ht hi hz1 hd hk hA 22 (cap - (k + 1))
  have hE : (l.eraseIdx k).length = l.length - 1 := by rw [List.length_eraseIdx, if_pos hk]
  have o2' := o2
  rw [← hE] at o2'
  obtain ⟨w3, hclr, o3, g3⟩ := run_clear (P := Tryd.prog) ht hi hz0 rfl (by simp [Value.cells, Value.oneCell']) o2' (n := 1) (c := cap - (l.length - 1)) (by omega) 0
  rw [hE] at hclr o3
  have q3 := run_cut_lh (P := Tryd.prog) (E := trE) (g := g) (n := l.length - 1) (lo := l.length - 1) (hh := l.length) (cap := cap) ht hi hz1 (by omega) hl (by omega)
  rw [show l.length - (l.length - 1) = 1 by omega] at q3
  have G := grown_trans (grown_trans (⟨rfl, rfl, rfl, Nat.le_refl _, fun _ _ _ => rfl⟩ : w.grownBy w.drew (some g)) g2) g3
  go_enter Tryd.func51, Tryd.ntmps51
  go_wp2_with fail
  go_region_held3 (fun _ => True)
    (first | trivial)
    (first | (refine step_append_run (by rfl) (.tmp 22) (.tmp 25) 22 (by rfl) (by rfl) (by rfl) hrun ?_))
  clear hrun o2 o2'
  go_wp2
  go_ret
  exact ⟨rfl, o3.tri, G⟩
theorem idc_c (p : Value) (hp : ∃ a, p = .pointer a) (w : World) : Calls Tryd.prog 50 #[p] w fun e w' => e = .returned (.int .i64 0) ∧ w = w' := by
  obtain ⟨a, rfl⟩ := hp
  go_enter Tryd.func50, Tryd.ntmps50
  go_wp2
  go_ret
  exact ⟨rfl, rfl⟩

set_option maxRecDepth 100000 in
set_option maxHeartbeats 4000000 in
theorem changed_id_c {S : Foot} {v : Value} {room n : Int} {l : List Fi} {w : World} (hp : Sl fiE S w v l)  :
    Calls Tryd.prog 49 #[.agg #[.int .i64 room, v], .int .i64 n, .func (.func 50) #[] #[]] w (Ans (idR room l n) (idF room l n) (gtE room l n) w) := by
  have hp := hp.any
  obtain ⟨A, cap, rfl, hc1, hc2, _⟩ := hp.shape
  unfold maxLen at hc2
  have q0 : ((w.alloc (.cells #[.int .i64 room, .slice A l.length cap] 24)).alloc (.cells #[.int .i64 0, .slice none 0 0] 24)).heap[w.heap.size]? = some (.cells #[.int .i64 room, .slice A l.length cap] 24 (0, 0)) := heap_alloc2_old _ _ _
  have q1 : ((w.alloc (.cells #[.int .i64 room, .slice A l.length cap] 24)).alloc (.cells #[.int .i64 0, .slice none 0 0] 24)).heap[w.heap.size + 1]? = some (.cells #[.int .i64 0, .slice none 0 0] 24 (0, 0)) := by
    have := heap_alloc_new (w.alloc (.cells #[.int .i64 room, .slice A l.length cap] 24)) (.cells #[.int .i64 0, .slice none 0 0] 24)
    rwa [World.size_alloc] at this
  have bW : Below w.heap.size w ((w.alloc (.cells #[.int .i64 room, .slice A l.length cap] 24)).alloc (.cells #[.int .i64 0, .slice none 0 0] 24)) := by (repeat (first | with_reducible exact Below.refl _ _ | with_reducible assumption | with_reducible refine bdraw ?_ | with_reducible refine bdrewN ?_ _ | with_reducible refine balloc ?_ _ | with_reducible refine bset ?_ (by simp <;> omega) | with_reducible refine bstep ?_ (by assumption) | with_reducible refine btrans ?_ (by assumption)))
  have HF := fun (w' : World) (bb : Below w.heap.size w w') => Lib.hid (formed_c (room := room) (w := w') (hp.below (by (repeat (first | with_reducible exact Below.refl _ _ | with_reducible assumption | with_reducible refine bdraw ?_ | with_reducible refine bdrewN ?_ _ | with_reducible refine balloc ?_ _ | with_reducible refine bset ?_ (by simp <;> omega) | with_reducible refine bstep ?_ (by assumption) | with_reducible refine btrans ?_ (by assumption)))) (Nat.le_refl _)))

  cases hE : formedD room l
  · have HR := Lib.hid (id_bad (n := n) hE)
    rw [hE] at HF
    clear hE
    go_enter Tryd.func49, Tryd.ntmps49
    go_wp2_with (go_at_call 18; refine (HF _ (by (repeat (first | with_reducible exact Below.refl _ _ | with_reducible assumption | with_reducible refine bdraw ?_ | with_reducible refine bdrewN ?_ _ | with_reducible refine balloc ?_ _ | with_reducible refine bset ?_ (by simp <;> omega) | with_reducible refine bstep ?_ (by assumption) | with_reducible refine btrans ?_ (by assumption))))).out.mono ?_; rintro e w1 ⟨rfl, b1⟩; have q2 := blkb q1 (w' := w1) (by (repeat (first | with_reducible exact Below.refl _ _ | with_reducible assumption | with_reducible refine bdraw ?_ | with_reducible refine bdrewN ?_ _ | with_reducible refine balloc ?_ _ | with_reducible refine bset ?_ (by simp <;> omega) | with_reducible refine bstep ?_ (by assumption) | with_reducible refine btrans ?_ (by assumption)))); have xa0 : w1.cell? ⟨w.heap.size + 1, 0, none⟩ = some (.int .i64 0) := cell_of_row _ _ 0 _ _ _ q2; have fa0 : w1.frozen? ⟨w.heap.size + 1, 0, none⟩ = false := frozen_of_row _ _ 0 _ _ q2; have xa1 : w1.cell? ⟨w.heap.size + 1, 1, none⟩ = some (.slice none 0 0) := cell_of_row _ _ 1 _ _ _ q2; have fa1 : w1.frozen? ⟨w.heap.size + 1, 1, none⟩ = false := frozen_of_row _ _ 1 _ _ q2)
    refine bodyPost_ret (results_cell_tmp1 rfl _ _ (w.heap.size + 1) 24 #[.int .i64 0, .slice none 0 0] (0, 0) _ rfl (set2 q2) Tryd.underlying24 rfl (by kernel_rfl)) rfl ?_
    exact ⟨_, [], by rw [HR.out.1, HR.out.2.2]; rfl, by rw [HR.out.2.1]; exact FP.nil, by (repeat (first | with_reducible exact Below.refl _ _ | with_reducible assumption | with_reducible refine bdraw ?_ | with_reducible refine bdrewN ?_ _ | with_reducible refine balloc ?_ _ | with_reducible refine bset ?_ (by simp <;> omega) | with_reducible refine bstep ?_ (by assumption) | with_reducible refine btrans ?_ (by assumption)))⟩
  · have HE := Lib.hid hE
    have hlen := formedD_len hE
    have HUp := Lib.hid (formedD_up hE)
    have HLow := Lib.hid (fun f hf' => fineF_low (fs := l) (by simp only [formedD, Bool.and_eq_true] at hE; exact hE.2) f hf')
    have hsz := formedD_size hE
    rw [hE] at HF
    clear hE
    obtain ⟨hs1, hs2, hs3⟩ := hsz
    go_enter Tryd.func49, Tryd.ntmps49
    go_wp2_with fail
    refine (HF _ (by (repeat (first | with_reducible exact Below.refl _ _ | with_reducible assumption | with_reducible refine bdraw ?_ | with_reducible refine bdrewN ?_ _ | with_reducible refine balloc ?_ _ | with_reducible refine bset ?_ (by simp <;> omega) | with_reducible refine bstep ?_ (by assumption) | with_reducible refine btrans ?_ (by assumption))))).out.mono ?_
    rintro e w1 ⟨rfl, b1⟩
    have q2 := blkb q0 (w' := w1) (by (repeat (first | with_reducible exact Below.refl _ _ | with_reducible assumption | with_reducible refine bdraw ?_ | with_reducible refine bdrewN ?_ _ | with_reducible refine balloc ?_ _ | with_reducible refine bset ?_ (by simp <;> omega) | with_reducible refine bstep ?_ (by assumption) | with_reducible refine btrans ?_ (by assumption))))
    have xa0 : w1.cell? ⟨w.heap.size, 0, none⟩ = some (.int .i64 room) := cell_of_row _ _ 0 _ _ _ q2; have fa0 : w1.frozen? ⟨w.heap.size, 0, none⟩ = false := frozen_of_row _ _ 0 _ _ q2; have xa1 : w1.cell? ⟨w.heap.size, 1, none⟩ = some (.slice A l.length cap) := cell_of_row _ _ 1 _ _ _ q2; have fa1 : w1.frozen? ⟨w.heap.size, 1, none⟩ = false := frozen_of_row _ _ 1 _ _ q2
    go_wp2_with fail
    refine (find_c (room := room) (o := n) (hp.below (by (repeat (first | with_reducible exact Below.refl _ _ | with_reducible assumption | with_reducible refine bdraw ?_ | with_reducible refine bdrewN ?_ _ | with_reducible refine balloc ?_ _ | with_reducible refine bset ?_ (by simp <;> omega) | with_reducible refine bstep ?_ (by assumption) | with_reducible refine btrans ?_ (by assumption)))) (Nat.le_refl _)) HUp.out (by omega)).mono ?_
    rintro e w2 ⟨i, f, rfl, HI, b2⟩
    have q3 := blkb q2 (w' := w2) (by (repeat (first | with_reducible exact Below.refl _ _ | with_reducible assumption | with_reducible refine bdraw ?_ | with_reducible refine bdrewN ?_ _ | with_reducible refine balloc ?_ _ | with_reducible refine bset ?_ (by simp <;> omega) | with_reducible refine bstep ?_ (by assumption) | with_reducible refine btrans ?_ (by assumption))))
    have z3 := blkb (blkb q1 (w' := w1) (by (repeat (first | with_reducible exact Below.refl _ _ | with_reducible assumption | with_reducible refine bdraw ?_ | with_reducible refine bdrewN ?_ _ | with_reducible refine balloc ?_ _ | with_reducible refine bset ?_ (by simp <;> omega) | with_reducible refine bstep ?_ (by assumption) | with_reducible refine btrans ?_ (by assumption))))) (w' := w2) (by (repeat (first | with_reducible exact Below.refl _ _ | with_reducible assumption | with_reducible refine bdraw ?_ | with_reducible refine bdrewN ?_ _ | with_reducible refine balloc ?_ _ | with_reducible refine bset ?_ (by simp <;> omega) | with_reducible refine bstep ?_ (by assumption) | with_reducible refine btrans ?_ (by assumption))))
    have xb0 : w2.cell? ⟨w.heap.size, 0, none⟩ = some (.int .i64 room) := cell_of_row _ _ 0 _ _ _ q3; have fb0 : w2.frozen? ⟨w.heap.size, 0, none⟩ = false := frozen_of_row _ _ 0 _ _ q3; have xb1 : w2.cell? ⟨w.heap.size, 1, none⟩ = some (.slice A l.length cap) := cell_of_row _ _ 1 _ _ _ q3; have fb1 : w2.frozen? ⟨w.heap.size, 1, none⟩ = false := frozen_of_row _ _ 1 _ _ q3
    have bw2 : Below w.heap.size w w2 := by (repeat (first | with_reducible exact Below.refl _ _ | with_reducible assumption | with_reducible refine bdraw ?_ | with_reducible refine bdrewN ?_ _ | with_reducible refine balloc ?_ _ | with_reducible refine bset ?_ (by simp <;> omega) | with_reducible refine bstep ?_ (by assumption) | with_reducible refine btrans ?_ (by assumption)))
    have hz1 := b1.size
    have hz2 := b2.size
    have hzw : w.heap.size + 2 ≤ w2.heap.size := by simp at hz1; omega
    clear xa0 xa1 fa0 fa1 b1 b2 q0 q1 q2 bW HF
    rcases placed_place HUp.out HI.out with ⟨rfl, hpl, hil⟩ | ⟨rfl, hpl⟩
    rotate_left
    · have HR := Lib.hid (id_none HE.out hpl)
      clear hpl
      have xc0 : w2.cell? ⟨w.heap.size + 1, 0, none⟩ = some (.int .i64 0) := cell_of_row _ _ 0 _ _ _ z3; have fc0 : w2.frozen? ⟨w.heap.size + 1, 0, none⟩ = false := frozen_of_row _ _ 0 _ _ z3; have xc1 : w2.cell? ⟨w.heap.size + 1, 1, none⟩ = some (.slice none 0 0) := cell_of_row _ _ 1 _ _ _ z3; have fc1 : w2.frozen? ⟨w.heap.size + 1, 1, none⟩ = false := frozen_of_row _ _ 1 _ _ z3
      go_wp2
      refine bodyPost_ret (results_cell_tmp1 rfl _ _ (w.heap.size + 1) 24 #[.int .i64 0, .slice none 0 0] (0, 0) _ rfl (set2 z3) Tryd.underlying24 rfl (by kernel_rfl)) rfl ?_
      exact ⟨_, [], by rw [HR.out.1, HR.out.2.2]; rfl, by rw [HR.out.2.1]; exact FP.nil, by (repeat (first | with_reducible exact Below.refl _ _ | with_reducible assumption | with_reducible refine bdraw ?_ | with_reducible refine bdrewN ?_ _ | with_reducible refine balloc ?_ _ | with_reducible refine bset ?_ (by simp <;> omega) | with_reducible refine bstep ?_ (by assumption) | with_reducible refine btrans ?_ (by assumption)))⟩
    · have hiI : (i : Int) < (l.length : Int) := by omega
      have hi0 : (0 : Int) ≤ (i : Int) := by omega
      go_wp2_with fail
      refine (twin_c (room := room) (hp.below (by (repeat (first | with_reducible exact Below.refl _ _ | with_reducible assumption | with_reducible refine bdraw ?_ | with_reducible refine bdrewN ?_ _ | with_reducible refine balloc ?_ _ | with_reducible refine bset ?_ (by simp <;> omega) | with_reducible refine bstep ?_ (by assumption) | with_reducible refine btrans ?_ (by assumption)))) (Nat.le_refl _)) (by omega) (fun f hf => by have := HLow.out f hf; omega)).mono ?_
      rintro e w3 ⟨v3, us, rfl, hF, b3⟩
      obtain ⟨A3, c3, hv3, hc5, hc6, _⟩ := (hF.sl (BO.ok _)).shape
      subst hv3
      unfold maxLen at hc6
      have hz3' := b3.size
      have z4 := blkb z3 (w' := w3.alloc (.cells #[.int .i64 room, .slice A3 l.length c3] 24)) (by (repeat (first | with_reducible exact Below.refl _ _ | with_reducible assumption | with_reducible refine bdraw ?_ | with_reducible refine bdrewN ?_ _ | with_reducible refine balloc ?_ _ | with_reducible refine bset ?_ (by simp <;> omega) | with_reducible refine bstep ?_ (by assumption) | with_reducible refine btrans ?_ (by assumption))))
      have r4 := heap_alloc_new w3 (.cells #[.int .i64 room, .slice A3 l.length c3] 24)
      have hF4 := hF.below (w' := w3.alloc (.cells #[.int .i64 room, .slice A3 l.length c3] 24)) (BO.ok _) (by (repeat (first | with_reducible exact Below.refl _ _ | with_reducible assumption | with_reducible refine bdraw ?_ | with_reducible refine bdrewN ?_ _ | with_reducible refine balloc ?_ _ | with_reducible refine bset ?_ (by simp <;> omega) | with_reducible refine bstep ?_ (by assumption) | with_reducible refine btrans ?_ (by assumption)))) hz3'
      have bw4 : Below w.heap.size w (w3.alloc (.cells #[.int .i64 room, .slice A3 l.length c3] 24)) := by (repeat (first | with_reducible exact Below.refl _ _ | with_reducible assumption | with_reducible refine bdraw ?_ | with_reducible refine bdrewN ?_ _ | with_reducible refine balloc ?_ _ | with_reducible refine bset ?_ (by simp <;> omega) | with_reducible refine bstep ?_ (by assumption) | with_reducible refine btrans ?_ (by assumption)))
      obtain ⟨g, rfl, hg1, hg2⟩ := hF.row.form3 (by omega)
      have hfi : l[i]? = some l[i] := List.getElem?_eq_getElem hil
      clear hF
      have HR := Lib.hid (id_ok HE.out hpl hil)
      clear hpl
      go_wp2_with fail
      refine (idc_c _ ⟨_, rfl⟩ _).mono ?_
      rintro e w5 ⟨rfl, rfl⟩
      have xc0 : (w3.alloc (.cells #[.int .i64 room, .slice (some ⟨g, 0, none⟩) l.length c3] 24)).cell? ⟨w.heap.size + 1, 0, none⟩ = some (.int .i64 0) := cell_of_row _ _ 0 _ _ _ z4; have fc0 : (w3.alloc (.cells #[.int .i64 room, .slice (some ⟨g, 0, none⟩) l.length c3] 24)).frozen? ⟨w.heap.size + 1, 0, none⟩ = false := frozen_of_row _ _ 0 _ _ z4; have xc1 : (w3.alloc (.cells #[.int .i64 room, .slice (some ⟨g, 0, none⟩) l.length c3] 24)).cell? ⟨w.heap.size + 1, 1, none⟩ = some (.slice none 0 0) := cell_of_row _ _ 1 _ _ _ z4; have fc1 : (w3.alloc (.cells #[.int .i64 room, .slice (some ⟨g, 0, none⟩) l.length c3] 24)).frozen? ⟨w.heap.size + 1, 1, none⟩ = false := frozen_of_row _ _ 1 _ _ z4
      have xd0 : (w3.alloc (.cells #[.int .i64 room, .slice (some ⟨g, 0, none⟩) l.length c3] 24)).cell? ⟨w3.heap.size, 0, none⟩ = some (.int .i64 room) := cell_of_row _ _ 0 _ _ _ r4; have fd0 : (w3.alloc (.cells #[.int .i64 room, .slice (some ⟨g, 0, none⟩) l.length c3] 24)).frozen? ⟨w3.heap.size, 0, none⟩ = false := frozen_of_row _ _ 0 _ _ r4; have xd1 : (w3.alloc (.cells #[.int .i64 room, .slice (some ⟨g, 0, none⟩) l.length c3] 24)).cell? ⟨w3.heap.size, 1, none⟩ = some (.slice (some ⟨g, 0, none⟩) l.length c3) := cell_of_row _ _ 1 _ _ _ r4; have fd1 : (w3.alloc (.cells #[.int .i64 room, .slice (some ⟨g, 0, none⟩) l.length c3] 24)).frozen? ⟨w3.heap.size, 1, none⟩ = false := frozen_of_row _ _ 1 _ _ r4
      go_wp2
      have z5 := set2 (a := .int .i64 room) (b := .slice (some ⟨g, 0, none⟩) l.length c3) z4
      clear xd0 xd1 fd0 fd1 xc0 xc1 fc0 fc1
      have hbz : Below w.heap.size w (((w3.alloc (.cells #[.int .i64 room, .slice (some ⟨g, 0, none⟩) l.length c3] 24)).setCell ⟨w.heap.size + 1, 0, none⟩ (.int .i64 room)).setCell ⟨w.heap.size + 1, 1, none⟩ (.slice (some ⟨g, 0, none⟩) l.length c3)) := by (repeat (first | with_reducible exact Below.refl _ _ | with_reducible assumption | with_reducible refine bdraw ?_ | with_reducible refine bdrewN ?_ _ | with_reducible refine balloc ?_ _ | with_reducible refine bset ?_ (by simp <;> omega) | with_reducible refine bstep ?_ (by assumption) | with_reducible refine btrans ?_ (by assumption)))
      have hfin := ((hF4.far (p := ⟨w.heap.size + 1, 0, none⟩) (z := .int .i64 room) (BO.ok _) (by simp; omega)).far (p := ⟨w.heap.size + 1, 1, none⟩) (z := .slice (some ⟨g, 0, none⟩) l.length c3) (BO.ok _) (by simp; omega)).low (B' := w.heap.size) (by omega)
      refine bodyPost_ret (results_cell_tmp1 rfl _ _ (w.heap.size + 1) 24 #[.int .i64 room, .slice (some ⟨g, 0, none⟩) l.length c3] (0, 0) _ rfl z5 Tryd.underlying24 rfl (by kernel_rfl)) rfl ?_
      refine ⟨_, us, by rw [HR.out.1, HR.out.2.2]; rfl, ?_, hbz⟩
      rw [HR.out.2.1]
      exact hfin

set_option maxHeartbeats 4000000 in
theorem remove_c {S : Foot} {v : Value} {room n : Int} {l : List Fi} {w : World} (hp : Sl fiE S w v l) :
    Calls Tryd.prog 34 #[.agg #[.int .i64 room, v], .int .i64 n] w (AnsS (idR room l n) (rmF room l n) (gtE room l n) w) := by
  have hp := hp.any
  obtain ⟨A, cap, rfl, hc1, hc2, _⟩ := hp.shape
  unfold maxLen at hc2
  have q0 : ((w.alloc (.cells #[.int .i64 room, .slice A l.length cap] 24)).alloc (.cells #[.int .i64 0, .slice none 0 0] 24)).heap[w.heap.size]? = some (.cells #[.int .i64 room, .slice A l.length cap] 24 (0, 0)) := heap_alloc2_old _ _ _
  have q1 : ((w.alloc (.cells #[.int .i64 room, .slice A l.length cap] 24)).alloc (.cells #[.int .i64 0, .slice none 0 0] 24)).heap[w.heap.size + 1]? = some (.cells #[.int .i64 0, .slice none 0 0] 24 (0, 0)) := by
    have := heap_alloc_new (w.alloc (.cells #[.int .i64 room, .slice A l.length cap] 24)) (.cells #[.int .i64 0, .slice none 0 0] 24)
    rwa [World.size_alloc] at this
  have bW : Below w.heap.size w ((w.alloc (.cells #[.int .i64 room, .slice A l.length cap] 24)).alloc (.cells #[.int .i64 0, .slice none 0 0] 24)) := by (repeat (first | with_reducible exact Below.refl _ _ | with_reducible assumption | with_reducible refine bdraw ?_ | with_reducible refine bdrewN ?_ _ | with_reducible refine balloc ?_ _ | with_reducible refine bset ?_ (by simp <;> omega) | with_reducible refine bstep ?_ (by assumption) | with_reducible refine btrans ?_ (by assumption)))
  by_cases hE : gtE room l n = 0
  rotate_left
  · have HR := Lib.hid (rm_no hE)
    have d1 : (gtE room l n != 0) = true := by simpa using hE
    clear hE
    go_enter Tryd.func34, Tryd.ntmps34
    go_wp2_with fail
    refine (changed_id_c (room := room) (n := n) (hp.below (by (repeat (first | with_reducible exact Below.refl _ _ | with_reducible assumption | with_reducible refine bdraw ?_ | with_reducible refine bdrewN ?_ _ | with_reducible refine balloc ?_ _ | with_reducible refine bset ?_ (by simp <;> omega) | with_reducible refine bstep ?_ (by assumption) | with_reducible refine btrans ?_ (by assumption)))) (Nat.le_refl _))).mono ?_
    rintro e w1 ⟨v1, us1, rfl, hF, b1⟩
    obtain ⟨A1, c1, rfl, _⟩ := (hF.sl (BO.ok _)).shape
    have q2 := blkb q1 (w' := (w1.alloc (.cells #[.int .i64 (idR room l n), .slice A1 (idF room l n).length c1] 24))) (by (repeat (first | with_reducible exact Below.refl _ _ | with_reducible assumption | with_reducible refine bdraw ?_ | with_reducible refine bdrewN ?_ _ | with_reducible refine balloc ?_ _ | with_reducible refine bset ?_ (by simp <;> omega) | with_reducible refine bstep ?_ (by assumption) | with_reducible refine btrans ?_ (by assumption))))
    have xc0 : (w1.alloc (.cells #[.int .i64 (idR room l n), .slice A1 (idF room l n).length c1] 24)).cell? ⟨w.heap.size + 1, 0, none⟩ = some (.int .i64 0) := cell_of_row _ _ 0 _ _ _ q2; have fc0 : (w1.alloc (.cells #[.int .i64 (idR room l n), .slice A1 (idF room l n).length c1] 24)).frozen? ⟨w.heap.size + 1, 0, none⟩ = false := frozen_of_row _ _ 0 _ _ q2; have xc1 : (w1.alloc (.cells #[.int .i64 (idR room l n), .slice A1 (idF room l n).length c1] 24)).cell? ⟨w.heap.size + 1, 1, none⟩ = some (.slice none 0 0) := cell_of_row _ _ 1 _ _ _ q2; have fc1 : (w1.alloc (.cells #[.int .i64 (idR room l n), .slice A1 (idF room l n).length c1] 24)).frozen? ⟨w.heap.size + 1, 1, none⟩ = false := frozen_of_row _ _ 1 _ _ q2
    go_wp2
    refine bodyPost_ret (results_cell_tmp1 rfl _ _ (w.heap.size + 1) 24 #[.int .i64 0, .slice none 0 0] (0, 0) _ rfl (set2 q2) Tryd.underlying24 rfl (by kernel_rfl)) rfl ?_
    exact ⟨_, by rw [HR.out.2.2]; rfl, by rw [HR.out.1]; exact Sl.nil, by (repeat (first | with_reducible exact Below.refl _ _ | with_reducible assumption | with_reducible refine bdraw ?_ | with_reducible refine bdrewN ?_ _ | with_reducible refine balloc ?_ _ | with_reducible refine bset ?_ (by simp <;> omega) | with_reducible refine bstep ?_ (by assumption) | with_reducible refine btrans ?_ (by assumption)))⟩
  · obtain ⟨hf, i, hpl, hil⟩ := gt_cases hE
    have HR := Lib.hid (rm_ok hE hpl)
    have hid := id_ok hf hpl hil
    have HC := fun (w' : World) (bb : Below w.heap.size w w') => Lib.hid (changed_id_c (room := room) (n := n) (w := w') (hp.below (by (repeat (first | with_reducible exact Below.refl _ _ | with_reducible assumption | with_reducible refine bdraw ?_ | with_reducible refine bdrewN ?_ _ | with_reducible refine balloc ?_ _ | with_reducible refine bset ?_ (by simp <;> omega) | with_reducible refine bstep ?_ (by assumption) | with_reducible refine btrans ?_ (by assumption)))) (Nat.le_refl _)))
    rw [hid.1, hid.2.1, hid.2.2] at HC
    have HRR := Lib.hid hid
    have hlen := formedD_len hf
    have HUp := Lib.hid (formedD_up hf)
    have HPL := Lib.hid hpl
    clear hid hE hf hpl
    go_enter Tryd.func34, Tryd.ntmps34
    go_wp2_with fail
    refine (HC _ (by (repeat (first | with_reducible exact Below.refl _ _ | with_reducible assumption | with_reducible refine bdraw ?_ | with_reducible refine bdrewN ?_ _ | with_reducible refine balloc ?_ _ | with_reducible refine bset ?_ (by simp <;> omega) | with_reducible refine bstep ?_ (by assumption) | with_reducible refine btrans ?_ (by assumption))))).out.mono ?_
    rintro e w1 ⟨v1, us1, rfl, hF, b1⟩
    obtain ⟨A1, c1, hv1, hc5, hc6, _⟩ := (hF.sl (BO.ok _)).shape
    subst hv1
    unfold maxLen at hc6
    have s1 := (hF.sl (BO.ok _)).any
    have hz1 := b1.size
    simp only [World.size_alloc] at hz1 hF
    have z2 := blkb q1 (w' := (w1.alloc (.cells #[.int .i64 room, .slice A1 l.length c1] 24))) (by (repeat (first | with_reducible exact Below.refl _ _ | with_reducible assumption | with_reducible refine bdraw ?_ | with_reducible refine bdrewN ?_ _ | with_reducible refine balloc ?_ _ | with_reducible refine bset ?_ (by simp <;> omega) | with_reducible refine bstep ?_ (by assumption) | with_reducible refine btrans ?_ (by assumption))))
    have r2 := heap_alloc_new w1 (.cells #[.int .i64 room, .slice A1 l.length c1] 24)
    have hb1 : Below w.heap.size w w1 := by (repeat (first | with_reducible exact Below.refl _ _ | with_reducible assumption | with_reducible refine bdraw ?_ | with_reducible refine bdrewN ?_ _ | with_reducible refine balloc ?_ _ | with_reducible refine bset ?_ (by simp <;> omega) | with_reducible refine bstep ?_ (by assumption) | with_reducible refine btrans ?_ (by assumption)))
    clear b1 bW q0 q1 HC
    have xd0 : (w1.alloc (.cells #[.int .i64 room, .slice A1 l.length c1] 24)).cell? ⟨w1.heap.size, 0, none⟩ = some (.int .i64 room) := cell_of_row _ _ 0 _ _ _ r2; have fd0 : (w1.alloc (.cells #[.int .i64 room, .slice A1 l.length c1] 24)).frozen? ⟨w1.heap.size, 0, none⟩ = false := frozen_of_row _ _ 0 _ _ r2; have xd1 : (w1.alloc (.cells #[.int .i64 room, .slice A1 l.length c1] 24)).cell? ⟨w1.heap.size, 1, none⟩ = some (.slice A1 l.length c1) := cell_of_row _ _ 1 _ _ _ r2; have fd1 : (w1.alloc (.cells #[.int .i64 room, .slice A1 l.length c1] 24)).frozen? ⟨w1.heap.size, 1, none⟩ = false := frozen_of_row _ _ 1 _ _ r2
    go_wp2_with fail
    refine (find_c (room := room) (o := n) (s1.below (by (repeat (first | with_reducible exact Below.refl _ _ | with_reducible assumption | with_reducible refine bdraw ?_ | with_reducible refine bdrewN ?_ _ | with_reducible refine balloc ?_ _ | with_reducible refine bset ?_ (by simp <;> omega) | with_reducible refine bstep ?_ (by assumption) | with_reducible refine btrans ?_ (by assumption)))) (Nat.le_refl _)) HUp.out (by omega)).mono ?_
    rintro e w2 ⟨j, f, rfl, HI, b2⟩
    rcases placed_place HUp.out HI.out with ⟨rfl, hpl, hjl⟩ | ⟨rfl, hpl⟩
    rotate_left
    · have := HPL.out
      omega
    obtain rfl : j = i := by have := HPL.out; omega
    have r3 := blkb r2 (w' := w2) (by (repeat (first | with_reducible exact Below.refl _ _ | with_reducible assumption | with_reducible refine bdraw ?_ | with_reducible refine bdrewN ?_ _ | with_reducible refine balloc ?_ _ | with_reducible refine bset ?_ (by simp <;> omega) | with_reducible refine bstep ?_ (by assumption) | with_reducible refine btrans ?_ (by assumption))))
    have z3 := blkb z2 (w' := w2) (by (repeat (first | with_reducible exact Below.refl _ _ | with_reducible assumption | with_reducible refine bdraw ?_ | with_reducible refine bdrewN ?_ _ | with_reducible refine balloc ?_ _ | with_reducible refine bset ?_ (by simp <;> omega) | with_reducible refine bstep ?_ (by assumption) | with_reducible refine btrans ?_ (by assumption))))
    have hF2 := hF.below (w' := w2) (BO.ok _) (by (repeat (first | with_reducible exact Below.refl _ _ | with_reducible assumption | with_reducible refine bdraw ?_ | with_reducible refine bdrewN ?_ _ | with_reducible refine balloc ?_ _ | with_reducible refine bset ?_ (by simp <;> omega) | with_reducible refine bstep ?_ (by assumption) | with_reducible refine btrans ?_ (by assumption)))) (by omega)
    have bw2 : Below w.heap.size w w2 := by (repeat (first | with_reducible exact Below.refl _ _ | with_reducible assumption | with_reducible refine bdraw ?_ | with_reducible refine bdrewN ?_ _ | with_reducible refine balloc ?_ _ | with_reducible refine bset ?_ (by simp <;> omega) | with_reducible refine bstep ?_ (by assumption) | with_reducible refine btrans ?_ (by assumption)))
    obtain ⟨g, rfl, hg1, hg2⟩ := hF.row.form3 (by omega)
    have htl := tris_len l us1 hF.len
    have hwr : IntKind.i64.wrap ((j : Int) + 1) = (j : Int) + 1 := IntWalk.i64_in _ (by omega)
    have HU1 := Lib.hid (fun (i : Nat) (u : Value) (g' : Nat) (hu : us1[i]? = some u) (hg' : u.ownBlock = some g') => (hF.lt (BO.ok _) hu (by have := (List.getElem?_eq_some_iff.1 hu).1; rw [hF.len] at this; exact this) hg').2)
    clear xd0 xd1 fd0 fd1 r2 z2 hF b2 hpl s1
    have xd0 : w2.cell? ⟨w1.heap.size, 0, none⟩ = some (.int .i64 room) := cell_of_row _ _ 0 _ _ _ r3; have fd0 : w2.frozen? ⟨w1.heap.size, 0, none⟩ = false := frozen_of_row _ _ 0 _ _ r3; have xd1 : w2.cell? ⟨w1.heap.size, 1, none⟩ = some (.slice (some ⟨g, 0, none⟩) l.length c1) := cell_of_row _ _ 1 _ _ _ r3; have fd1 : w2.frozen? ⟨w1.heap.size, 1, none⟩ = false := frozen_of_row _ _ 1 _ _ r3
    have HD := Lib.hid (delf_c (k := j) (cap := c1) (l := tris l us1) (by rw [htl]; exact hF2.row) (by rw [htl]; exact hjl) (by rw [htl]; exact hc5) (by omega))
    rw [htl] at HD
    go_wp2_with fail
    refine HD.out.mono ?_
    rintro e w3 ⟨rfl, o3, g3⟩
    have r4 := blkg r3 g3 (fun g' hg' => by have := some_blk (g := g) hg'; omega)
    have z4 := blkg z3 g3 (fun g' hg' => by have := some_blk (g := g) hg'; omega)
    have bw3 : Below w.heap.size w w3 := bw2.trans (bgrown g3 (by have := bw2.size; omega) (fun g' hg' => by have := some_blk (g := g) hg'; omega))
    have hF3 := hF2.erase o3 g3
    have hzz : w.heap.size + 1 < w1.heap.size := by omega
    clear xd0 xd1 fd0 fd1 r3 z3 HD o3 g3 hF2
    have hE2 : (l.eraseIdx j).length = l.length - 1 := by rw [List.length_eraseIdx, if_pos hjl]
    have r5 := heap_setCell_same w3 w1.heap.size 1 _ _ (.slice (some ⟨g, 0, none⟩) (l.length - 1) c1) r4
    have z5 := (heap_setCell_other w3 ⟨w1.heap.size, 1, none⟩ (w.heap.size + 1) (.slice (some ⟨g, 0, none⟩) (l.length - 1) c1) (by simp; omega)).trans z4
    have xd0 : w3.cell? ⟨w1.heap.size, 0, none⟩ = some (.int .i64 room) := cell_of_row _ _ 0 _ _ _ r4; have fd0 : w3.frozen? ⟨w1.heap.size, 0, none⟩ = false := frozen_of_row _ _ 0 _ _ r4; have xd1 : w3.cell? ⟨w1.heap.size, 1, none⟩ = some (.slice (some ⟨g, 0, none⟩) l.length c1) := cell_of_row _ _ 1 _ _ _ r4; have fd1 : w3.frozen? ⟨w1.heap.size, 1, none⟩ = false := frozen_of_row _ _ 1 _ _ r4
    have xc0 : (w3.setCell ⟨w1.heap.size, 1, none⟩ (.slice (some ⟨g, 0, none⟩) (l.length - 1) c1)).cell? ⟨w.heap.size + 1, 0, none⟩ = some (.int .i64 0) := cell_of_row _ _ 0 _ _ _ z5; have fc0 : (w3.setCell ⟨w1.heap.size, 1, none⟩ (.slice (some ⟨g, 0, none⟩) (l.length - 1) c1)).frozen? ⟨w.heap.size + 1, 0, none⟩ = false := frozen_of_row _ _ 0 _ _ z5; have xc1 : (w3.setCell ⟨w1.heap.size, 1, none⟩ (.slice (some ⟨g, 0, none⟩) (l.length - 1) c1)).cell? ⟨w.heap.size + 1, 1, none⟩ = some (.slice none 0 0) := cell_of_row _ _ 1 _ _ _ z5; have fc1 : (w3.setCell ⟨w1.heap.size, 1, none⟩ (.slice (some ⟨g, 0, none⟩) (l.length - 1) c1)).frozen? ⟨w.heap.size + 1, 1, none⟩ = false := frozen_of_row _ _ 1 _ _ z5
    have xe0 : (w3.setCell ⟨w1.heap.size, 1, none⟩ (.slice (some ⟨g, 0, none⟩) (l.length - 1) c1)).cell? ⟨w1.heap.size, 0, none⟩ = some (.int .i64 room) := cell_of_row _ _ 0 _ _ _ r5; have fe0 : (w3.setCell ⟨w1.heap.size, 1, none⟩ (.slice (some ⟨g, 0, none⟩) (l.length - 1) c1)).frozen? ⟨w1.heap.size, 0, none⟩ = false := frozen_of_row _ _ 0 _ _ r5; have xe1 : (w3.setCell ⟨w1.heap.size, 1, none⟩ (.slice (some ⟨g, 0, none⟩) (l.length - 1) c1)).cell? ⟨w1.heap.size, 1, none⟩ = some (.slice (some ⟨g, 0, none⟩) (l.length - 1) c1) := cell_of_row _ _ 1 _ _ _ r5; have fe1 : (w3.setCell ⟨w1.heap.size, 1, none⟩ (.slice (some ⟨g, 0, none⟩) (l.length - 1) c1)).frozen? ⟨w1.heap.size, 1, none⟩ = false := frozen_of_row _ _ 1 _ _ r5
    go_wp2
    refine bodyPost_ret (results_cell_tmp1 rfl _ _ (w.heap.size + 1) 24 #[.int .i64 room, .slice (some ⟨g, 0, none⟩) (l.length - 1) c1] (0, 0) _ rfl (set2 z5) Tryd.underlying24 rfl (by kernel_rfl)) rfl ?_
    have hb9 : Below w.heap.size w (w3.setCell ⟨w1.heap.size, 1, none⟩ (.slice (some ⟨g, 0, none⟩) (l.length - 1) c1)) := by (repeat (first | with_reducible exact Below.refl _ _ | with_reducible assumption | with_reducible refine bdraw ?_ | with_reducible refine bdrewN ?_ _ | with_reducible refine balloc ?_ _ | with_reducible refine bset ?_ (by simp <;> omega) | with_reducible refine bstep ?_ (by assumption) | with_reducible refine btrans ?_ (by assumption)))
    refine ⟨_, by rw [HRR.out.1, HRR.out.2.2]; rfl, ?_, by (repeat (first | with_reducible exact Below.refl _ _ | with_reducible assumption | with_reducible refine bdraw ?_ | with_reducible refine bdrewN ?_ _ | with_reducible refine balloc ?_ _ | with_reducible refine bset ?_ (by simp <;> omega) | with_reducible refine bstep ?_ (by assumption) | with_reducible refine btrans ?_ (by assumption)))⟩
    rw [HR.out]
    have hF5 := hF3.keepAll (w' := w3.setCell ⟨w1.heap.size, 1, none⟩ (.slice (some ⟨g, 0, none⟩) (l.length - 1) c1)) (BO.ok _) (fun g' hg' => heap_setCell_other w3 ⟨w1.heap.size, 1, none⟩ g' _ (by have := some_blk (g := g) hg'; simp; omega)) (fun i u g' hu _ hg' => heap_setCell_other w3 ⟨w1.heap.size, 1, none⟩ g' _ (by have := HU1.out _ u g' (erase_get hu) hg'; simp; omega))
    rw [hE2.symm] at hF5 ⊢
    exact (((hF5.far (BO.ok _) (by simp)).far (BO.ok _) (by simp)).sl (BO.ok _)).mono (fun b fr h _ => ⟨by have := h.1; omega, h.2⟩)
end Go.Proofs.YtbahiohlhhdkcaaDoor
