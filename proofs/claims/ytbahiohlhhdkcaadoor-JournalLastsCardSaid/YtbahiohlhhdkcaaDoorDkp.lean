/- Disks: the program's Crash. -/
import Derived.Test.YtbahiohlhhdkcaaDoorDko
set_option linter.unusedSimpArgs false
namespace Go.Proofs.YtbahiohlhhdkcaaDoor
open Go.RowKit

def crN (k : Int) (f : Fi) : Int := if (f.b.length : Int) - f.s < k then f.b.length - f.s else k
def crOne (k : Int) (f : Fi) : Fi := ⟨f.n, f.b.take (f.s + crN k f).toNat, f.s + crN k f⟩
def crS (s : List Fi × Int × Int) (f : Fi) : List Fi × Int × Int := (s.1 ++ [crOne s.2.1 f], s.2.1 - crN s.2.1 f, if 0 < crN s.2.1 f then (s.1.length : Int) else s.2.2)
/-- the files cut, what is left to keep, and the last file of which something was kept -/
def cr (l : List Fi) (k : Int) : List Fi × Int × Int := l.foldl crS ([], k, -1)
theorem cr_step (l : List Fi) (k : Int) {i : Nat} (hi : i < l.length) : cr (l.take (i + 1)) k = crS (cr (l.take i) k) l[i] := by
  unfold cr
  rw [List.take_succ_eq_append_getElem hi, List.foldl_append]
  rfl
theorem cr_len (l : List Fi) (k : Int) {i : Nat} (hi : i ≤ l.length) : (cr (l.take i) k).1.length = i := by
  induction i with
  | zero => rfl
  | succ i ih => rw [cr_step l k (by omega)]; simp [crS, ih (by omega)]
theorem crN_in {k : Int} {f : Fi} (hk : 0 ≤ k) (hs : f.s ≤ (f.b.length : Int)) : 0 ≤ crN k f ∧ crN k f ≤ k ∧ crN k f ≤ (f.b.length : Int) - f.s := by
  unfold crN; split <;> omega
def flip1 (t : UInt8) (f : Fi) : Fi := ⟨f.n, f.b.set (f.b.length - 1) (xr (f.b.getD (f.b.length - 1) 0) t), f.s⟩
def flipAt (L : List Fi) (j : Int) (t : UInt8) : List Fi :=
  if j < 0 then L else match L[j.toNat]? with
    | some f => L.set j.toNat (flip1 t f)
    | none => L
def crOk (room : Int) (l : List Fi) (keep turn : Int) : Prop := formedD room l = true ∧ 0 ≤ keep ∧ 0 ≤ turn ∧ turn ≤ 255
instance (room : Int) (l : List Fi) (keep turn : Int) : Decidable (crOk room l keep turn) := by unfold crOk; infer_instance
def crE (room : Int) (l : List Fi) (keep turn : Int) : Int := if crOk room l keep turn then 0 else 1
def crR (room : Int) (l : List Fi) (keep turn : Int) : Int := if crOk room l keep turn then room else 0
def crF (room : Int) (l : List Fi) (keep turn : Int) : List Fi := if crOk room l keep turn then flipAt (cr l keep).1 (cr l keep).2.2 (UInt8.ofNat turn.toNat) else []

/-- where the last byte kept lies -/
def Lst (L : List Fi) (us : List Value) (j : Int) (lv : Value) : Prop :=
  (j = -1 ∧ lv = .pointer none) ∨ ∃ (i : Nat) (f : Fi) (y n c : Nat), j = (i : Int) ∧ L[i]? = some f ∧ 0 < f.b.length ∧ us[i]? = some (.slice (some ⟨y, 0, none⟩) n c) ∧ lv = .pointer (some ⟨y, f.b.length - 1, none⟩)

theorem Lst.ext {L : List Fi} {us : List Value} {j : Int} {lv : Value} {k : Nat} (h : Lst L us j lv) (hL : L.length = k) (x : Fi) (u : Value) : Lst (L ++ [x]) (us.set k u) j lv := by
  rcases h with h | ⟨i, f, y, n, c, h1, h2, h3, h4, h5⟩
  · exact .inl h
  · have hi := (List.getElem?_eq_some_iff.1 h2).1
    exact .inr ⟨i, f, y, n, c, h1, by rw [List.getElem?_append_left hi]; exact h2, h3, by rw [List.getElem?_set_ne (by omega)]; exact h4, h5⟩
theorem flipAt_none (L : List Fi) (t : UInt8) : flipAt L (-1) t = L := rfl
theorem flipAt_some {L : List Fi} {i : Nat} {f : Fi} (h : L[i]? = some f) (hb : f.b.length - 1 < f.b.length) (t : UInt8) : flipAt L (i : Int) t = L.set i ⟨f.n, f.b.set (f.b.length - 1) (xr f.b[f.b.length - 1] t), f.s⟩ := by
  unfold flipAt
  rw [if_neg (by omega), Int.toNat_natCast, h]
  simp only [flip1]
  rw [List.getD_eq_getElem?_getD, List.getElem?_eq_getElem hb]
  rfl
attribute [local go_sem] u8_xr
set_option maxRecDepth 100000 in
set_option maxHeartbeats 8000000 in
theorem crash_c {S : Foot} {v : Value} {room keep turn : Int} {l : List Fi} {w : World} (hp : Sl fiE S w v l) (hkp : keep ≤ 9223372036854775807) :
    Calls Tryd.prog 25 #[.agg #[.int .i64 room, v], .int .i64 keep, .int .i64 turn] w (AnsS (crR room l keep turn) (crF room l keep turn) (crE room l keep turn) w) := by
  have hp := hp.any
  obtain ⟨A, cap, rfl, hc1, hc2, _⟩ := hp.shape
  unfold maxLen at hc2
  have q0 : ((w.alloc (.cells #[.int .i64 room, .slice A l.length cap] 24)).alloc (.cells #[.int .i64 0, .slice none 0 0] 24)).heap[w.heap.size]? = some (.cells #[.int .i64 room, .slice A l.length cap] 24 (0, 0)) := heap_alloc2_old _ _ _
  have q1 : ((w.alloc (.cells #[.int .i64 room, .slice A l.length cap] 24)).alloc (.cells #[.int .i64 0, .slice none 0 0] 24)).heap[w.heap.size + 1]? = some (.cells #[.int .i64 0, .slice none 0 0] 24 (0, 0)) := by
    have := heap_alloc_new (w.alloc (.cells #[.int .i64 room, .slice A l.length cap] 24)) (.cells #[.int .i64 0, .slice none 0 0] 24)
    rwa [World.size_alloc] at this
  have HF := fun (w' : World) (bb : Below w.heap.size w w') => Lib.hid (formed_c (room := room) (w := w') (hp.below (by (repeat (first | with_reducible exact Below.refl _ _ | with_reducible assumption | with_reducible refine bdraw ?_ | with_reducible refine bdrewN ?_ _ | with_reducible refine balloc ?_ _ | with_reducible refine bset ?_ (by simp <;> omega) | with_reducible refine bstep ?_ (by assumption) | with_reducible refine btrans ?_ (by assumption)))) (Nat.le_refl _)))
  by_cases hE : crOk room l keep turn
  rotate_left
  · have HR : Hid (crE room l keep turn = 1 ∧ crF room l keep turn = [] ∧ crR room l keep turn = 0) := Lib.hid (by simp [crE, crF, crR, hE])
    have h3 : formedD room l = false ∨ (formedD room l = true ∧ (keep < 0 ∨ 0 ≤ keep ∧ turn < 0 ∨ 0 ≤ keep ∧ 0 ≤ turn ∧ 255 < turn)) := by
      cases h : formedD room l
      · exact .inl rfl
      · exact .inr ⟨rfl, by unfold crOk at hE; rw [h] at hE; simp at hE; omega⟩
    clear hE
    go_enter Tryd.func25, Tryd.ntmps25
    rcases h3 with h3 | ⟨h3, h4 | ⟨h4, h5⟩ | ⟨h4, h5, h6⟩⟩
    all_goals
      rw [h3] at HF
      clear h3
      go_wp2_with (go_at_call 18; refine (HF _ (by (repeat (first | with_reducible exact Below.refl _ _ | with_reducible assumption | with_reducible refine bdraw ?_ | with_reducible refine bdrewN ?_ _ | with_reducible refine balloc ?_ _ | with_reducible refine bset ?_ (by simp <;> omega) | with_reducible refine bstep ?_ (by assumption) | with_reducible refine btrans ?_ (by assumption))))).out.mono ?_; rintro e w1 ⟨rfl, b1⟩; have q2 := blkb q1 (w' := w1) (by (repeat (first | with_reducible exact Below.refl _ _ | with_reducible assumption | with_reducible refine bdraw ?_ | with_reducible refine bdrewN ?_ _ | with_reducible refine balloc ?_ _ | with_reducible refine bset ?_ (by simp <;> omega) | with_reducible refine bstep ?_ (by assumption) | with_reducible refine btrans ?_ (by assumption)))); have xa0 : w1.cell? ⟨w.heap.size + 1, 0, none⟩ = some (.int .i64 0) := cell_of_row _ _ 0 _ _ _ q2; have fa0 : w1.frozen? ⟨w.heap.size + 1, 0, none⟩ = false := frozen_of_row _ _ 0 _ _ q2; have xa1 : w1.cell? ⟨w.heap.size + 1, 1, none⟩ = some (.slice none 0 0) := cell_of_row _ _ 1 _ _ _ q2; have fa1 : w1.frozen? ⟨w.heap.size + 1, 1, none⟩ = false := frozen_of_row _ _ 1 _ _ q2)
      refine bodyPost_ret (results_cell_tmp1 rfl _ _ (w.heap.size + 1) 24 #[.int .i64 0, .slice none 0 0] (0, 0) _ rfl (set2 q2) Tryd.underlying24 rfl (by kernel_rfl)) rfl ?_
      exact ⟨_, by rw [HR.out.1, HR.out.2.2]; rfl, by rw [HR.out.2.1]; exact Sl.nil, by (repeat (first | with_reducible exact Below.refl _ _ | with_reducible assumption | with_reducible refine bdraw ?_ | with_reducible refine bdrewN ?_ _ | with_reducible refine balloc ?_ _ | with_reducible refine bset ?_ (by simp <;> omega) | with_reducible refine bstep ?_ (by assumption) | with_reducible refine btrans ?_ (by assumption)))⟩
  · obtain ⟨hE, hk0, ht0, ht1⟩ := id hE
    have HR : Hid (crE room l keep turn = 0 ∧ crF room l keep turn = flipAt (cr l keep).1 (cr l keep).2.2 (UInt8.ofNat turn.toNat) ∧ crR room l keep turn = room) := Lib.hid (by simp [crE, crF, crR, crOk, hE, hk0, ht0, ht1])
    have hlen := formedD_len hE
    have hsz := formedD_size hE
    have hlow := fun f hf' => fineF_low (fs := l) (by simp only [formedD, Bool.and_eq_true] at hE; exact hE.2) f hf'
    have HLow := Lib.hid hlow
    rw [hE] at HF
    clear hE hlow
    obtain ⟨hs1, hs2, hs3⟩ := hsz
    go_enter Tryd.func25, Tryd.ntmps25
    go_wp2_with fail
    refine (HF _ (by (repeat (first | with_reducible exact Below.refl _ _ | with_reducible assumption | with_reducible refine bdraw ?_ | with_reducible refine bdrewN ?_ _ | with_reducible refine balloc ?_ _ | with_reducible refine bset ?_ (by simp <;> omega) | with_reducible refine bstep ?_ (by assumption) | with_reducible refine btrans ?_ (by assumption))))).out.mono ?_
    rintro e w1 ⟨rfl, b1⟩
    have p0 := (At.of_cell (cell_of_row _ w.heap.size 0 _ _ _ q0)).2
    have p1 := (At.of_cell (cell_of_row _ w.heap.size 1 _ _ _ q0)).2
    have a0 := atb p0 b1
    have a1 := atb p1 b1
    go_wp2_with fail
    refine (twin_c (room := room) (hp.below (by (repeat (first | with_reducible exact Below.refl _ _ | with_reducible assumption | with_reducible refine bdraw ?_ | with_reducible refine bdrewN ?_ _ | with_reducible refine balloc ?_ _ | with_reducible refine bset ?_ (by simp <;> omega) | with_reducible refine bstep ?_ (by assumption) | with_reducible refine btrans ?_ (by assumption)))) (Nat.le_refl _)) (by omega) (fun f hf => by have := HLow.out f hf; omega)).mono ?_
    rintro e w3 ⟨v3, us, rfl, hF, b3⟩
    obtain ⟨A3, c3, hv3, hc5, hc6, _⟩ := (hF.sl (BO.ok _)).shape
    subst hv3
    unfold maxLen at hc6
    have hz1 : w.heap.size + 2 ≤ w1.heap.size := by have := b1.size; simp at this; omega
    have hz3 := b3.size
    have z3 := blkb q1 (w' := w3) (by (repeat (first | with_reducible exact Below.refl _ _ | with_reducible assumption | with_reducible refine bdraw ?_ | with_reducible refine bdrewN ?_ _ | with_reducible refine balloc ?_ _ | with_reducible refine bset ?_ (by simp <;> omega) | with_reducible refine bstep ?_ (by assumption) | with_reducible refine btrans ?_ (by assumption))))
    have r3 := heap_alloc_new w3 (.cells #[.int .i64 room, .slice A3 l.length c3] 24)
    have hF0 : FP (BW w1.heap.size) w1.heap.size (w3.alloc (.cells #[.int .i64 room, .slice A3 l.length c3] 24)) (.slice A3 l.length c3) ((cr (l.take 0) keep).1 ++ l.drop 0) us l.length :=
      hF.w.below (BW.ok _) (by (repeat (first | with_reducible exact Below.refl _ _ | with_reducible assumption | with_reducible refine bdraw ?_ | with_reducible refine bdrewN ?_ _ | with_reducible refine balloc ?_ _ | with_reducible refine bset ?_ (by simp <;> omega) | with_reducible refine bstep ?_ (by assumption) | with_reducible refine btrans ?_ (by assumption)))) hz3
    have bW : Below w.heap.size w (w3.alloc (.cells #[.int .i64 room, .slice A3 l.length c3] 24)) := by (repeat (first | with_reducible exact Below.refl _ _ | with_reducible assumption | with_reducible refine bdraw ?_ | with_reducible refine bdrewN ?_ _ | with_reducible refine balloc ?_ _ | with_reducible refine bset ?_ (by simp <;> omega) | with_reducible refine bstep ?_ (by assumption) | with_reducible refine btrans ?_ (by assumption)))
    have z4 := blkb z3 (w' := w3.alloc (.cells #[.int .i64 room, .slice A3 l.length c3] 24)) (by (repeat (first | with_reducible exact Below.refl _ _ | with_reducible assumption | with_reducible refine bdraw ?_ | with_reducible refine bdrewN ?_ _ | with_reducible refine balloc ?_ _ | with_reducible refine bset ?_ (by simp <;> omega) | with_reducible refine bstep ?_ (by assumption) | with_reducible refine btrans ?_ (by assumption))))
    have hw3 : w1.heap.size ≤ w3.heap.size := hz3
    have hws : w3.heap.size < (w3.alloc (.cells #[.int .i64 room, .slice A3 l.length c3] 24)).heap.size := by simp
    have hrs : ∀ g, (Value.slice A3 l.length c3).ownBlock = some g → g < w3.heap.size := fun g hg => (hF.row.lt g hg).2
    have HU0 : Hid (∀ (i : Nat) (u : Value) (g : Nat), us[i]? = some u → u.ownBlock = some g → g < w3.heap.size) := Lib.hid (fun i u g hu hg => (hF.lt (BO.ok _) hu (by have := (List.getElem?_eq_some_iff.1 hu).1; rw [hF.len] at this; exact this) hg).2)
    have xx0 : (w3.alloc (.cells #[.int .i64 room, .slice A3 l.length c3] 24)).cell? ⟨w3.heap.size, 0, none⟩ = some (.int .i64 room) := cell_of_row _ _ 0 _ _ _ r3; have fx0 : (w3.alloc (.cells #[.int .i64 room, .slice A3 l.length c3] 24)).frozen? ⟨w3.heap.size, 0, none⟩ = false := frozen_of_row _ _ 0 _ _ r3; have xx1 : (w3.alloc (.cells #[.int .i64 room, .slice A3 l.length c3] 24)).cell? ⟨w3.heap.size, 1, none⟩ = some (.slice A3 l.length c3) := cell_of_row _ _ 1 _ _ _ r3; have fx1 : (w3.alloc (.cells #[.int .i64 room, .slice A3 l.length c3] 24)).frozen? ⟨w3.heap.size, 1, none⟩ = false := frozen_of_row _ _ 1 _ _ r3
    go_wp2
    clear hF z3 q0 q1 p0 p1 a0 a1 xx0 xx1 fx0 fx1
    generalize w3.alloc (.cells #[.int .i64 room, .slice A3 l.length c3] 24) = W4 at *
    clear b1 b3 HF
    go_loopw [34, 10, 11, 12, 1, 9] (fun iv _ _ _ kv lv wr => ∃ (k : Nat) (L : List Fi) (kp j : Int) (us : List Value), k ≤ l.length ∧ iv = .int .i64 k ∧ kv = .int .i64 kp ∧ Hid (cr (l.take k) keep = (L, kp, j)) ∧ L.length = k ∧ 0 ≤ kp ∧ kp ≤ keep ∧ Hid (Lst L us j lv) ∧ Hid (∀ (i : Nat) (u : Value) (g : Nat), us[i]? = some u → u.ownBlock = some g → g < w3.heap.size) ∧ FP (BW w1.heap.size) w1.heap.size wr (.slice A3 l.length c3) (L ++ l.drop k) us l.length ∧ Hid (wr.heap[w3.heap.size]? = some (.cells #[.int .i64 room, .slice A3 l.length c3] 24 (0, 0)) ∧ wr.heap[w.heap.size + 1]? = some (.cells #[.int .i64 0, .slice none 0 0] 24 (0, 0))) ∧ Below w.heap.size w wr) (fun iv _ _ _ _ _ _ => l.length - (intOf iv).toNat)
    case atStart => exact ⟨0, [], keep, -1, us, Nat.zero_le _, by go_num, rfl, Lib.hid rfl, rfl, hk0, Int.le_refl _, Lib.hid (.inl ⟨rfl, rfl⟩), HU0, hF0, Lib.hid ⟨r3, z4⟩, bW⟩
    case round =>
      clear hF0 r3 z4 bW HU0
      obtain ⟨k, L, kp, j, us, hk, rfl, rfl, HC, hL, hp0, hp1, HLs, HUU, hF, HQ, hbr⟩ := hrel
      obtain ⟨q0, q1⟩ := HQ.out
      have xa0 : wr.cell? ⟨w3.heap.size, 0, none⟩ = some (.int .i64 room) := cell_of_row _ _ 0 _ _ _ q0; have fa0 : wr.frozen? ⟨w3.heap.size, 0, none⟩ = false := frozen_of_row _ _ 0 _ _ q0; have xa1 : wr.cell? ⟨w3.heap.size, 1, none⟩ = some (.slice A3 l.length c3) := cell_of_row _ _ 1 _ _ _ q0; have fa1 : wr.frozen? ⟨w3.heap.size, 1, none⟩ = false := frozen_of_row _ _ 1 _ _ q0
      by_cases hlt : k < l.length
      · have hkI : (k : Int) < (l.length : Int) := by omega
        have hk0 : (0 : Int) ≤ (k : Int) := by omega
        have hlo := HLow.out _ (List.getElem_mem hlt)
        have HST := Lib.hid (cr_step l keep hlt)
        have hf : (L ++ l.drop k)[k]? = some l[k] := by rw [List.getElem?_append_right (by omega), hL, Nat.sub_self, List.getElem?_drop, Nat.add_zero]; exact List.getElem?_eq_getElem hlt
        have hdr : ∀ y, (L ++ l.drop k).set k y = (L ++ [y]) ++ l.drop (k + 1) := fun y => by rw [List.set_append_right _ _ (by omega), hL, Nat.sub_self, List.drop_eq_getElem_cons hlt, List.set_cons_zero, List.append_assoc]; rfl
        generalize l[k] = x at *
        obtain ⟨u, hu⟩ := hF.get hf
        obtain ⟨hbs, Au, cu, rfl, hAu⟩ := id (hF.own k u _ hu hf hlt)
        obtain ⟨_, _, e, hcu1, hcu2, hcu3⟩ := hbs.shape
        injection e with e1 _ e2
        subst e1 e2
        unfold maxLen at hcu2
        obtain ⟨g, rfl, hg1, hg2⟩ := hF.row.form3 (by omega)
        have hgr := hrs g rfl
        obtain ⟨d, hd⟩ : ∃ d : Nat, crN kp x = (d : Int) := ⟨(crN kp x).toNat, by have := crN_in (f := x) hp0 (by omega); omega⟩
        obtain ⟨s0, hs0⟩ : ∃ s0 : Nat, x.s = (s0 : Int) := ⟨x.s.toNat, by omega⟩
        have hN := crN_in (f := x) (k := kp) hp0 (by omega)
        rw [hd, hs0] at hN
        obtain ⟨hN0, hN1, hN2⟩ := hN
        have hd' : (if (x.b.length : Int) - (s0 : Int) < kp then (x.b.length : Int) - (s0 : Int) else kp) = (d : Int) := by rw [← hd, ← hs0]; rfl
        obtain ⟨_, a1, a2⟩ := hF.row.tri3 (tris_get hf hu)
        have hfz1 := hF.row.free3 (k * 3 + 1)
        have hfz2 := hF.row.free3 (k * 3 + 2)
        have ac1 := a1.cell
        have ac2 := a2.cell
        rw [hs0] at ac2
        have hwr1 : IntKind.i64.wrap ((x.b.length : Int) - (s0 : Int)) = (x.b.length : Int) - (s0 : Int) := IntWalk.i64_in _ (by omega)
        have hwr2 : IntKind.i64.wrap ((s0 : Int) + (d : Int)) = (s0 : Int) + (d : Int) := IntWalk.i64_in _ (by omega)
        have hwr3 : IntKind.i64.wrap (kp - (d : Int)) = kp - (d : Int) := IntWalk.i64_in _ (by omega)
        clear hs1 a1 a2
        go_wp2_with fail
        go_region
        go_wp2_with fail
        go_region
        have hF1 := ((hF.markW (s := (s0 : Int) + (d : Int)) hf hlt).draw (BW.ok _)).draw (BW.ok _)
        have Q1 := (heap_setCell_other wr ⟨g, k * 3 + 2, none⟩ w3.heap.size (.int .i64 ((s0 : Int) + (d : Int))) (by simp; omega)).trans HQ.out.1
        have Q2 := (heap_setCell_other wr ⟨g, k * 3 + 2, none⟩ (w.heap.size + 1) (.int .i64 ((s0 : Int) + (d : Int))) (by simp; omega)).trans HQ.out.2
        replace HQ : Hid ((wr.setCell ⟨g, k * 3 + 2, none⟩ (.int .i64 ((s0 : Int) + (d : Int)))).drew.drew.heap[w3.heap.size]? = _ ∧ (wr.setCell ⟨g, k * 3 + 2, none⟩ (.int .i64 ((s0 : Int) + (d : Int)))).drew.drew.heap[w.heap.size + 1]? = _) := Lib.hid ⟨Q1, Q2⟩
        have hb1 := bdraw (bdraw (hbr.setCell (p := ⟨g, k * 3 + 2, none⟩) (by simp; omega) (.int .i64 ((s0 : Int) + (d : Int)))))
        have hf1 : ((L ++ l.drop k).set k ⟨x.n, x.b, (s0 : Int) + (d : Int)⟩)[k]? = some ⟨x.n, x.b, (s0 : Int) + (d : Int)⟩ := by
          rw [List.getElem?_set_self (List.getElem?_eq_some_iff.1 hf).1]
        clear Q1 Q2 hF q0 q1 xa0 xa1 fa0 fa1 ac1 ac2 hfz1 hfz2 hbr hwr1 hwr3 hd'
        generalize (wr.setCell ⟨g, k * 3 + 2, none⟩ (.int .i64 ((s0 : Int) + (d : Int)))).drew.drew = W1 at *
        obtain ⟨_, a1, a2⟩ := hF1.row.tri3 (tris_get hf1 hu)
        have hfz1 := hF1.row.free3 (k * 3 + 1)
        have ac1 := a1.cell
        have ac2 := a2.cell
        have hcut := fun w' => run_cut_hm (hF1.own k _ _ hu hf1 hlt) (m := s0 + d) (by omega) w' (H := (s0 : Int) + (d : Int)) (by simp)
        have hm1 : (s0 : Int) + (d : Int) ≤ (cu : Int) := by omega
        clear a1 a2
        go_wp2_with fail
        go_region
        have HC2 : Hid (cr (l.take (k + 1)) keep = (L ++ [⟨x.n, x.b.take (s0 + d), (s0 : Int) + (d : Int)⟩], kp - (d : Int), if 0 < (d : Int) then (k : Int) else j)) := Lib.hid (by
          rw [HST.out, HC.out]
          simp only [crS, crOne, hd, hs0, hL]
          rw [show ((s0 : Int) + (d : Int)).toNat = s0 + d by omega])
        have hF2 := (hF1.cutW (m := s0 + d) (c' := s0 + d) hf1 hu hlt (by omega) (by omega) (by omega)).draw (BW.ok _)
        rw [List.set_set] at hF2
        have hdx : (L ++ l.drop k).set k ⟨x.n, x.b.take (s0 + d), (s0 : Int) + (d : Int)⟩ = (L ++ [⟨x.n, x.b.take (s0 + d), (s0 : Int) + (d : Int)⟩]) ++ l.drop (k + 1) := hdr _
        have hF2' : FP (BW w1.heap.size) w1.heap.size (W1.setCell ⟨g, k * 3 + 1, none⟩ (.slice Au (s0 + d) (s0 + d))).drew (.slice (some ⟨g, 0, none⟩) l.length c3) ((L ++ [⟨x.n, x.b.take (s0 + d), (s0 : Int) + (d : Int)⟩]) ++ l.drop (k + 1)) (us.set k (.slice Au (s0 + d) (s0 + d))) l.length := by rw [← hdx]; exact hF2
        have Q1 := (heap_setCell_other W1 ⟨g, k * 3 + 1, none⟩ w3.heap.size (.slice Au (s0 + d) (s0 + d)) (by simp; omega)).trans HQ.out.1
        have Q2 := (heap_setCell_other W1 ⟨g, k * 3 + 1, none⟩ (w.heap.size + 1) (.slice Au (s0 + d) (s0 + d)) (by simp; omega)).trans HQ.out.2
        replace HQ : Hid ((W1.setCell ⟨g, k * 3 + 1, none⟩ (.slice Au (s0 + d) (s0 + d))).drew.heap[w3.heap.size]? = _ ∧ (W1.setCell ⟨g, k * 3 + 1, none⟩ (.slice Au (s0 + d) (s0 + d))).drew.heap[w.heap.size + 1]? = _) := Lib.hid ⟨Q1, Q2⟩
        have hb2 := bdraw (hb1.setCell (p := ⟨g, k * 3 + 1, none⟩) (by simp; omega) (.slice Au (s0 + d) (s0 + d)))
        have hu2 : (us.set k (.slice Au (s0 + d) (s0 + d)))[k]? = some (.slice Au (s0 + d) (s0 + d)) := by rw [List.getElem?_set_self (List.getElem?_eq_some_iff.1 hu).1]
        have hf2 : ((L ++ [(⟨x.n, x.b.take (s0 + d), (s0 : Int) + (d : Int)⟩ : Fi)]) ++ l.drop (k + 1))[k]? = some ⟨x.n, x.b.take (s0 + d), (s0 : Int) + (d : Int)⟩ := by
          rw [List.append_assoc, List.getElem?_append_right (by omega), hL, Nat.sub_self]; rfl
        have HUU2 : Hid (∀ (i : Nat) (u : Value) (g : Nat), (us.set k (.slice Au (s0 + d) (s0 + d)))[i]? = some u → u.ownBlock = some g → g < w3.heap.size) := Lib.hid (fun i v g' hv hg' => by
          rw [List.getElem?_set] at hv
          split at hv
          · rw [if_pos (List.getElem?_eq_some_iff.1 hu).1] at hv
            injection hv with hv
            subst hv
            exact HUU.out k _ g' hu (by rw [← hg']; cases Au <;> rfl)
          · exact HUU.out i v g' hv hg')
        clear Q1 Q2 hF1 hF2 hdx hdr ac1 ac2 hfz1 hb1 hf1 hf HC HST hcut hwr2
        generalize (W1.setCell ⟨g, k * 3 + 1, none⟩ (.slice Au (s0 + d) (s0 + d))).drew = W2 at *
        obtain ⟨_, a1, a2⟩ := hF2'.row.tri3 (tris_get hf2 hu2)
        have ac1 := a1.cell
        have ac2 := a2.cell
        have hwr4 : IntKind.i64.wrap ((s0 : Int) + (d : Int) - 1) = (s0 : Int) + (d : Int) - 1 := IntWalk.i64_in _ (by omega)
        by_cases hd0 : 0 < (d : Int)
        · rw [if_pos hd0] at HC2
          have hi1 : (s0 : Int) + (d : Int) - 1 < ((s0 + d : Nat) : Int) := by omega
          have hi0 : 0 ≤ (s0 : Int) + (d : Int) - 1 := by omega
          rcases hAu with rfl | ⟨y, rfl, hy1, hy2⟩
          · have := hcu3 rfl
            omega
          have HF2 := Lib.hid hF2'
          clear hF2' a1 a2
          go_wp2_with fail
          go_region
          go_wp2
          go_roundw
          case rel =>
            refine ⟨k + 1, _, _, _, _, by omega, by go_num, rfl, HC2, by simp; omega, by omega, by omega, Lib.hid (.inr ⟨k, _, y, s0 + d, s0 + d, rfl, by simp [hL]; rfl, by simp; omega, hu2, ?_⟩), HUU2, HF2.out.draw (BW.ok _), Lib.hid HQ.out, bdraw hb2⟩
            rw [show (List.take (s0 + d) x.b).length = s0 + d by simp; omega]
          case measure => simp [intOf]; omega
        · rw [if_neg hd0] at HC2
          clear a1 a2
          go_wp2
          go_roundw
          case rel =>
            refine ⟨k + 1, _, _, _, _, by omega, by go_num, rfl, HC2, by simp; omega, by omega, by omega, Lib.hid (HLs.out.ext hL _ _), HUU2, hF2', Lib.hid HQ.out, hb2⟩
          case measure => simp [intOf]; omega
      · have hkI : ¬ (k : Int) < (l.length : Int) := by omega
        have hkl : k = l.length := by omega
        subst hkl
        rw [List.take_length] at HC
        have hFL : FP (BW w1.heap.size) w1.heap.size wr (.slice A3 L.length c3) L us L.length := by
          rw [List.drop_length, List.append_nil, ← hL] at hF; exact hF
        clear hF hlt
        have HR2 : Hid (crE room l keep turn = 0 ∧ crF room l keep turn = flipAt L j (UInt8.ofNat turn.toNat) ∧ crR room l keep turn = room) := Lib.hid (by
          have := HR.out; rw [HC.out] at this; exact this)
        clear HR HC
        rcases HLs.out with ⟨rfl, rfl⟩ | ⟨i, f, y, n, c, rfl, hfi, hfb, hui, rfl⟩
        · have xz0 : wr.cell? ⟨w.heap.size + 1, 0, none⟩ = some (.int .i64 0) := cell_of_row _ _ 0 _ _ _ q1; have fz0 : wr.frozen? ⟨w.heap.size + 1, 0, none⟩ = false := frozen_of_row _ _ 0 _ _ q1; have xz1 : wr.cell? ⟨w.heap.size + 1, 1, none⟩ = some (.slice none 0 0) := cell_of_row _ _ 1 _ _ _ q1; have fz1 : wr.frozen? ⟨w.heap.size + 1, 1, none⟩ = false := frozen_of_row _ _ 1 _ _ q1
          go_wp2
          refine bodyPost_ret (results_cell_tmp1 rfl _ _ (w.heap.size + 1) 24 #[.int .i64 room, .slice A3 l.length c3] (0, 0) _ rfl (set2 q1) Tryd.underlying24 rfl (by kernel_rfl)) rfl ?_
          refine ⟨_, by rw [HR2.out.1, HR2.out.2.2]; rfl, ?_, by (repeat (first | with_reducible exact Below.refl _ _ | with_reducible assumption | with_reducible refine bdraw ?_ | with_reducible refine bdrewN ?_ _ | with_reducible refine balloc ?_ _ | with_reducible refine bset ?_ (by simp <;> omega) | with_reducible refine bstep ?_ (by assumption) | with_reducible refine btrans ?_ (by assumption)))⟩
          rw [HR2.out.2.1, flipAt_none]
          rw [← hL]
          exact (((hFL.far (BW.ok _) (by simp; omega)).far (BW.ok _) (by simp; omega)).sl (BW.ok _)).mono (fun b fr h _ => ⟨by have := h.1; omega, h.2⟩)
        · obtain ⟨u, rfl⟩ : ∃ u : UInt8, turn = (u.toNat : Int) := ⟨UInt8.ofNat turn.toNat, by simp; omega⟩
          have hil := (List.getElem?_eq_some_iff.1 hfi).1
          have hb1 : f.b.length - 1 < f.b.length := by omega
          obtain ⟨g, hg, _⟩ := hFL.row.form3 (by omega)
          subst hg
          have hrg := hrs g rfl
          obtain ⟨y', e, hyg, hy1, hy2, hat, hF3⟩ := hFL.byteW (x := xr f.b[f.b.length - 1] u) hfi hui hil hb1
          injection e with e
          injection e with e
          subst e
          have HR3 : Hid (crF room l keep (u.toNat : Int) = L.set i ⟨f.n, f.b.set (f.b.length - 1) (xr f.b[f.b.length - 1] u), f.s⟩) := Lib.hid (by rw [HR2.out.2.1, Int.toNat_natCast, UInt8.ofNat_toNat, flipAt_some hfi hb1])
          have hc := hat.cell
          have hfz := hat.frozen (fun _ _ h => h)
          have hmod : (u.toNat : Int) % 256 = (u.toNat : Int) := by have := u.toNat_lt; omega
          have hyt := HUU.out i _ y hui rfl
          clear hat
          generalize f.b[f.b.length - 1] = xb at *
          have q0' := (heap_setCell_other wr ⟨y, f.b.length - 1, none⟩ w3.heap.size (.int .u8 ((xr xb u).toNat : Int)) (by simp; omega)).trans q0
          have q1' := (heap_setCell_other wr ⟨y, f.b.length - 1, none⟩ (w.heap.size + 1) (.int .u8 ((xr xb u).toNat : Int)) (by simp; omega)).trans q1
          have xs0 : (wr.setCell ⟨y, f.b.length - 1, none⟩ (.int .u8 ((xr xb u).toNat : Int))).cell? ⟨w3.heap.size, 0, none⟩ = some (.int .i64 room) := cell_of_row _ _ 0 _ _ _ q0'; have fs0 : (wr.setCell ⟨y, f.b.length - 1, none⟩ (.int .u8 ((xr xb u).toNat : Int))).frozen? ⟨w3.heap.size, 0, none⟩ = false := frozen_of_row _ _ 0 _ _ q0'; have xs1 : (wr.setCell ⟨y, f.b.length - 1, none⟩ (.int .u8 ((xr xb u).toNat : Int))).cell? ⟨w3.heap.size, 1, none⟩ = some (.slice (some ⟨g, 0, none⟩) l.length c3) := cell_of_row _ _ 1 _ _ _ q0'; have fs1 : (wr.setCell ⟨y, f.b.length - 1, none⟩ (.int .u8 ((xr xb u).toNat : Int))).frozen? ⟨w3.heap.size, 1, none⟩ = false := frozen_of_row _ _ 1 _ _ q0'
          have xz0 : (wr.setCell ⟨y, f.b.length - 1, none⟩ (.int .u8 ((xr xb u).toNat : Int))).cell? ⟨w.heap.size + 1, 0, none⟩ = some (.int .i64 0) := cell_of_row _ _ 0 _ _ _ q1'; have fz0 : (wr.setCell ⟨y, f.b.length - 1, none⟩ (.int .u8 ((xr xb u).toNat : Int))).frozen? ⟨w.heap.size + 1, 0, none⟩ = false := frozen_of_row _ _ 0 _ _ q1'; have xz1 : (wr.setCell ⟨y, f.b.length - 1, none⟩ (.int .u8 ((xr xb u).toNat : Int))).cell? ⟨w.heap.size + 1, 1, none⟩ = some (.slice none 0 0) := cell_of_row _ _ 1 _ _ _ q1'; have fz1 : (wr.setCell ⟨y, f.b.length - 1, none⟩ (.int .u8 ((xr xb u).toNat : Int))).frozen? ⟨w.heap.size + 1, 1, none⟩ = false := frozen_of_row _ _ 1 _ _ q1'
          go_wp2
          refine bodyPost_ret (results_cell_tmp1 rfl _ _ (w.heap.size + 1) 24 #[.int .i64 room, .slice (some ⟨g, 0, none⟩) l.length c3] (0, 0) _ rfl (set2 q1') Tryd.underlying24 rfl (by kernel_rfl)) rfl ?_
          have hb9 := hbr.setCell (p := ⟨y, f.b.length - 1, none⟩) (by simp; omega) (.int .u8 ((xr xb u).toNat : Int))
          refine ⟨_, by rw [HR2.out.1, HR2.out.2.2]; rfl, ?_, by (repeat (first | with_reducible exact Below.refl _ _ | with_reducible assumption | with_reducible refine bdraw ?_ | with_reducible refine bdrewN ?_ _ | with_reducible refine balloc ?_ _ | with_reducible refine bset ?_ (by simp <;> omega) | with_reducible refine bstep ?_ (by assumption) | with_reducible refine btrans ?_ (by assumption)))⟩
          rw [HR3.out]
          have hF4 : FP (BW w1.heap.size) w1.heap.size (wr.setCell ⟨y, f.b.length - 1, none⟩ (.int .u8 ((xr xb u).toNat : Int))) (.slice (some ⟨g, 0, none⟩) l.length c3) (L.set i ⟨f.n, f.b.set (f.b.length - 1) (xr xb u), f.s⟩) us (L.set i ⟨f.n, f.b.set (f.b.length - 1) (xr xb u), f.s⟩).length := by
            rw [List.length_set, ← hL]; exact hF3
          exact (((hF4.far (BW.ok _) (by simp; omega)).far (BW.ok _) (by simp; omega)).sl (BW.ok _)).mono (fun b fr h _ => ⟨by have := h.1; omega, h.2⟩)
end Go.Proofs.YtbahiohlhhdkcaaDoor
