/- Disks: slices.Insert at rows of three values. -/
import Derived.Test.YtbahiohlhhdkcaaDoorDkh
import Derived.Test.YtbahiohlhhdkcaaDoorCpy
namespace Go.Proofs.YtbahiohlhhdkcaaDoor
open Go.RowKit

def tcs (x : Tri) : List Value := [x.a, x.b, x.c]
def One3 (x : Tri) : Prop := x.a.oneCell' = true ∧ x.b.oneCell' = true ∧ x.c.oneCell' = true
theorem tcs_one {x : Tri} (h : One3 x) : ∀ u ∈ tcs x, u.oneCell' = true := by
  intro u hu
  simp only [tcs, List.mem_cons, List.not_mem_nil, or_false] at hu
  rcases hu with rfl | rfl | rfl
  · exact h.1
  · exact h.2.1
  · exact h.2.2
theorem grown_undrew {w w' : World} {r : Option Nat} (h : w.drew.grownBy w' r) : w.grownBy w' r := ⟨h.os, h.tape, h.output, h.size, h.block⟩
def Inserted (B : Nat) (v : Value) (l : List Tri) (i : Nat) (x : Tri) (w : World) (e : Ending) (w' : World) : Prop :=
  ∃ v', e = .returned v' ∧ Own trE Any w' B 50 v' (l.insertIdx i x) ∧ w.grownBy w' v.ownBlock ∧ (v'.ownBlock = v.ownBlock ∨ v'.ownBlock = some w.heap.size)
theorem reps_insert {S S' : Foot} {w w' : World} {xs : List Value} {l : List Tri} {i : Nat} {x : Tri} (h1 : One3 x) (h : Reps trE S w xs l) (hi : i ≤ l.length) : Reps trE S' w' (xs.take (i * 3) ++ (tcs x ++ xs.drop (i * 3))) (l.insertIdx i x) := by
  rw [insertIdx_eq l i x hi]
  have h' : Reps trE S' w' xs l := ⟨h.1, fun i a hi => h.2 i a hi⟩
  exact (h'.take i).append ((Reps.single (show trE.rd S' w' (tcs x) x from ⟨rfl, h1⟩)).append (h'.drop i))

theorem run_overlaps_fi (w : World) {vb g : Nat} (hne : vb ≠ g) {x : List Value} {cur : List Value} (hx : x.length = 3) (hv : w.heap[vb]? = some (.cells x.toArray 50 (0, 0))) (hg : w.heap[g]? = some (.cells cur.toArray 50 (0, 0))) (hcur : cur.length ≠ 0) (o m c lb cb : Nat) :
    (callFunc 60 #[.slice (some ⟨vb, 0, none⟩) m c, .slice (some ⟨g, o, none⟩) lb cb]).run Tryd.prog w = .ok (.value (.bool false)) w := by
  obtain ⟨i0, hi, hz0, hz1, hz2⟩ := info_parts fi_info
  rw [run_callFunc_extern Tryd.func60 (by kernel_rfl) (by kernel_rfl) (by kernel_rfl) (e := Extern.SlicesOverlaps.overlaps #[22, 22] #[4]) (by kernel_rfl),
    Lib.run_overlaps_apart w 22 4 50 Tryd.underlying22 3 (fun w => run_size_of (E := trE) hi hz1 w) ⟨vb, 0, none⟩ ⟨g, o, none⟩ m c lb cb hne 50 50 3 cur.length (by simp [World.shape?, hv, hx]) (by simp [World.shape?, hg]) hcur (frozen_of_row w vb 0 _ _ hv) (by simp [World.frozen?, hv])]
  rfl

theorem own_insert {w' : World} {B g c i : Nat} {l : List Tri} {x : Tri} {C xs : List Value} (hR : Reps trE Any w' xs (l.insertIdx i x)) (hrow : w'.heap[g]? = some (.cells C.toArray 50 (0, 0))) (hC : C.length = c * 3) (ht : C.take (l.length * 3 + 3) = xs)
    (hi : i ≤ l.length) (hc : l.length + 1 ≤ c) (hcm : c ≤ 9223372036854775807) (hB : B ≤ g) : Own trE Any w' B 50 (.slice (some ⟨g, 0, none⟩) (l.length + 1) c) (l.insertIdx i x) := by
  have hl : (l.insertIdx i x).length = l.length + 1 := List.length_insertIdx_of_le_length hi _
  refine ⟨xs, ?_, hR⟩
  refine ⟨by have := hR.1; exact this, .inr ⟨g, c, C.toArray, by rw [hl], hB, hrow, by omega, by unfold maxLen; omega, by show C.toArray.size = c * 3; simpa using hC, ?_⟩⟩
  rw [hl, ← ht]
  show List.take ((l.length + 1) * 3) C = _
  congr 1; omega

set_option maxHeartbeats 4000000 in
/-- there is room, and something stands behind -/
theorem insert_in {B g c i vb : Nat} {l : List Tri} {x : Tri} {w : World} (hone1 : One3 x) (h : Own trE Any w B 50 (.slice (some ⟨g, 0, none⟩) l.length c) l) (hi : i < l.length) (hc : l.length + 1 ≤ c)
    (hv : w.heap[vb]? = some (.cells (tcs x).toArray 50 (0, 0))) (hne : vb ≠ g) :
    Calls Tryd.prog 44 #[.slice (some ⟨g, 0, none⟩) l.length c, .int .i64 i, .slice (some ⟨vb, 0, none⟩) 1 1] w (Inserted B (.slice (some ⟨g, 0, none⟩) l.length c) l i x w) := by
  obtain ⟨i0, hin, hz0, hz1, hz2⟩ := info_parts fi_info
  obtain ⟨xs, ho, hr⟩ := h
  have hk3 : trE.k = 3 := rfl
  obtain ⟨cur, hcur, hsz, htk, hB, hcm⟩ : ∃ cur : List Value, w.heap[g]? = some (.cells cur.toArray 50 (0, 0)) ∧ cur.length = c * 3 ∧ cur.take (l.length * 3) = xs ∧ B ≤ g ∧ c ≤ maxLen := by
    rcases ho.2 with ⟨h0, _⟩ | ⟨g', cap', cur, hvv, hb, hh, _, hm, hs, ht⟩
    · cases h0
    · injection hvv with e1 _ e3
      injection e1 with e1
      injection e1 with e1
      subst e1 e3
      exact ⟨cur.toList, by simpa using hh, by simpa [hk3] using hs, by simpa [hk3] using ht, hb, hm⟩
  unfold maxLen at hcm
  have hcz : cur.length ≠ 0 := by omega
  have hov := run_overlaps_fi w hne (x := tcs x) rfl hv hcur hcz ((i + 1) * 3) 1 1
  have q1 := fun w' => run_cut_h (P := Tryd.prog) (E := trE) (g := g) (n := l.length) (k := l.length + 1) (cap := c) Tryd.underlying22 hin hz1 hc w' .i64 (H := (l.length : Int) + 1) (by omega)
  obtain ⟨A2, hA2, q2⟩ := run_cut_l (P := Tryd.prog) (E := trE) (g := g) (n := l.length + 1) (k := i + 1) (cap := c) Tryd.underlying22 hin hz1 (by omega)
  obtain ⟨A3, hA3, q3⟩ := run_cut_l (P := Tryd.prog) (E := trE) (g := g) (n := l.length + 1) (k := i) (cap := c) Tryd.underlying22 hin hz1 (by omega)
  obtain rfl := hA2 (by omega)
  obtain rfl := hA3 (by omega)
  rw [hk3] at q2 q3
  have q2' := fun w' => q2 w' .i64 ((i : Int) + 1) (by omega)
  have q3' := fun w' => q3 w' .i64 (i : Int) rfl
  clear q2 q3 hA2 hA3
  have hz3 : ¬ ((c : Int) < (l.length : Int) + 1) := by omega
  have hz4 : ¬ ((i : Int) = (l.length : Int)) := by omega
  have hw1 : IntKind.i64.wrap ((i : Int) + 1) = (i : Int) + 1 := IntWalk.i64_in _ (by omega)
  have hxl : xs.length = l.length * 3 := ho.1
  have hone := hr.one
  have hxc : ∀ j u, xs[j]? = some u → w.cell? ⟨g, j, none⟩ = some u := fun j u hu => by
    have hj := (List.getElem?_eq_some_iff.1 hu).1
    have e : cur[j]? = some u := by rw [← htk, List.getElem?_take, if_pos (by omega)] at hu; exact hu
    rw [cell_of_row w g j _ _ (0, 0) hcur]; simpa using e
  have hfin := splice_shift cur (tcs x) (i * 3) (l.length * 3) 3 (by omega) rfl (by omega)
  rw [htk] at hfin
  have HR := Lib.hid (fun (w' : World) => reps_insert (S' := Any) (w' := w') (x := x) hone1 hr (Nat.le_of_lt hi))
  clear hr ho htk
  go_enter Tryd.func44, Tryd.ntmps44
  have hn1 : (xs.drop (i * 3)).length = Nat.min (l.length + 1 - i) (l.length + 1 - (i + 1)) * i0.size := by rw [List.length_drop, hxl, hz1, show Nat.min (l.length + 1 - i) (l.length + 1 - (i + 1)) = l.length + 1 - (i + 1) from Nat.min_eq_right (by omega)]; omega
  have hs1 : ∀ j u, (xs.drop (i * 3))[j]? = some u → w.cell? ((⟨g, i * 3, none⟩ : Addr).add j) = some u := fun j u hu => by rw [add_lit']; rw [List.getElem?_drop] at hu; exact hxc _ _ hu
  have hf1 : (i + 1) * 3 + (xs.drop (i * 3)).length ≤ cur.length := by rw [List.length_drop, hxl]; omega
  have ho1 : ∀ u ∈ xs.drop (i * 3), u.oneCell' = true := fun u hu => hone u (List.mem_of_mem_drop hu)
  have hl1 : (splice cur ((i + 1) * 3) (xs.drop (i * 3))).length = cur.length := length_splice _ _ _ hf1
  rw [show i * 3 + 3 = (i + 1) * 3 by omega] at hfin
  have hl2 := length_splice (splice cur ((i + 1) * 3) (xs.drop (i * 3))) (i * 3) (tcs x) (by rw [hl1]; simp [tcs]; omega)
  have hn2 : (tcs x).length = Nat.min 1 (l.length + 1 - i) * i0.size := by rw [hz1, show Nat.min 1 (l.length + 1 - i) = 1 from Nat.min_eq_left (by omega)]; rfl
  have hf2 : i * 3 + (tcs x).length ≤ (splice cur ((i + 1) * 3) (xs.drop (i * 3))).length := by rw [hl1]; simp [tcs]; omega
  have hlv := (Array.getElem?_eq_some_iff.1 hv).1
  go_wp2_with (simp only [hov])
  go_region_law (refine step_copy_k (i := i0) (g := g) (off := (i + 1) * 3) (dLen := l.length + 1 - (i + 1)) (dCap := c - (i + 1)) (sLen := l.length + 1 - i) (sCap := c - i) (ad := ⟨g, i * 3, none⟩) (cur := cur) (cs := xs.drop (i * 3)) (t := 50) rfl (.tmp 73) (.tmp 76) 22 22 50 rfl Tryd.underlying22 hin (by simp [Act.eval, Act.put]) (by simp [Act.eval, Act.put]) hcur hn1 hs1 hf1 ho1 ?_; intro w2 H2 G2)
  have hv2 : w2.heap[vb]? = some (.cells (tcs x).toArray 50 (0, 0)) := (G2.block vb hlv (fun e => hne (by injection e))).trans hv
  have hs2 : ∀ j u, (tcs x)[j]? = some u → w2.cell? ((⟨vb, 0, none⟩ : Addr).add j) = some u := fun j u hu => by rw [add_lit', cell_of_row _ vb _ _ _ (0, 0) hv2]; simpa using hu
  have ho2 : ∀ u ∈ tcs x, u.oneCell' = true := tcs_one hone1
  go_wp2_with (refine wpList_copy_k (i := i0) (g := g) (off := i * 3) (dLen := l.length + 1 - i) (dCap := c - i) (sLen := 1) (sCap := 1) (ad := ⟨vb, 0, none⟩) (cur := splice cur ((i + 1) * 3) (xs.drop (i * 3))) (cs := tcs x) (t := 50) rfl (.tmp 80) (.tmp 81) 22 22 50 rfl Tryd.underlying22 hin (by simp [Act.eval]) (by simp [Act.eval]) H2.out hn2 hs2 hf2 ho2 ?_; intro w3 H3 G3)
  go_ret
  refine ⟨_, rfl, own_insert (HR.out _) H3.out (by rw [hl2, hl1]; exact hsz) hfin (Nat.le_of_lt hi) hc (by omega) hB, grown_trans (grown_undrew G2) G3, .inl rfl⟩

set_option maxHeartbeats 4000000 in
/-- there is no room, and something stands behind -/
theorem insert_new {B g c i vb : Nat} {l : List Tri} {x : Tri} {w : World} (hone1 : One3 x) (h : Own trE Any w B 50 (.slice (some ⟨g, 0, none⟩) l.length c) l) (hi : i < l.length) (hc : ¬ l.length + 1 ≤ c) (hn : l.length ≤ 2097152)
    (hv : w.heap[vb]? = some (.cells (tcs x).toArray 50 (0, 0))) :
    Calls Tryd.prog 44 #[.slice (some ⟨g, 0, none⟩) l.length c, .int .i64 i, .slice (some ⟨vb, 0, none⟩) 1 1] w (Inserted B (.slice (some ⟨g, 0, none⟩) l.length c) l i x w) := by
  obtain ⟨i0, hin, hz0, hz1, hz2⟩ := info_parts fi_info
  obtain ⟨xs, ho, hr⟩ := h
  have hk3 : trE.k = 3 := rfl
  obtain ⟨cur, hcur, hsz, htk, hB, hcm⟩ : ∃ cur : List Value, w.heap[g]? = some (.cells cur.toArray 50 (0, 0)) ∧ cur.length = c * 3 ∧ cur.take (l.length * 3) = xs ∧ B ≤ g ∧ l.length ≤ c := by
    rcases ho.2 with ⟨h0, _⟩ | ⟨g', cap', cur, hvv, hb, hh, hn, hm, hs, ht⟩
    · cases h0
    · injection hvv with e1 _ e3
      injection e1 with e1
      injection e1 with e1
      subst e1 e3
      exact ⟨cur.toList, by simpa using hh, by simpa [hk3] using hs, by simpa [hk3] using ht, hb, hn⟩
  have hxl : xs.length = l.length * 3 := ho.1
  have hone := hr.one
  have hglt := (Array.getElem?_eq_some_iff.1 hcur).1
  have hlv := (Array.getElem?_eq_some_iff.1 hv).1
  have hxc : ∀ w' : World, w'.heap[g]? = w.heap[g]? → ∀ j u, xs[j]? = some u → w'.cell? ⟨g, j, none⟩ = some u := fun w' hw' j u hu => by
    have hj := (List.getElem?_eq_some_iff.1 hu).1
    have e : cur[j]? = some u := by rw [← htk, List.getElem?_take, if_pos (by omega)] at hu; exact hu
    rw [cell_of_row w' g j _ _ (0, 0) (hw'.trans hcur)]; simpa using e
  have hold : (Builtin.firstCells i0.size i (.slice (some ⟨g, 0, none⟩) i c)).run Tryd.prog w.drew = .ok (xs.take (i * 3)).toArray w.drew := by
    rw [hz1]
    exact run_firstCells_some w.drew 3 i ⟨g, 0, none⟩ i c (xs.take (i * 3)) (by rw [List.length_take]; omega) (fun j v hj => by
      rw [add_lit', Nat.zero_add]
      rw [List.getElem?_take] at hj
      split at hj
      · exact hxc _ rfl j v hj
      · cases hj)
  have hik : i + (l.length + 1 - i) = l.length + 1 := by omega
  have hrz := fun ty => Lib.run_append_grow_zeros w 22 3 ty 50 i0 _ .i64 .i64 Tryd.underlying22 Tryd.underlying3 hin hz0 (some ⟨g, 0, none⟩) i c (xs.take (i * 3)) hold (l.length + 1 - i) (by omega) (by omega) (by omega) (by omega) (by rw [hz2]; omega) (by rw [hz2, hik]; exact growslice_fits (by omega) (by omega))
  rw [hik] at hrz
  have hkk : (((l.length + 1 - i : Nat)) : Int) = (l.length : Int) + 1 - (i : Int) := by omega
  rw [hkk] at hrz
  have hGn : l.length + 1 ≤ grownCap w (l.length + 1) c 50 := grownCap_ge w _ _ _
  have hG63 : grownCap w (l.length + 1) c 50 ≤ 9223372036854775807 := by
    have := grownCap_le_maxLen w (l.length + 1) c 50 (by unfold maxLen; omega)
    unfold maxLen at this
    omega
  generalize grownCap w (l.length + 1) c 50 = G at hrz hGn hG63
  obtain ⟨ROW, hROW⟩ : ∃ ROW : List Value, ROW = ((xs.take (i * 3)).toArray ++ Builtin.zeroCells (Value.agg #[Value.int IntKind.i64 0, Value.slice none 0 0, Value.int IntKind.i64 0]).cells (l.length + 1 - i) ++ Builtin.zeroCells (Value.agg #[Value.int IntKind.i64 0, Value.slice none 0 0, Value.int IntKind.i64 0]).cells (G - (l.length + 1))).toList := ⟨_, rfl⟩
  have hRl : ROW.length = G * 3 := by rw [hROW]; simp [Builtin.zeroCells, Value.cells, hxl]; omega
  have hRt : ROW.take (i * 3) = xs.take (i * 3) := by
    rw [hROW]
    simp only [Array.toList_append, List.append_assoc]
    rw [List.take_append_of_le_length (by simp [hxl]; omega), List.take_of_length_le (by simp; omega)]
  have hrz' : ∀ ty, (Builtin.append_ #[22, 3] ty #[.slice (some ⟨g, 0, none⟩) i c, .int .i64 ((l.length : Int) + 1 - (i : Int))]).run Tryd.prog w = .ok (.slice (some ⟨w.heap.size, 0, none⟩) (l.length + 1) G) (w.drew.alloc (.cells ROW.toArray 50)) := fun ty => by rw [hrz ty, hROW]
  clear hrz hROW hkk hik hold
  obtain ⟨w1, hw1⟩ : ∃ w1, w1 = w.drew.alloc (.cells ROW.toArray 50) := ⟨_, rfl⟩
  have hr1 : w1.heap[w.heap.size]? = some (.cells ROW.toArray 50 (0, 0)) := by rw [hw1]; exact heap_alloc_new w.drew _
  have b1 : Below w.heap.size w w1 := by rw [hw1]; exact (bdrewN (Below.refl _ _) 1).alloc (Nat.le_refl _) _
  rw [← hw1] at hrz'
  clear hw1
  have q1 := fun w' => run_cut_h (P := Tryd.prog) (E := trE) (g := g) (n := l.length) (k := i) (cap := c) Tryd.underlying22 hin hz1 (by omega) w' .i64 (H := (i : Int)) rfl
  obtain ⟨A2, hA2, q2⟩ := run_cut_l (P := Tryd.prog) (E := trE) (g := w.heap.size) (n := l.length + 1) (k := i + 1) (cap := G) Tryd.underlying22 hin hz1 (by omega)
  obtain ⟨A3, hA3, q3⟩ := run_cut_l (P := Tryd.prog) (E := trE) (g := w.heap.size) (n := l.length + 1) (k := i) (cap := G) Tryd.underlying22 hin hz1 (by omega)
  obtain ⟨A4, hA4, q4⟩ := run_cut_l (P := Tryd.prog) (E := trE) (g := g) (n := l.length) (k := i) (cap := c) Tryd.underlying22 hin hz1 (by omega)
  obtain rfl := hA2 (by omega)
  obtain rfl := hA3 (by omega)
  obtain rfl := hA4 (by omega)
  rw [hk3] at q2 q3 q4
  have q2' := fun w' => q2 w' .i64 ((i : Int) + 1) (by omega)
  have q3' := fun w' => q3 w' .i64 (i : Int) rfl
  have q4' := fun w' => q4 w' .i64 (i : Int) rfl
  clear q2 q3 q4 hA2 hA3 hA4
  have hz3 : (c : Int) < (l.length : Int) + 1 := by omega
  have hz4 : ¬ ((i : Int) = (l.length : Int)) := by omega
  have hwa : IntKind.i64.wrap ((i : Int) + 1) = (i : Int) + 1 := IntWalk.i64_in _ (by omega)
  have hfin := splice_two ROW _ (tcs x) (xs.drop (i * 3)) (i * 3) 3 ((l.length - i) * 3) hRt (by omega) rfl (by rw [List.length_drop, hxl]; omega) (by omega)
  rw [show i * 3 + 3 = (i + 1) * 3 by omega, show (i + 1) * 3 + (l.length - i) * 3 = l.length * 3 + 3 by omega] at hfin
  have HR := Lib.hid (fun (w' : World) => reps_insert (S' := Any) (w' := w') (x := x) hone1 hr (Nat.le_of_lt hi))
  clear hr ho htk hRt
  have hn1 : (tcs x).length = Nat.min 1 (l.length + 1 - i) * i0.size := by rw [hz1, show Nat.min 1 (l.length + 1 - i) = 1 from Nat.min_eq_left (by omega)]; rfl
  have hf1 : i * 3 + (tcs x).length ≤ ROW.length := by rw [hRl]; simp [tcs]; omega
  have ho1 : ∀ u ∈ tcs x, u.oneCell' = true := tcs_one hone1
  have hv1 : w1.heap[vb]? = some (.cells (tcs x).toArray 50 (0, 0)) := (b1.block vb hlv).trans hv
  have hs1 : ∀ j u, (tcs x)[j]? = some u → w1.cell? ((⟨vb, 0, none⟩ : Addr).add j) = some u := fun j u hu => by rw [add_lit', cell_of_row _ vb _ _ _ (0, 0) hv1]; simpa using hu
  have hl1 : (splice ROW (i * 3) (tcs x)).length = ROW.length := length_splice _ _ _ hf1
  have hn2 : (xs.drop (i * 3)).length = Nat.min (l.length - i) (l.length + 1 - (i + 1)) * i0.size := by rw [List.length_drop, hxl, hz1, show Nat.min (l.length - i) (l.length + 1 - (i + 1)) = l.length - i from Nat.min_eq_left (by omega)]; omega
  have hf2 : (i + 1) * 3 + (xs.drop (i * 3)).length ≤ (splice ROW (i * 3) (tcs x)).length := by rw [hl1, List.length_drop, hxl]; omega
  have ho2 : ∀ u ∈ xs.drop (i * 3), u.oneCell' = true := fun u hu => hone u (List.mem_of_mem_drop hu)
  have hl2 := length_splice (splice ROW (i * 3) (tcs x)) ((i + 1) * 3) (xs.drop (i * 3)) hf2
  have HX := Lib.hid hxc
  clear hxc hcur hv
  go_enter Tryd.func44, Tryd.ntmps44
  go_wp2_with (first
    | (at_builtin; refine Lib.wpList_append_run _ rfl _ _ _ _ rfl _ _ rfl rfl _ _ (hrz' _) ?_)
    | (refine wpList_copy_k (i := i0) (g := w.heap.size) (off := i * 3) (dLen := l.length + 1 - i) (dCap := G - i) (sLen := 1) (sCap := 1) (ad := ⟨vb, 0, none⟩) (cur := ROW) (cs := tcs x) (t := 50) rfl (.tmp 43) (.tmp 44) 22 22 50 rfl Tryd.underlying22 hin (by simp [Act.eval]) (by simp [Act.eval]) hr1 hn1 hs1 hf1 ho1 ?_; intro w2 H2 G2))
  have r2 : w2.heap[g]? = w.heap[g]? := (G2.block g (by have := b1.size; omega) (fun e => by injection e with e; omega)).trans (b1.block g hglt)
  have hs2 : ∀ j u, (xs.drop (i * 3))[j]? = some u → w2.cell? ((⟨g, i * 3, none⟩ : Addr).add j) = some u := fun j u hu => by rw [add_lit']; rw [List.getElem?_drop] at hu; exact HX.out w2 r2 _ _ hu
  have b2 : Below w.heap.size w w2 := b1.trans (bgrown G2 b1.size (fun k hk => by injection hk with e; omega))
  go_region_law (refine step_copy_k (i := i0) (g := w.heap.size) (off := (i + 1) * 3) (dLen := l.length + 1 - (i + 1)) (dCap := G - (i + 1)) (sLen := l.length - i) (sCap := c - i) (ad := ⟨g, i * 3, none⟩) (cur := splice ROW (i * 3) (tcs x)) (cs := xs.drop (i * 3)) (t := 50) rfl (.tmp 50) (.tmp 53) 22 22 50 rfl Tryd.underlying22 hin (by simp [Act.eval, Act.put]) (by simp [Act.eval, Act.put]) H2.out hn2 hs2 hf2 ho2 ?_; intro w3 H3 G3)
  go_wp2
  go_ret
  have b3 : Below w.heap.size w w3 := (show Below w.heap.size w w2.drew from bdrewN b2 1).trans (bgrown G3 b2.size (fun k hk => by injection hk with e; omega))
  exact ⟨_, rfl, own_insert (HR.out _) H3.out (by rw [hl2, hl1]; exact hRl) hfin (Nat.le_of_lt hi) hGn (by omega) (by omega), ⟨b3.os, b3.tape, b3.output, b3.size, fun k hk _ => b3.block k hk⟩, .inr rfl⟩

set_option maxHeartbeats 4000000 in
theorem insert_end {B vb : Nat} {v : Value} {l : List Tri} {x : Tri} {w : World} (hone1 : One3 x) (h : Own trE Any w B 50 v l) (hB : B ≤ w.heap.size) (hn : l.length ≤ 2097152)
    (hv : w.heap[vb]? = some (.cells (tcs x).toArray 50 (0, 0))) :
    Calls Tryd.prog 44 #[v, .int .i64 l.length, .slice (some ⟨vb, 0, none⟩) 1 1] w (Inserted B v l l.length x w) := by
  obtain ⟨i0, hin, hz0, hz1, hz2⟩ := info_parts fi_info
  have hx : Sl trE Any w (.slice (some ⟨vb, 0, none⟩) 1 1) [x] := by
    refine ⟨some ⟨vb, 0, none⟩, 1, tcs x, rfl, by simp, by unfold maxLen; omega, by simp, Reps.single (show trE.rd Any w (tcs x) x from ⟨rfl, hone1⟩), fun j u hu => ⟨vb, 0, rfl, (tcs x).toArray, _, _, hv, by simpa using hu, trivial⟩⟩
  have hsl := h.slAny
  have hlt := h.lt
  obtain ⟨xs, ho, hr⟩ := h
  obtain ⟨A, c, rfl, hc1, hc2, _⟩ := hsl.shape
  unfold maxLen at hc2
  obtain ⟨A1, c1, _, q⟩ := hsl.cut_l Tryd.underlying22 hin hz1 (lo := l.length) (Nat.le_refl _) rfl
  have hll : (l.insertIdx l.length x) = l ++ [x] := by rw [insertIdx_eq _ _ _ (Nat.le_refl _)]; simp
  clear hsl
  go_enter Tryd.func44, Tryd.ntmps44
  go_wp2_with (at_builtin; refine wpList_append_sl _ rfl (.tmp 23) (.tmp 24) 22 rfl (E := trE) (l := l) (m := [x]) (base := B) Tryd.underlying22 hin hz0 hz1 hz2 rfl ho hx rfl rfl (by unfold maxLen; simp; omega) (by simp; omega) hB ?_; intro v' w' ys ho' hr' hg hb)
  all_goals
    go_ret
    refine ⟨_, rfl, ?_, hg, hb⟩
    rw [hll]
    exact ⟨_, ho', (show Reps trE Any w' xs l from ⟨hr.1, fun i a hi => hr.2 i a hi⟩).append (show Reps trE Any w' ys [x] from ⟨hr'.1, fun i a hi => hr'.2 i a hi⟩)⟩

/-- slices.Insert of one write into a row of the call's own -/
theorem insert_c {B i vb : Nat} {v : Value} {l : List Tri} {x : Tri} {w : World} (hone1 : One3 x) (h : Own trE Any w B 50 v l) (hi : i ≤ l.length) (hn : l.length ≤ 2097152)
    (hv : w.heap[vb]? = some (.cells (tcs x).toArray 50 (0, 0))) (hB : B ≤ w.heap.size) (hne : v.ownBlock ≠ some vb) :
    Calls Tryd.prog 44 #[v, .int .i64 i, .slice (some ⟨vb, 0, none⟩) 1 1] w (Inserted B v l i x w) := by
  rcases Nat.lt_or_ge i l.length with hlt | hge
  · obtain ⟨g, c, rfl⟩ : ∃ g c, v = .slice (some ⟨g, 0, none⟩) l.length c := by
      obtain ⟨xs, ho, _⟩ := h
      rcases ho.2 with ⟨_, h0⟩ | ⟨g', cap', cur, hvv, _⟩
      · omega
      · exact ⟨g', cap', hvv⟩
    rcases Nat.lt_or_ge c (l.length + 1) with hc | hc
    · exact insert_new hone1 h hlt (by omega) hn hv
    · exact insert_in hone1 h hlt hc hv (fun e => hne (by rw [e]; rfl))
  · obtain rfl : i = l.length := by omega
    exact insert_end hone1 h hB hn hv
end Go.Proofs.YtbahiohlhhdkcaaDoor
