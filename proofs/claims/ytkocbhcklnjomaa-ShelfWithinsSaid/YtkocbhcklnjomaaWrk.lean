/- Shelves: slices.Insert into a new row. -/
import Derived.Test.YtkocbhcklnjomaaWrj
namespace Go.Proofs.Ytkocbhcklnjomaa
open Go.RowKit

theorem splice_two {α : Type} (R X1 Y X2 : List α) (k m r : Nat) (h1 : R.take k = X1) (hk : k ≤ R.length) (hm : Y.length = m) (hr : X2.length = r) (hl : k + m + r ≤ R.length) :
    (splice (splice R k Y) (k + m) X2).take (k + m + r) = X1 ++ (Y ++ X2) := by
  subst hm hr h1
  unfold splice
  have e1 : (R.take k ++ (Y ++ R.drop (k + Y.length))).take (k + Y.length) = R.take k ++ Y := by
    rw [← List.append_assoc, List.take_append_of_le_length (by simp; omega), List.take_of_length_le (by simp; omega)]
  rw [e1, ← List.append_assoc, List.take_append_of_le_length (by simp; omega), List.take_of_length_le (by simp; omega), List.append_assoc]

set_option maxHeartbeats 4000000 in
/-- there is no room, and something stands behind -/
theorem insert_new {B g c i vb : Nat} {l : List Wr} {x : Wr} {w : World} (h : Own wrE Any w B 32 (.slice (some ⟨g, 0, none⟩) l.length c) l) (hi : i < l.length) (hc : ¬ l.length + 1 ≤ c) (hn : l.length ≤ 1048576)
    (hv : w.heap[vb]? = some (.cells (wcs x).toArray 32 (0, 0))) :
    Calls Try.prog 23 #[.slice (some ⟨g, 0, none⟩) l.length c, .int .i64 i, .slice (some ⟨vb, 0, none⟩) 1 1] w (Inserted B l i x w) := by
  obtain ⟨i0, hin, hz0, hz1, hz2⟩ := info_parts wr_info
  obtain ⟨xs, ho, hr⟩ := h
  have hk4 : wrE.k = 4 := rfl
  obtain ⟨cur, hcur, hsz, htk, hB, hcm⟩ : ∃ cur : List Value, w.heap[g]? = some (.cells cur.toArray 32 (0, 0)) ∧ cur.length = c * 4 ∧ cur.take (l.length * 4) = xs ∧ B ≤ g ∧ l.length ≤ c := by
    rcases ho.2 with ⟨h0, _⟩ | ⟨g', cap', cur, hvv, hb, hh, hn, hm, hs, ht⟩
    · cases h0
    · injection hvv with e1 _ e3
      injection e1 with e1
      injection e1 with e1
      subst e1 e3
      exact ⟨cur.toList, by simpa using hh, by simpa [hk4] using hs, by simpa [hk4] using ht, hb, hn⟩
  have hxl : xs.length = l.length * 4 := ho.1
  have hone := hr.one
  have hglt := (Array.getElem?_eq_some_iff.1 hcur).1
  have hlv := (Array.getElem?_eq_some_iff.1 hv).1
  have hxc : ∀ w' : World, w'.heap[g]? = w.heap[g]? → ∀ j u, xs[j]? = some u → w'.cell? ⟨g, j, none⟩ = some u := fun w' hw' j u hu => by
    have hj := (List.getElem?_eq_some_iff.1 hu).1
    have e : cur[j]? = some u := by rw [← htk, List.getElem?_take, if_pos (by omega)] at hu; exact hu
    rw [cell_of_row w' g j _ _ (0, 0) (hw'.trans hcur)]; simpa using e
  have hold : (Builtin.firstCells i0.size i (.slice (some ⟨g, 0, none⟩) i c)).run Try.prog w.drew = .ok (xs.take (i * 4)).toArray w.drew := by
    rw [hz1]
    exact run_firstCells_some w.drew 4 i ⟨g, 0, none⟩ i c (xs.take (i * 4)) (by rw [List.length_take]; omega) (fun j v hj => by
      rw [add_lit', Nat.zero_add]
      rw [List.getElem?_take] at hj
      split at hj
      · exact hxc _ rfl j v hj
      · cases hj)
  have hik : i + (l.length + 1 - i) = l.length + 1 := by omega
  have hrz := fun ty => Lib.run_append_grow_zeros w 22 3 ty 32 i0 _ .i64 .i64 Try.underlying22 Try.underlying3 hin hz0 (some ⟨g, 0, none⟩) i c (xs.take (i * 4)) hold (l.length + 1 - i) (by omega) (by omega) (by omega) (by omega) (by rw [hz2]; omega) (by rw [hz2, hik]; exact growslice_fits (by omega) (by omega))
  rw [hik] at hrz
  have hkk : (((l.length + 1 - i : Nat)) : Int) = (l.length : Int) + 1 - (i : Int) := by omega
  rw [hkk] at hrz
  have hGn : l.length + 1 ≤ grownCap w (l.length + 1) c 32 := grownCap_ge w _ _ _
  have hG63 : grownCap w (l.length + 1) c 32 ≤ 9223372036854775807 := by
    have := grownCap_le_maxLen w (l.length + 1) c 32 (by unfold maxLen; omega)
    unfold maxLen at this
    omega
  generalize grownCap w (l.length + 1) c 32 = G at hrz hGn hG63
  obtain ⟨ROW, hROW⟩ : ∃ ROW : List Value, ROW = ((xs.take (i * 4)).toArray ++ Builtin.zeroCells (Value.agg #[Value.int IntKind.i64 0, Value.int IntKind.i64 0, Value.int IntKind.i64 0, Value.bool false]).cells (l.length + 1 - i) ++ Builtin.zeroCells (Value.agg #[Value.int IntKind.i64 0, Value.int IntKind.i64 0, Value.int IntKind.i64 0, Value.bool false]).cells (G - (l.length + 1))).toList := ⟨_, rfl⟩
  have hRl : ROW.length = G * 4 := by rw [hROW]; simp [Builtin.zeroCells, Value.cells, hxl]; omega
  have hRt : ROW.take (i * 4) = xs.take (i * 4) := by
    rw [hROW]
    simp only [Array.toList_append, List.append_assoc]
    rw [List.take_append_of_le_length (by simp [hxl]; omega), List.take_of_length_le (by simp; omega)]
  have hrz' : ∀ ty, (Builtin.append_ #[22, 3] ty #[.slice (some ⟨g, 0, none⟩) i c, .int .i64 ((l.length : Int) + 1 - (i : Int))]).run Try.prog w = .ok (.slice (some ⟨w.heap.size, 0, none⟩) (l.length + 1) G) (w.drew.alloc (.cells ROW.toArray 32)) := fun ty => by rw [hrz ty, hROW]
  clear hrz hROW hkk hik hold
  obtain ⟨w1, hw1⟩ : ∃ w1, w1 = w.drew.alloc (.cells ROW.toArray 32) := ⟨_, rfl⟩
  have hr1 : w1.heap[w.heap.size]? = some (.cells ROW.toArray 32 (0, 0)) := by rw [hw1]; exact heap_alloc_new w.drew _
  have b1 : Below w.heap.size w w1 := by rw [hw1]; exact (bdrewN (Below.refl _ _) 1).alloc (Nat.le_refl _) _
  rw [← hw1] at hrz'
  clear hw1
  have q1 := fun w' => run_cut_h (P := Try.prog) (E := wrE) (g := g) (n := l.length) (k := i) (cap := c) Try.underlying22 hin hz1 (by omega) w' .i64 (H := (i : Int)) rfl
  obtain ⟨A2, hA2, q2⟩ := run_cut_l (P := Try.prog) (E := wrE) (g := w.heap.size) (n := l.length + 1) (k := i + 1) (cap := G) Try.underlying22 hin hz1 (by omega)
  obtain ⟨A3, hA3, q3⟩ := run_cut_l (P := Try.prog) (E := wrE) (g := w.heap.size) (n := l.length + 1) (k := i) (cap := G) Try.underlying22 hin hz1 (by omega)
  obtain ⟨A4, hA4, q4⟩ := run_cut_l (P := Try.prog) (E := wrE) (g := g) (n := l.length) (k := i) (cap := c) Try.underlying22 hin hz1 (by omega)
  obtain rfl := hA2 (by omega)
  obtain rfl := hA3 (by omega)
  obtain rfl := hA4 (by omega)
  rw [hk4] at q2 q3 q4
  have q2' := fun w' => q2 w' .i64 ((i : Int) + 1) (by omega)
  have q3' := fun w' => q3 w' .i64 (i : Int) rfl
  have q4' := fun w' => q4 w' .i64 (i : Int) rfl
  clear q2 q3 q4 hA2 hA3 hA4
  have hz3 : (c : Int) < (l.length : Int) + 1 := by omega
  have hz4 : ¬ ((i : Int) = (l.length : Int)) := by omega
  have hwa : IntKind.i64.wrap ((i : Int) + 1) = (i : Int) + 1 := IntWalk.i64_in _ (by omega)
  have hfin := splice_two ROW _ (wcs x) (xs.drop (i * 4)) (i * 4) 4 ((l.length - i) * 4) hRt (by omega) rfl (by rw [List.length_drop, hxl]; omega) (by omega)
  rw [show i * 4 + 4 = (i + 1) * 4 by omega, show (i + 1) * 4 + (l.length - i) * 4 = l.length * 4 + 4 by omega] at hfin
  have HR := Lib.hid (fun (w' : World) => reps_insert (S' := Any) (w' := w') (x := x) hr (Nat.le_of_lt hi))
  clear hr ho htk hRt
  have hn1 : (wcs x).length = Nat.min 1 (l.length + 1 - i) * i0.size := by rw [hz1, show Nat.min 1 (l.length + 1 - i) = 1 from Nat.min_eq_left (by omega)]; rfl
  have hf1 : i * 4 + (wcs x).length ≤ ROW.length := by rw [hRl]; simp [wcs]; omega
  have ho1 : ∀ u ∈ wcs x, u.oneCell' = true := by simp [wcs, Value.oneCell']
  have hv1 : w1.heap[vb]? = some (.cells (wcs x).toArray 32 (0, 0)) := (b1.block vb hlv).trans hv
  have hs1 : ∀ j u, (wcs x)[j]? = some u → w1.cell? ((⟨vb, 0, none⟩ : Addr).add j) = some u := fun j u hu => by rw [add_lit', cell_of_row _ vb _ _ _ (0, 0) hv1]; simpa using hu
  have hl1 : (splice ROW (i * 4) (wcs x)).length = ROW.length := length_splice _ _ _ hf1
  have hn2 : (xs.drop (i * 4)).length = Nat.min (l.length - i) (l.length + 1 - (i + 1)) * i0.size := by rw [List.length_drop, hxl, hz1, show Nat.min (l.length - i) (l.length + 1 - (i + 1)) = l.length - i from Nat.min_eq_left (by omega)]; omega
  have hf2 : (i + 1) * 4 + (xs.drop (i * 4)).length ≤ (splice ROW (i * 4) (wcs x)).length := by rw [hl1, List.length_drop, hxl]; omega
  have ho2 : ∀ u ∈ xs.drop (i * 4), u.oneCell' = true := fun u hu => hone u (List.mem_of_mem_drop hu)
  have hl2 := length_splice (splice ROW (i * 4) (wcs x)) ((i + 1) * 4) (xs.drop (i * 4)) hf2
  have HX := Lib.hid hxc
  clear hxc hcur hv
  go_enter Try.func23, Try.ntmps23
  go_wp2_with (first
    | (at_builtin; refine Lib.wpList_append_run _ rfl _ _ _ _ rfl _ _ rfl rfl _ _ (hrz' _) ?_)
    | (refine wpList_copy_k (i := i0) (g := w.heap.size) (off := i * 4) (dLen := l.length + 1 - i) (dCap := G - i) (sLen := 1) (sCap := 1) (ad := ⟨vb, 0, none⟩) (cur := ROW) (cs := wcs x) (t := 32) rfl (.tmp 43) (.tmp 44) 22 22 32 rfl Try.underlying22 hin (by simp [Act.eval]) (by simp [Act.eval]) hr1 hn1 hs1 hf1 ho1 ?_; intro w2 H2 G2))
  have r2 : w2.heap[g]? = w.heap[g]? := (G2.block g (by have := b1.size; omega) (fun e => by injection e with e; omega)).trans (b1.block g hglt)
  have hs2 : ∀ j u, (xs.drop (i * 4))[j]? = some u → w2.cell? ((⟨g, i * 4, none⟩ : Addr).add j) = some u := fun j u hu => by rw [add_lit']; rw [List.getElem?_drop] at hu; exact HX.out w2 r2 _ _ hu
  have b2 : Below w.heap.size w w2 := b1.trans (bgrown G2 b1.size (fun k hk => by injection hk with e; omega))
  go_region_law (refine step_copy_k (i := i0) (g := w.heap.size) (off := (i + 1) * 4) (dLen := l.length + 1 - (i + 1)) (dCap := G - (i + 1)) (sLen := l.length - i) (sCap := c - i) (ad := ⟨g, i * 4, none⟩) (cur := splice ROW (i * 4) (wcs x)) (cs := xs.drop (i * 4)) (t := 32) rfl (.tmp 50) (.tmp 53) 22 22 32 rfl Try.underlying22 hin (by simp [Act.eval, Act.put]) (by simp [Act.eval, Act.put]) H2.out hn2 hs2 hf2 ho2 ?_; intro w3 H3 G3)
  go_wp2
  go_ret
  have b3 : Below w.heap.size w w3 := (show Below w.heap.size w w2.drew from bdrewN b2 1).trans (bgrown G3 b2.size (fun k hk => by injection hk with e; omega))
  exact ⟨_, rfl, own_insert (HR.out _) H3.out (by rw [hl2, hl1]; exact hRl) hfin (Nat.le_of_lt hi) hGn (by omega) (by omega), b3.mono (by omega)⟩
end Go.Proofs.Ytkocbhcklnjomaa
