/- Shelves: slices.Insert in place. -/
import Derived.Test.YtkocbhcklnjomaaWri
namespace Go.Proofs.Ytkocbhcklnjomaa
open Go.RowKit

theorem run_overlaps_wr (w : World) {vb g : Nat} (hne : vb ≠ g) {x : List Value} {cur : List Value} (hx : x.length = 4) (hv : w.heap[vb]? = some (.cells x.toArray 32 (0, 0))) (hg : w.heap[g]? = some (.cells cur.toArray 32 (0, 0))) (hcur : cur.length ≠ 0) (o m c lb cb : Nat) :
    (callFunc 35 #[.slice (some ⟨vb, 0, none⟩) m c, .slice (some ⟨g, o, none⟩) lb cb]).run Try.prog w = .ok (.value (.bool false)) w := by
  obtain ⟨i0, hi, hz0, hz1, hz2⟩ := info_parts wr_info
  rw [run_callFunc_extern Try.func35 (by kernel_rfl) (by kernel_rfl) (by kernel_rfl) (e := Extern.SlicesOverlaps.overlaps #[22, 22] #[4]) (by kernel_rfl),
    Lib.run_overlaps_apart w 22 4 32 Try.underlying22 4 (fun w => run_size_of (E := wrE) hi hz1 w) ⟨vb, 0, none⟩ ⟨g, o, none⟩ m c lb cb hne 32 32 4 cur.length (by simp [World.shape?, hv, hx]) (by simp [World.shape?, hg]) hcur (frozen_of_row w vb 0 _ _ hv) (by simp [World.frozen?, hv])]
  rfl

theorem own_insert {w' : World} {B g c i : Nat} {l : List Wr} {x : Wr} {C xs : List Value} (hR : Reps wrE Any w' xs (l.insertIdx i x)) (hrow : w'.heap[g]? = some (.cells C.toArray 32 (0, 0))) (hC : C.length = c * 4) (ht : C.take (l.length * 4 + 4) = xs)
    (hi : i ≤ l.length) (hc : l.length + 1 ≤ c) (hcm : c ≤ 9223372036854775807) (hB : B ≤ g) : Own wrE Any w' B 32 (.slice (some ⟨g, 0, none⟩) (l.length + 1) c) (l.insertIdx i x) := by
  have hl : (l.insertIdx i x).length = l.length + 1 := List.length_insertIdx_of_le_length hi _
  refine ⟨xs, ?_, hR⟩
  refine ⟨by have := hR.1; exact this, .inr ⟨g, c, C.toArray, by rw [hl], hB, hrow, by omega, by unfold maxLen; omega, by show C.toArray.size = c * 4; simpa using hC, ?_⟩⟩
  rw [hl, ← ht]
  show List.take ((l.length + 1) * 4) C = _
  congr 1; omega

set_option maxHeartbeats 4000000 in
/-- there is room, and something stands behind -/
theorem insert_in {B g c i vb : Nat} {l : List Wr} {x : Wr} {w : World} (h : Own wrE Any w B 32 (.slice (some ⟨g, 0, none⟩) l.length c) l) (hi : i < l.length) (hc : l.length + 1 ≤ c)
    (hv : w.heap[vb]? = some (.cells (wcs x).toArray 32 (0, 0))) (hne : vb ≠ g) :
    Calls Try.prog 23 #[.slice (some ⟨g, 0, none⟩) l.length c, .int .i64 i, .slice (some ⟨vb, 0, none⟩) 1 1] w (Inserted B l i x w) := by
  obtain ⟨i0, hin, hz0, hz1, hz2⟩ := info_parts wr_info
  obtain ⟨xs, ho, hr⟩ := h
  have hk4 : wrE.k = 4 := rfl
  obtain ⟨cur, hcur, hsz, htk, hB, hcm⟩ : ∃ cur : List Value, w.heap[g]? = some (.cells cur.toArray 32 (0, 0)) ∧ cur.length = c * 4 ∧ cur.take (l.length * 4) = xs ∧ B ≤ g ∧ c ≤ maxLen := by
    rcases ho.2 with ⟨h0, _⟩ | ⟨g', cap', cur, hvv, hb, hh, _, hm, hs, ht⟩
    · cases h0
    · injection hvv with e1 _ e3
      injection e1 with e1
      injection e1 with e1
      subst e1 e3
      exact ⟨cur.toList, by simpa using hh, by simpa [hk4] using hs, by simpa [hk4] using ht, hb, hm⟩
  unfold maxLen at hcm
  have hcz : cur.length ≠ 0 := by omega
  have hov := run_overlaps_wr w hne (x := wcs x) rfl hv hcur hcz ((i + 1) * 4) 1 1
  have q1 := fun w' => run_cut_h (P := Try.prog) (E := wrE) (g := g) (n := l.length) (k := l.length + 1) (cap := c) Try.underlying22 hin hz1 hc w' .i64 (H := (l.length : Int) + 1) (by omega)
  obtain ⟨A2, hA2, q2⟩ := run_cut_l (P := Try.prog) (E := wrE) (g := g) (n := l.length + 1) (k := i + 1) (cap := c) Try.underlying22 hin hz1 (by omega)
  obtain ⟨A3, hA3, q3⟩ := run_cut_l (P := Try.prog) (E := wrE) (g := g) (n := l.length + 1) (k := i) (cap := c) Try.underlying22 hin hz1 (by omega)
  obtain rfl := hA2 (by omega)
  obtain rfl := hA3 (by omega)
  rw [hk4] at q2 q3
  have q2' := fun w' => q2 w' .i64 ((i : Int) + 1) (by omega)
  have q3' := fun w' => q3 w' .i64 (i : Int) rfl
  clear q2 q3 hA2 hA3
  have hz3 : ¬ ((c : Int) < (l.length : Int) + 1) := by omega
  have hz4 : ¬ ((i : Int) = (l.length : Int)) := by omega
  have hw1 : IntKind.i64.wrap ((i : Int) + 1) = (i : Int) + 1 := IntWalk.i64_in _ (by omega)
  have hxl : xs.length = l.length * 4 := ho.1
  have hone := hr.one
  have hxc : ∀ j u, xs[j]? = some u → w.cell? ⟨g, j, none⟩ = some u := fun j u hu => by
    have hj := (List.getElem?_eq_some_iff.1 hu).1
    have e : cur[j]? = some u := by rw [← htk, List.getElem?_take, if_pos (by omega)] at hu; exact hu
    rw [cell_of_row w g j _ _ (0, 0) hcur]; simpa using e
  have hfin := splice_shift cur (wcs x) (i * 4) (l.length * 4) 4 (by omega) rfl (by omega)
  rw [htk] at hfin
  have HR := Lib.hid (fun (w' : World) => reps_insert (S' := Any) (w' := w') (x := x) hr (Nat.le_of_lt hi))
  clear hr ho htk
  go_enter Try.func23, Try.ntmps23
  have hn1 : (xs.drop (i * 4)).length = Nat.min (l.length + 1 - i) (l.length + 1 - (i + 1)) * i0.size := by rw [List.length_drop, hxl, hz1, show Nat.min (l.length + 1 - i) (l.length + 1 - (i + 1)) = l.length + 1 - (i + 1) from Nat.min_eq_right (by omega)]; omega
  have hs1 : ∀ j u, (xs.drop (i * 4))[j]? = some u → w.cell? ((⟨g, i * 4, none⟩ : Addr).add j) = some u := fun j u hu => by rw [add_lit']; rw [List.getElem?_drop] at hu; exact hxc _ _ hu
  have hf1 : (i + 1) * 4 + (xs.drop (i * 4)).length ≤ cur.length := by rw [List.length_drop, hxl]; omega
  have ho1 : ∀ u ∈ xs.drop (i * 4), u.oneCell' = true := fun u hu => hone u (List.mem_of_mem_drop hu)
  have hl1 : (splice cur ((i + 1) * 4) (xs.drop (i * 4))).length = cur.length := length_splice _ _ _ hf1
  rw [show i * 4 + 4 = (i + 1) * 4 by omega] at hfin
  have hl2 := length_splice (splice cur ((i + 1) * 4) (xs.drop (i * 4))) (i * 4) (wcs x) (by rw [hl1]; simp [wcs]; omega)
  have hn2 : (wcs x).length = Nat.min 1 (l.length + 1 - i) * i0.size := by rw [hz1, show Nat.min 1 (l.length + 1 - i) = 1 from Nat.min_eq_left (by omega)]; rfl
  have hf2 : i * 4 + (wcs x).length ≤ (splice cur ((i + 1) * 4) (xs.drop (i * 4))).length := by rw [hl1]; simp [wcs]; omega
  have hlv := (Array.getElem?_eq_some_iff.1 hv).1
  go_wp2_with (simp only [hov])
  go_region_law (refine step_copy_k (i := i0) (g := g) (off := (i + 1) * 4) (dLen := l.length + 1 - (i + 1)) (dCap := c - (i + 1)) (sLen := l.length + 1 - i) (sCap := c - i) (ad := ⟨g, i * 4, none⟩) (cur := cur) (cs := xs.drop (i * 4)) (t := 32) rfl (.tmp 73) (.tmp 76) 22 22 32 rfl Try.underlying22 hin (by simp [Act.eval, Act.put]) (by simp [Act.eval, Act.put]) hcur hn1 hs1 hf1 ho1 ?_; intro w2 H2 G2)
  have hv2 : w2.heap[vb]? = some (.cells (wcs x).toArray 32 (0, 0)) := (G2.block vb hlv (fun e => hne (by injection e))).trans hv
  have hs2 : ∀ j u, (wcs x)[j]? = some u → w2.cell? ((⟨vb, 0, none⟩ : Addr).add j) = some u := fun j u hu => by rw [add_lit', cell_of_row _ vb _ _ _ (0, 0) hv2]; simpa using hu
  have ho2 : ∀ u ∈ wcs x, u.oneCell' = true := by simp [wcs, Value.oneCell']
  have b2 : Below B w w2 := ⟨G2.os, G2.tape, G2.output, G2.size, fun k hk => G2.block k (show k < w.heap.size by have := (Array.getElem?_eq_some_iff.1 hcur).1; omega) (fun e => by injection e with e; omega)⟩
  go_wp2_with (refine wpList_copy_k (i := i0) (g := g) (off := i * 4) (dLen := l.length + 1 - i) (dCap := c - i) (sLen := 1) (sCap := 1) (ad := ⟨vb, 0, none⟩) (cur := splice cur ((i + 1) * 4) (xs.drop (i * 4))) (cs := wcs x) (t := 32) rfl (.tmp 80) (.tmp 81) 22 22 32 rfl Try.underlying22 hin (by simp [Act.eval]) (by simp [Act.eval]) H2.out hn2 hs2 hf2 ho2 ?_; intro w3 H3 G3)
  go_ret
  refine ⟨_, rfl, own_insert (HR.out _) H3.out (by rw [hl2, hl1]; exact hsz) hfin (Nat.le_of_lt hi) hc (by omega) hB, ?_⟩
  exact b2.trans (bgrown G3 (by have := b2.size; have := (Array.getElem?_eq_some_iff.1 hcur).1; omega) (fun k hk => by injection hk with e; omega))
end Go.Proofs.Ytkocbhcklnjomaa
