/- Shelves: slices.Insert, behind the last one; all ways together. -/
import Derived.Test.YtkocbhcklnjomaaWrk
namespace Go.Proofs.Ytkocbhcklnjomaa
open Go.RowKit

set_option maxHeartbeats 4000000 in
theorem insert_end {B vb : Nat} {v : Value} {l : List Wr} {x : Wr} {w : World} (h : Own wrE Any w B 32 v l) (hB : B ≤ w.heap.size) (hn : l.length ≤ 1048576)
    (hv : w.heap[vb]? = some (.cells (wcs x).toArray 32 (0, 0))) :
    Calls Try.prog 23 #[v, .int .i64 l.length, .slice (some ⟨vb, 0, none⟩) 1 1] w (Inserted B l l.length x w) := by
  obtain ⟨i0, hin, hz0, hz1, hz2⟩ := info_parts wr_info
  have hx : Sl wrE Any w (.slice (some ⟨vb, 0, none⟩) 1 1) [x] := by
    refine ⟨some ⟨vb, 0, none⟩, 1, wcs x, rfl, by simp, by unfold maxLen; omega, by simp, Reps.single (show wrE.rd Any w (wcs x) x from rfl), fun j u hu => ⟨vb, 0, rfl, (wcs x).toArray, _, _, hv, by simpa using hu, trivial⟩⟩
  have hsl := h.slAny
  have hlt := h.lt
  obtain ⟨xs, ho, hr⟩ := h
  obtain ⟨A, c, rfl, hc1, hc2, _⟩ := hsl.shape
  unfold maxLen at hc2
  obtain ⟨A1, c1, _, q⟩ := hsl.cut_l Try.underlying22 hin hz1 (lo := l.length) (Nat.le_refl _) rfl
  have hll : (l.insertIdx l.length x) = l ++ [x] := by rw [insertIdx_eq _ _ _ (Nat.le_refl _)]; simp
  clear hsl
  go_enter Try.func23, Try.ntmps23
  go_wp2_with (at_builtin; refine wpList_append_sl _ rfl (.tmp 23) (.tmp 24) 22 rfl (E := wrE) (l := l) (m := [x]) (base := B) Try.underlying22 hin hz0 hz1 hz2 rfl ho hx rfl rfl (by unfold maxLen; simp; omega) (by simp; omega) hB ?_; intro v' w' ys ho' hr' hg hb)
  all_goals
    go_ret
    refine ⟨_, rfl, ?_, bgrown hg hB (fun k hk => (hlt k hk).1)⟩
    rw [hll]
    exact ⟨_, ho', (show Reps wrE Any w' xs l from ⟨hr.1, fun i a hi => hr.2 i a hi⟩).append (show Reps wrE Any w' ys [x] from ⟨hr'.1, fun i a hi => hr'.2 i a hi⟩)⟩

/-- slices.Insert of one write into a row of the call's own -/
theorem insert_c {B i vb : Nat} {v : Value} {l : List Wr} {x : Wr} {w : World} (h : Own wrE Any w B 32 v l) (hi : i ≤ l.length) (hn : l.length ≤ 1048576)
    (hv : w.heap[vb]? = some (.cells (wcs x).toArray 32 (0, 0))) (hB : B ≤ w.heap.size) (hne : v.ownBlock ≠ some vb) :
    Calls Try.prog 23 #[v, .int .i64 i, .slice (some ⟨vb, 0, none⟩) 1 1] w (Inserted B l i x w) := by
  rcases Nat.lt_or_ge i l.length with hlt | hge
  · obtain ⟨g, c, rfl⟩ : ∃ g c, v = .slice (some ⟨g, 0, none⟩) l.length c := by
      obtain ⟨xs, ho, _⟩ := h
      rcases ho.2 with ⟨_, h0⟩ | ⟨g', cap', cur, hvv, _⟩
      · omega
      · exact ⟨g', cap', hvv⟩
    rcases Nat.lt_or_ge c (l.length + 1) with hc | hc
    · exact insert_new h hlt (by omega) hn hv
    · exact insert_in h hlt hc hv (fun e => hne (by rw [e]; rfl))
  · obtain rfl : i = l.length := by omega
    exact insert_end h hB hn hv
end Go.Proofs.Ytkocbhcklnjomaa
